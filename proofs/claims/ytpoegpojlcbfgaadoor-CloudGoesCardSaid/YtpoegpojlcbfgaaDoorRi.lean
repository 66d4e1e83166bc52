/- maps.Clone of the two maps; the stocks' clone. -/
import Derived.Test.YtpoegpojlcbfgaaDoorRh
import Derived.Laws.Externs
import Derived.MapKept
namespace Go.Proofs.YtpoegpojlcbfgaaDoor
open Go.RowKit

theorem eql_map (w : World) (t k e : TypeId) (p : Option Nat) (h : Tryd.prog.underlying t = some (.map k e)) : (binOp .eql t (.map p) (.map none)).run Tryd.prog w = .ok (.bool p.isNone) w := by
  have h1 : ∀ d, (Op.equalIn (d + 1) t (.map p) (.map none)).run Tryd.prog w = .ok p.isNone w := fun d => by cases p <;> simp [Op.equalIn, run_underlying h]
  simp only [binOp]
  simp [show Op.equal t (.map p) (.map none) = Op.equalIn (9999 + 1) t (.map p) (.map none) from rfl, h1]
theorem assert_map (w : World) (t xT k e : TypeId) (v : Value) (h : Tryd.prog.underlying t = some (.map k e)) : (Instr.typeAssert (.iface t v) xT t false).run Tryd.prog w = .ok v w := by
  simp [Instr.typeAssert, run_underlying h, go_sem, Result.andThen]
theorem extern_clone {w : World} {r : Nat} {es : Array MapEntry} {clock : Nat} (t : TypeId) (hb : w.heap[r]? = some (.map es clock)) :
    (Extern.MapsClone.clone #[.iface t (.map (some r))]).run Tryd.prog w = .ok (.iface t (.map (some w.heap.size))) (w.alloc (.map es clock)) := by
  have e : Extern.MapsClone.clone #[.iface t (.map (some r))] = (getObj r >>= fun o => match o with
      | .map entries clock => (newObj (.map entries clock) >>= fun n => pure (.iface t (.map (some n))))
      | _ => stuck "maps.clone: a map expected") := rfl
  rw [e]
  simp [MapKept.run_getObj_map hb, Result.andThen, go_sem]

set_option maxRecDepth 100000 in
theorem clonem_any (b : Nat) (es : Array MapEntry) (clock : Nat) (w : World) (hb : w.heap[b]? = some (.map es clock)) :
    Calls Tryd.prog 38 #[.map (some b)] w fun e w' => e = .returned (.map (some w.heap.size)) ∧ w' = w.alloc (.map es clock) := by
  have hq := fun w => eql_map w 51 _ _ (some b) Tryd.underlying51
  go_enter Tryd.func38, Tryd.ntmps38
  go_wp2
  rw [run_callFunc_extern Tryd.func41 (by kernel_rfl) (by kernel_rfl) (by kernel_rfl) (e := Extern.MapsClone.clone) (by kernel_rfl), extern_clone 51 hb]
  simp only [Result.andThen]
  rw [Oper.upon_value]
  go_wp2
  rw [assert_map _ 51 20 _ _ _ Tryd.underlying51]
  simp only [Result.andThen]
  rw [Oper.upon_value]
  go_wp2
  go_ret
  exact ⟨rfl, rfl⟩
set_option maxRecDepth 100000 in
theorem cloneo_any (b : Nat) (es : Array MapEntry) (clock : Nat) (w : World) (hb : w.heap[b]? = some (.map es clock)) :
    Calls Tryd.prog 72 #[.map (some b)] w fun e w' => e = .returned (.map (some w.heap.size)) ∧ w' = w.alloc (.map es clock) := by
  have hq := fun w => eql_map w 53 _ _ (some b) Tryd.underlying53
  go_enter Tryd.func72, Tryd.ntmps72
  go_wp2
  rw [run_callFunc_extern Tryd.func41 (by kernel_rfl) (by kernel_rfl) (by kernel_rfl) (e := Extern.MapsClone.clone) (by kernel_rfl), extern_clone 53 hb]
  simp only [Result.andThen]
  rw [Oper.upon_value]
  go_wp2
  rw [assert_map _ 53 20 _ _ _ Tryd.underlying53]
  simp only [Result.andThen]
  rw [Oper.upon_value]
  go_wp2
  go_ret
  exact ⟨rfl, rfl⟩
set_option maxRecDepth 100000 in
theorem clones_stock (b : Nat) (es : Array MapEntry) (clock : Nat) (w : World) (hb : w.heap[b]? = some (.map es clock)) :
    Calls Tryd.prog 70 #[.map (some b)] w fun e w' => e = .returned (.iface 53 (.map (some w.heap.size))) ∧ w' = w.alloc (.map es clock) := by
  have HC := Lib.hid (cloneo_any b es clock w hb)
  go_enter Tryd.func70, Tryd.ntmps70
  go_wp2_with fail
  refine HC.out.mono ?_
  rintro er w1 ⟨rfl, rfl⟩
  go_wp2_with fail
  go_ret
  exact ⟨rfl, rfl⟩
end Go.Proofs.YtpoegpojlcbfgaaDoor
