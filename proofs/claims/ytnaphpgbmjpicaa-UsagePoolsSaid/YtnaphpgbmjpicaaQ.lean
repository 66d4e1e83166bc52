/- The frame of a law's row: what is read of the arguments; what is handed back. -/
import Derived.Test.YtnaphpgbmjpicaaRows
import Derived.Test.YtnaphpgbmjpicaaO
import Derived.ProofKit
import Derived.OpenShut
import Derived.ShutString
import Derived.ChangeOld
import Derived.Below
namespace Go.Proofs.Ytnaphpgbmjpicaa
open Go.ChangeShapes Go.WideShapes Go.ChangeAt Go.RowKit
open Go.ChangeMaps (open_string shut_string)

theorem own : ownKnob Try.prog.godebug = none := by kernel_rfl
theorem laidOut : laidOutB Try.prog = true := by kernel_rfl
theorem cells26 : Try.prog.cellsOf 26 = 2 := by kernel_rfl
theorem cells2 : Try.prog.cellsOf 2 = 1 := by kernel_rfl
theorem two_of {n : Nat} (h : n = Try.prog.cellsOf 26) : n = 2 := by rw [h]; exact cells26

theorem list2 {α : Type} : ∀ {l : List α}, l.length = 2 → ∃ a b, l = [a, b]
  | [a, b], _ => ⟨a, b, rfl⟩

section
variable {H : Type} {enc : TypeId × Value → H} {w : World} {base : Nat} {spare : Nat → Bool} {held : Bool}
set_option maxRecDepth 100000 in
/-- Two cells that read as a pair of amounts. -/
theorem trod26 {fuel : Nat} {cs : List Value} {x : DataW H × List MemPlace} (h : DataW.trod enc Try.prog w base spare held fuel 26 cs = some x) :
    ∃ a b : Int, cs = [.int .i64 a, .int .i64 b] ∧ (Lit.int .i64 a).wf = true ∧ (Lit.int .i64 b).wf = true := by
  obtain ⟨xs, m, _, _, hl, hn, hi⟩ := DataW.trod_array Try.underlying26 h
  obtain ⟨c0, c1, rfl⟩ := list2 (two_of hl)
  obtain ⟨x0, x1, rfl⟩ := list2 hn
  have h0 := hi 0 (by omega)
  have h1 := hi 1 (by omega)
  rw [cells2] at h0 h1
  obtain ⟨a, e0, _, wa⟩ := DataW.trod_int Try.underlying2 (x := x0) (by simpa using h0)
  obtain ⟨b, e1, _, wb⟩ := DataW.trod_int Try.underlying2 (x := x1) (by simpa using h1)
  simp at e0 e1
  exact ⟨a, b, by rw [e0, e1], wa, wb⟩
theorem okWide_agg {r : Reach} {b0 : Nat} {W : World} {v : Value} {n : Nat} {t e : TypeId} (ht : Try.prog.underlying t = some (.array n e)) (hv : Value.okWide Try.prog W r b0 t v) : ∃ cs, v = .agg cs ∧ cs.size = Try.prog.cellsOf t := by
  unfold Value.okWide at hv
  rw [ht] at hv
  obtain ⟨cs, h1, h2, _⟩ := hv
  exact ⟨cs, h1, h2⟩
set_option maxRecDepth 100000 in
theorem open26 {r : Reach} {b0 : Nat} {W : World} {v : Value} {d : DataW H} {p : List MemPlace} (hv : Value.okWide Try.prog W r b0 26 v) (h : DataW.Trod enc Try.prog w base spare held 26 v d p) :
    ∃ a b : Int, v = .agg #[.int .i64 a, .int .i64 b] ∧ (Lit.int .i64 a).wf = true ∧ (Lit.int .i64 b).wf = true := by
  obtain ⟨cs, rfl, _⟩ := okWide_agg Try.underlying26 hv
  obtain ⟨fuel, hf⟩ := h
  obtain ⟨a, b, he, wa, wb⟩ := trod26 hf
  have h2 : cs.toList = [.int .i64 a, .int .i64 b] := he
  exact ⟨a, b, congrArg Value.agg (Array.ext' h2), wa, wb⟩
end

end Go.Proofs.Ytnaphpgbmjpicaa
