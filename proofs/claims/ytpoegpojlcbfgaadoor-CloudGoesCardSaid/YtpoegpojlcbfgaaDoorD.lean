/- New, Writes, SetDelay, Notify, Take. -/
import Derived.Test.YtpoegpojlcbfgaaDoorC
namespace Go.Proofs.YtpoegpojlcbfgaaDoor
open Go.RowKit

def Cd.new : Cd := ⟨[], [], [], 0, [], 0⟩

set_option maxRecDepth 100000 in
theorem writes_any (c : Cd) (p : Nat) (F : List Nat) (w : World) (h : Own w p c F) :
    Calls Tryd.prog 16 #[.pointer (some ⟨p, 0, none⟩)] w fun e w' => e = .returned (.int .i64 c.n) ∧ w' = w := by
  obtain ⟨be, bs, oi, on, vi, vn, h, rfl⟩ := h
  obtain ⟨c0, c1, c2, c3, c4, c5⟩ := h.cells
  go_enter Tryd.func16, Tryd.ntmps16
  go_wp2_with fail
  go_ret
  exact ⟨rfl, rfl⟩

set_option maxRecDepth 100000 in
theorem new_any (w : World) :
    Calls Tryd.prog 9 #[] w fun e w' => ∃ p F, e = .returned (.pointer (some ⟨p, 0, none⟩)) ∧ Own w' p Cd.new F ∧ Step [] F w w' := by
  have hmm := @run_makeMap Tryd.prog
  go_enter Tryd.func9, Tryd.ntmps9
  go_wp2_with fail
  go_ret
  have h0 : ∀ (w : World) (o : Obj), (w.alloc o).heap[w.heap.size]? = some o := fun w o => by show (w.heap.push o)[w.heap.size]? = _; simp
  refine ⟨w.heap.size + 1 + 1, foot (w.heap.size + 1 + 1) w.heap.size (w.heap.size + 1) none none, rfl, ⟨_, _, none, none, _, _, ⟨?_, ?_, ?_, by omega, Rowed.nil _ _ _, Rowed.nil _ _ _⟩, rfl⟩, ?_⟩
  · have := h0 ((w.alloc (.map #[] 0)).alloc (.map #[] 0)) (.cells #[.slice none 0 0, .map (some w.heap.size), .iface 53 (.map (some (w.heap.size + 1))), .int .i64 0, .slice none 0 0, .int .i64 0] 57)
    simpa [Cd.new] using this
  · exact (Below.heap_alloc _ _ _ (by simp; omega)).trans ((Below.heap_alloc _ _ _ (by simp)).trans (h0 _ _))
  · have := h0 (w.alloc (.map #[] 0)) (.map #[] 0)
    exact (Below.heap_alloc _ _ _ (by simp)).trans (by simpa [Cd.new, stks] using this)
  · refine ⟨rfl, rfl, rfl, by simp; omega, fun k hk _ => (Below.heap_alloc _ _ _ (by simp; omega)).trans ((Below.heap_alloc _ _ _ (by simp; omega)).trans (Below.heap_alloc _ _ _ hk)), fun k hk => .inr ?_⟩
    rcases mem_foot.1 hk with rfl | rfl | rfl | e | e
    · omega
    · omega
    · omega
    · cases e
    · cases e

def delayE (n : Int) : Int := if n < 0 ∨ 1073741824 < n then 1 else 0
def Cd.delay (c : Cd) (n : Int) : Cd := if n < 0 ∨ 1073741824 < n then c else { c with dl := n }
set_option maxRecDepth 100000 in
theorem delay_any (c : Cd) (p : Nat) (F : List Nat) (w : World) (n : Int) (h : Own w p c F) :
    Calls Tryd.prog 22 #[.pointer (some ⟨p, 0, none⟩), .int .i64 n] w fun e w' => e = .returned (.int .i64 (delayE n)) ∧ Own w' p (c.delay n) F ∧ Step F F w w' := by
  by_cases hn : n < 0 ∨ 1073741824 < n
  · have e1 : delayE n = 1 := by unfold delayE; rw [if_pos hn]
    have e2 : c.delay n = c := by unfold Cd.delay; rw [if_pos hn]
    rw [e1, e2]
    clear e1 e2
    by_cases h1 : n < 0
    · go_enter Tryd.func22, Tryd.ntmps22
      go_wp2_with fail
      go_ret
      exact ⟨rfl, h, Step.of_below (Below.refl _ _)⟩
    · have h2 : 1073741824 < n := by omega
      go_enter Tryd.func22, Tryd.ntmps22
      go_wp2_with fail
      go_ret
      exact ⟨rfl, h, Step.of_below (Below.refl _ _)⟩
  · have e1 : delayE n = 0 := by unfold delayE; rw [if_neg hn]
    have e2 : c.delay n = { c with dl := n } := by unfold Cd.delay; rw [if_neg hn]
    rw [e1, e2]
    clear e1 e2
    have h1 : ¬ n < 0 := by omega
    have h2 : ¬ 1073741824 < n := by omega
    obtain ⟨be, bs, oi, on, vi, vn, h, rfl⟩ := h
    have H := Lib.hid h
    have f3 := h.free 3
    obtain ⟨c0, c1, c2, c3, c4, c5⟩ := h.cells
    clear h
    go_enter Tryd.func22, Tryd.ntmps22
    go_wp2_with fail
    go_ret
    exact ⟨rfl, ⟨be, bs, oi, on, vi, vn, H.out.set_dl n, rfl⟩, step_set w _ (mem_foot.2 (.inl rfl))⟩

theorem info9 : (Tryd.prog.info? 9).map (fun i => (i.zero, i.size, i.bytes)) = some (some (.string .empty), 1, 16) := by kernel_rfl
theorem emp_iff {s : ByteArray} : s.toList.isEmpty = true ↔ s.size = 0 := by
  rw [ByteArray.toList_eq, List.isEmpty_iff]
  obtain ⟨⟨x⟩⟩ := s
  simp [ByteArray.size]
def notifyE (c : Cd) (s : ByteArray) : Int := if s.size = 0 ∨ 16 < s.size then 1 else if 32 ≤ c.ns.length then 3 else 0
def Cd.notify (c : Cd) (s : ByteArray) : Cd := if s.size = 0 ∨ 16 < s.size then c else if 32 ≤ c.ns.length then c else { c with ns := c.ns ++ [s] }
theorem step_refl (F : List Nat) (w : World) : Step F F w w := Step.of_below (Below.refl _ _)
set_option maxRecDepth 100000 in
theorem notify_any (c : Cd) (p : Nat) (F : List Nat) (w : World) (s : ByteArray) (hs : s.size ≤ 9223372036854775807) (h : Own w p c F) :
    Calls Tryd.prog 14 #[.pointer (some ⟨p, 0, none⟩), .string s] w fun e w' => e = .returned (.int .i64 (notifyE c s)) ∧ ∃ F', Own w' p (c.notify s) F' ∧ Step F F' w w' := by
  by_cases h1 : s.size = 0 ∨ 16 < s.size
  · have e1 : notifyE c s = 1 := by unfold notifyE; rw [if_pos h1]
    have e2 : c.notify s = c := by unfold Cd.notify; rw [if_pos h1]
    rw [e1, e2]
    clear e1 e2
    rcases he : s.toList.isEmpty with _ | _
    · have h3 : 16 < s.size := by
        rcases h1 with h1 | h1
        · rw [emp_iff.2 h1] at he; cases he
        · exact h1
      have hl : ¬ s.toList = [] := fun e => by rw [e] at he; cases he
      clear h1
      go_enter Tryd.func14, Tryd.ntmps14
      go_wp2_with fail
      go_ret
      exact ⟨rfl, F, h, step_refl _ _⟩
    · have hl : s.toList = [] := by simpa using he
      clear h1
      go_enter Tryd.func14, Tryd.ntmps14
      go_wp2_with fail
      go_ret
      exact ⟨rfl, F, h, step_refl _ _⟩
  · have he : s.toList.isEmpty = false := by rw [← Bool.not_eq_true, emp_iff]; omega
    have hl : ¬ s.toList = [] := fun e => by rw [e] at he; cases he
    have h3 : ¬ 16 < s.size := by omega
    obtain ⟨be, bs, oi, on, vi, vn, h, rfl⟩ := h
    have hmax : c.ns.length ≤ 9223372036854775807 := by
      obtain ⟨a, cap, hv, hle, _⟩ := h.ns.shape
      have := h.ns.max; unfold maxLen at this; omega
    obtain ⟨a, cap, rfl, _⟩ := h.ns.shape
    have H := Lib.hid h
    have f4 := h.free 4
    obtain ⟨c0, c1, c2, c3, c4, c5⟩ := h.cells
    clear h
    by_cases h2 : 32 ≤ c.ns.length
    · have e1 : notifyE c s = 3 := by unfold notifyE; rw [if_neg h1, if_pos h2]
      have e2 : c.notify s = c := by unfold Cd.notify; rw [if_neg h1, if_pos h2]
      rw [e1, e2]
      clear e1 e2 h1
      go_enter Tryd.func14, Tryd.ntmps14
      go_wp2_with fail
      go_ret
      exact ⟨rfl, _, ⟨be, bs, oi, on, vi, _, H.out, rfl⟩, step_refl _ _⟩
    · have e1 : notifyE c s = 0 := by unfold notifyE; rw [if_neg h1, if_neg h2]
      have e2 : c.notify s = { c with ns := c.ns ++ [s] } := by unfold Cd.notify; rw [if_neg h1, if_neg h2]
      rw [e1, e2]
      clear e1 e2 h1
      obtain ⟨i0, hi, hz0, hz1, hz2⟩ := info_parts info9
      have HI := Lib.hid hi
      have HZ0 := Lib.hid hz0
      have HZ1 := Lib.hid hz1
      have HZ2 := Lib.hid hz2
      clear hi hz0 hz1 hz2
      go_enter Tryd.func14, Tryd.ntmps14
      go_wp2_with (at_builtin; refine wpList_append_rowed rfl _ _ 26 rfl 9 i0 (.string .empty) 1 16 Tryd.underlying26 HI.out HZ0.out HZ1.out HZ2.out rfl on _ c.ns.length _ rfl (H.out.below (below_new w _)).ns ⟨w.heap.size, 0, none⟩ 1 1 [.string s] rfl rfl ?c1 ?c2 (by decide) ?c3 ?c4 ?_)
      case c1 => exact row_new w #[.string s] 9
      case c2 => simp [Value.oneCell']
      case c3 => unfold maxLen; omega
      case c4 => omega
      intro v' w' o' hr hg hf
      obtain ⟨a', cap', rfl, -⟩ := hr.shape
      have H2 := H.out.below (below_new w (.cells #[.string s] 9))
      have hpn : some p ≠ on := fun e => (H2.ne_n e.symm).1 rfl
      have hp := hg.block p (H2.lt (mem_foot.2 (.inl rfl))) hpn
      have g4 : w'.cell? ⟨p, 4, none⟩ = some (.slice a c.ns.length cap) := (World.cell?_of_block (a := ⟨p, 4, none⟩) hp).trans (H2.cell 4)
      have f5 : w'.frozen? ⟨p, 4, none⟩ = false := (World.frozen?_of_block (a := ⟨p, 4, none⟩) hp).trans (H2.free 4)
      have hr' : Rowed w' 9 1 o' (.slice a' (c.ns.length + 1) cap') (c.ns ++ [s]).length (strs (c.ns ++ [s])) := by
        simp only [strs, List.map_append, List.length_append, List.map_cons, List.map_nil, List.length_cons, List.length_nil]
        exact hr
      obtain ⟨q1, q2⟩ := H2.set_ns hg hr' hf
      have Q1 := Lib.hid q1
      have Q2 := Lib.hid q2
      clear q1 q2 hr hr' hg hf hp hpn H2
      go_wp2_with fail
      go_ret
      exact ⟨rfl, _, ⟨be, bs, oi, o', vi, _, by first | exact Q1.out | simpa using Q1.out, rfl⟩, (Step.of_below (below_new w _)).trans Q2.out⟩

def takeE (c : Cd) : ByteArray × Int := match c.ns with | [] => (⟨#[]⟩, 5) | id :: _ => (id, 0)
def Cd.take (c : Cd) : Cd := match c.ns with | [] => c | _ :: r => { c with ns := r, n := wrap64 (c.n + 1) }
theorem grown_refl (w : World) (o : Option Nat) : w.grownBy w o := ⟨rfl, rfl, rfl, Nat.le_refl _, fun _ _ _ => rfl⟩
set_option maxRecDepth 100000 in
theorem take_any (c : Cd) (p : Nat) (F : List Nat) (w : World) (h : Own w p c F) :
    Calls Tryd.prog 15 #[.pointer (some ⟨p, 0, none⟩)] w fun e w' => e = .returned (.tuple #[.string (takeE c).1, .int .i64 (takeE c).2]) ∧ Own w' p c.take F ∧ Step F F w w' := by
  obtain ⟨be, bs, oi, on, vi, vn, h, rfl⟩ := h
  have H := Lib.hid h
  have f4 := h.free 4
  have f5 := h.free 5
  obtain ⟨c0, c1, c2, c3, c4, c5⟩ := h.cells
  have hmax : c.ns.length ≤ 9223372036854775807 := by have := h.ns.max; unfold maxLen at this; omega
  rcases hns : c.ns with _ | ⟨id, r⟩
  · have e1 : takeE c = (⟨#[]⟩, 5) := by unfold takeE; rw [hns]
    have e2 : c.take = c := by unfold Cd.take; rw [hns]
    obtain ⟨a, cap, rfl, -⟩ := h.ns.shape
    rw [e1, e2]
    clear e1 e2 h
    have hl : c.ns.length = 0 := by rw [hns]; rfl
    rw [hl] at c4
    clear hns hl
    go_enter Tryd.func15, Tryd.ntmps15
    go_wp2_with fail
    go_ret2
    exact ⟨rfl, ⟨be, bs, oi, on, vi, _, H.out, rfl⟩, step_refl _ _⟩
  · have e1 : takeE c = (id, 0) := by unfold takeE; rw [hns]
    have e2 : c.take = { c with ns := r, n := wrap64 (c.n + 1) } := by unfold Cd.take; rw [hns]
    have hr := h.ns
    rw [hns] at hr
    obtain ⟨a, cap, rfl, hle, h0, hs⟩ := hr.shape
    rw [List.length_cons] at hle h0 hs c4
    obtain ⟨ad, rfl⟩ : ∃ ad, a = some ad := by
      cases a with
      | none => have := (h0 rfl).1; omega
      | some ad => exact ⟨ad, rfl⟩
    obtain ⟨g, off, hon, rfl, hg, hc, -⟩ := hs ad rfl (by omega)
    have c6 : w.cell? ⟨g, off, none⟩ = some (.string id) := by
      have := hc 0 (by omega)
      simpa [strs] using this
    have ht := Rowed.tail hr
    rw [e1, e2]
    rw [hns] at hmax
    rw [List.length_cons] at hmax
    obtain ⟨q1, q2⟩ := h.set_ns (grown_refl w on) (ns := r) (by simpa [strs] using ht) (.inl rfl)
    clear e1 e2 h hr h0 hs hc ht hns H hon
    by_cases hc1 : cap = 1
    · subst hc1
      obtain rfl : r = [] := List.eq_nil_of_length_eq_zero (by omega)
      rw [if_pos rfl] at q1 q2
      have Q1 := Lib.hid q1
      have Q2 := Lib.hid q2
      clear q1 q2
      go_enter Tryd.func15, Tryd.ntmps15
      go_wp2_with fail
      go_ret2
      exact ⟨rfl, ⟨be, bs, oi, _, vi, _, Q1.out.set_n _, rfl⟩, Q2.out.trans (step_set _ _ (mem_foot.2 (.inl rfl)))⟩
    · rw [if_neg hc1] at q1 q2
      have Q1 := Lib.hid q1
      have Q2 := Lib.hid q2
      clear q1 q2
      go_enter Tryd.func15, Tryd.ntmps15
      go_wp2_with fail
      go_ret2
      exact ⟨rfl, ⟨be, bs, oi, _, vi, _, Q1.out.set_n _, rfl⟩, Q2.out.trans (step_set _ _ (mem_foot.2 (.inl rfl)))⟩
end Go.Proofs.YtpoegpojlcbfgaaDoor
