/- Lists of calls opened. -/
import Derived.Test.YtpoegpojlcbfgaaDoorL
import Derived.Test.YtpoegpojlcbfgaaDoorP
namespace Go.Proofs.YtpoegpojlcbfgaaDoor
open Go.ChangeShapes Go.WideShapes Go.ChangeAt Go.RowKit

theorem cells_2 : Tryd.prog.cellsOf 2 = 1 := by kernel_rfl
theorem cells_3 : Tryd.prog.cellsOf 3 = 1 := by kernel_rfl
theorem cells_4 : Tryd.prog.cellsOf 4 = 1 := by kernel_rfl
theorem cells_9 : Tryd.prog.cellsOf 9 = 1 := cells9
theorem cells_28 : Tryd.prog.cellsOf 28 = 3 := by kernel_rfl
theorem cells_30 : Tryd.prog.cellsOf 30 = 7 := by kernel_rfl
theorem lst3 {α : Type} : ∀ {l : List α}, l.length = 3 → ∃ a0 a1 a2, l = [a0, a1, a2]
  | [u0, u1, u2], _ => ⟨u0, u1, u2, rfl⟩
theorem lst7 {α : Type} : ∀ {l : List α}, l.length = 7 → ∃ a0 a1 a2 a3 a4 a5 a6, l = [a0, a1, a2, a3, a4, a5, a6]
  | [u0, u1, u2, u3, u4, u5, u6], _ => ⟨u0, u1, u2, u3, u4, u5, u6, rfl⟩
theorem wf_i64 {n : Int} (h : (Lit.int .i64 n).wf = true) : -9223372036854775808 ≤ n ∧ n ≤ 9223372036854775807 := by
  have h2 : IntKind.i64.min ≤ n ∧ n ≤ IntKind.i64.max := by simpa [Lit.wf] using h
  exact h2

section
variable {H : Type} {enc : TypeId × Value → H} {w : World} {base : Nat} {spare : Nat → Bool} {held : Bool}
set_option maxRecDepth 100000 in
set_option maxHeartbeats 1000000 in
theorem trod_28 {fuel : Nat} {cs : List Value} {x : DataW H × List MemPlace} (h : DataW.trod enc Tryd.prog w base spare held fuel 28 cs = some x) : ∃ a b c, cs = [.string a, .string b, .string c] := by
  obtain ⟨xs, n, _, hxx, hl, hn, hf⟩ := DataW.trod_struct Tryd.underlying28 h
  have hn' : xs.length = 3 := hn
  obtain ⟨a0, a1, a2, rfl⟩ := lst3 (hl.trans cells_28)
  have g0 : DataW.trod enc Tryd.prog w base spare held n 9 [a0] = some (xs[0]'(by omega)) := by
    have h : DataW.trod enc Tryd.prog w base spare held n 9 (List.take (Tryd.prog.cellsOf 9) (List.drop 0 [a0, a1, a2])) = some (xs[0]'(by omega)) := (hf 0 _ rfl).trans (List.getElem?_eq_getElem (by omega))
    rw [cells_9] at h
    exact h
  have g1 : DataW.trod enc Tryd.prog w base spare held n 9 [a1] = some (xs[1]'(by omega)) := by
    have h : DataW.trod enc Tryd.prog w base spare held n 9 (List.take (Tryd.prog.cellsOf 9) (List.drop 1 [a0, a1, a2])) = some (xs[1]'(by omega)) := (hf 1 _ rfl).trans (List.getElem?_eq_getElem (by omega))
    rw [cells_9] at h
    exact h
  have g2 : DataW.trod enc Tryd.prog w base spare held n 9 [a2] = some (xs[2]'(by omega)) := by
    have h : DataW.trod enc Tryd.prog w base spare held n 9 (List.take (Tryd.prog.cellsOf 9) (List.drop 2 [a0, a1, a2])) = some (xs[2]'(by omega)) := (hf 2 _ rfl).trans (List.getElem?_eq_getElem (by omega))
    rw [cells_9] at h
    exact h
  obtain ⟨s0, e, _, _⟩ := DataW.trod_string Tryd.underlying9 g0
  cases e
  obtain ⟨s1, e, _, _⟩ := DataW.trod_string Tryd.underlying9 g1
  cases e
  obtain ⟨s2, e, _, _⟩ := DataW.trod_string Tryd.underlying9 g2
  cases e
  exact ⟨s0, s1, s2, rfl⟩
/-- What holds of a call that is read. -/
def Opr.Ok (c : Opr) : Prop := c.t.size ≤ 9223372036854775807 ∧ -9223372036854775808 ≤ c.n ∧ c.n ≤ 9223372036854775807
set_option maxRecDepth 100000 in
set_option maxHeartbeats 1000000 in
theorem trod_30 {fuel : Nat} {cs : List Value} {x : DataW H × List MemPlace} (h : DataW.trod enc Tryd.prog w base spare held fuel 30 cs = some x) : ∃ c : Opr, cs = c.cells ∧ c.Ok := by
  obtain ⟨xs, n, _, hxx, hl, hn, hf⟩ := DataW.trod_struct Tryd.underlying30 h
  have hn' : xs.length = 5 := hn
  obtain ⟨a0, a1, a2, a3, a4, a5, a6, rfl⟩ := lst7 (hl.trans cells_30)
  have g0 : DataW.trod enc Tryd.prog w base spare held n 3 [a0] = some (xs[0]'(by omega)) := by
    have h : DataW.trod enc Tryd.prog w base spare held n 3 (List.take (Tryd.prog.cellsOf 3) (List.drop 0 [a0, a1, a2, a3, a4, a5, a6])) = some (xs[0]'(by omega)) := (hf 0 _ rfl).trans (List.getElem?_eq_getElem (by omega))
    rw [cells_3] at h
    exact h
  have g1 : DataW.trod enc Tryd.prog w base spare held n 9 [a1] = some (xs[1]'(by omega)) := by
    have h : DataW.trod enc Tryd.prog w base spare held n 9 (List.take (Tryd.prog.cellsOf 9) (List.drop 1 [a0, a1, a2, a3, a4, a5, a6])) = some (xs[1]'(by omega)) := (hf 1 _ rfl).trans (List.getElem?_eq_getElem (by omega))
    rw [cells_9] at h
    exact h
  have g2 : DataW.trod enc Tryd.prog w base spare held n 28 [a2, a3, a4] = some (xs[2]'(by omega)) := by
    have h : DataW.trod enc Tryd.prog w base spare held n 28 (List.take (Tryd.prog.cellsOf 28) (List.drop 2 [a0, a1, a2, a3, a4, a5, a6])) = some (xs[2]'(by omega)) := (hf 2 _ rfl).trans (List.getElem?_eq_getElem (by omega))
    rw [cells_28] at h
    exact h
  have g3 : DataW.trod enc Tryd.prog w base spare held n 2 [a5] = some (xs[3]'(by omega)) := by
    have h : DataW.trod enc Tryd.prog w base spare held n 2 (List.take (Tryd.prog.cellsOf 2) (List.drop 5 [a0, a1, a2, a3, a4, a5, a6])) = some (xs[3]'(by omega)) := (hf 3 _ rfl).trans (List.getElem?_eq_getElem (by omega))
    rw [cells_2] at h
    exact h
  have g4 : DataW.trod enc Tryd.prog w base spare held n 4 [a6] = some (xs[4]'(by omega)) := by
    have h : DataW.trod enc Tryd.prog w base spare held n 4 (List.take (Tryd.prog.cellsOf 4) (List.drop 6 [a0, a1, a2, a3, a4, a5, a6])) = some (xs[4]'(by omega)) := (hf 4 _ rfl).trans (List.getElem?_eq_getElem (by omega))
    rw [cells_4] at h
    exact h
  obtain ⟨n0, e, _, _⟩ := DataW.trod_int Tryd.underlying3 g0
  cases e
  obtain ⟨s1, e, _, hs⟩ := DataW.trod_string Tryd.underlying9 g1
  cases e
  obtain ⟨t, z, k, e⟩ := trod_28 g2
  cases e
  obtain ⟨n3, e, _, wf⟩ := DataW.trod_int Tryd.underlying2 g3
  cases e
  obtain ⟨b, e, _⟩ := DataW.trod_bool Tryd.underlying4 g4
  cases e
  unfold maxLen at hs
  exact ⟨⟨n0, s1, ⟨t, z, k⟩, n3, b⟩, rfl, by dsimp only; omega, wf_i64 wf⟩
/-- A list of calls. -/
theorem open22 {a : Option Addr} {len cap : Nat} {d : DataW H} {p : List MemPlace} (h : DataW.Trod enc Tryd.prog w base spare held 22 (.slice a len cap) d p) :
    ∃ l : List Opr, len = l.length ∧ Om w a l ∧ l.length ≤ 9223372036854775807 ∧ ∀ x ∈ l, x.Ok := by
  obtain ⟨fuel, hf⟩ := h
  rcases Go.Deep.open_slice Tryd.underlying22 hf with ⟨hcs, _⟩ | ⟨a', len', cap', m, n, D, Pc, hcs, _, hle, hmx, hm, hx, hi⟩
  · cases hcs
    exact ⟨[], rfl, fun i x h => by simp at h, by simp, fun x h => by simp at h⟩
  · cases hcs
    have hlm : len ≤ m := by rw [hm]; split <;> omega
    have key : ∀ i, i < len → ∃ c : Opr, c.Ok ∧ ∀ j v, c.cells[j]? = some v → w.cell? ((a'.add (i * 7)).add j) = some v := by
      intro i h
      obtain ⟨cs', h1, h2⟩ := hi i (by omega)
      obtain ⟨c, rfl, hok⟩ := trod_30 h2
      rw [cells_30] at h1
      obtain ⟨_, hl, h3⟩ := World.cells?_some h1
      exact ⟨c, hok, fun j v hj => by rw [h3 j (by have := (List.getElem?_eq_some_iff.1 hj).1; omega), hj]⟩
    by_cases h0 : len = 0
    · subst h0
      exact ⟨[], rfl, fun i x h => by simp at h, by simp, fun x h => by simp at h⟩
    · obtain ⟨c0, hok0, hv0⟩ := key 0 (by omega)
      have s0 : a'.spot = none := by
        have := hv0 0 _ rfl
        exact (spot_none (by simpa [Addr.add] using this)).1
      have key' : ∃ g : Nat → Opr, ∀ i, i < len → (g i).Ok ∧ ∀ j v, (g i).cells[j]? = some v → w.cell? ((a'.add (i * 7)).add j) = some v := by
        refine ⟨fun i => if h : i < len then (key i h).choose else c0, fun i h => ?_⟩
        simp only [dif_pos h]
        exact (key i h).choose_spec
      obtain ⟨g, hg⟩ := key'
      obtain ⟨b, off, spot⟩ := a'
      dsimp only at s0
      subst s0
      have hadd : ∀ p j : Nat, ((⟨b, off, none⟩ : Addr).add p).add j = ⟨b, off + p + j, none⟩ := by
        intro p j
        unfold Addr.add
        split <;> split <;> simp_all
      refine ⟨(List.range len).map g, by simp, ?_, by unfold maxLen at hmx; simp; omega, ?_⟩
      · intro i x hr
        have hil : i < len := by
          have := (List.getElem?_eq_some_iff.1 hr).1
          simpa using this
        have hr' : x = g i := by
          rw [List.getElem?_map, List.getElem?_range hil] at hr
          simpa using hr.symm
        subst hr'
        obtain ⟨h1, h2⟩ := hg i hil
        have := h2 0 _ rfl
        rw [hadd] at this
        exact ⟨b, off, rfl, (spot_none this).2, fun j v hj => by rw [← hadd]; exact h2 j v hj, h1.1⟩
      · intro x hx
        obtain ⟨i, hi, rfl⟩ := List.mem_map.1 hx
        exact (hg i (List.mem_range.1 hi)).1
end
end Go.Proofs.YtpoegpojlcbfgaaDoor
