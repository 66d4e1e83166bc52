/- A slice of pairs of amounts, opened; the bytes a sized law grants it. -/
import Derived.Test.YtnaphpgbmjpicaaQ
import Derived.Test.YtnaphpgbmjpicaaH
import Derived.Deep.Slices
import Derived.SizedLaws
namespace Go.Proofs.Ytnaphpgbmjpicaa
open Go.ChangeShapes Go.WideShapes Go.ChangeAt Go.RowKit

theorem spot_none {w : World} {a : Addr} {v : Value} (h : w.cell? a = some v) : a.spot = none ∧ a.block < w.heap.size := by
  unfold World.cell? at h
  split at h
  · rename_i heq
    refine ⟨?_, (Array.getElem?_eq_some_iff.1 heq).1⟩
    cases hs : a.spot with
    | none => rfl
    | some _ => rw [hs] at h; simp at h
  · simp at h

section
variable {H : Type} {enc : TypeId × Value → H} {w : World} {base : Nat} {spare : Nat → Bool} {held : Bool}
set_option maxRecDepth 100000 in
/-- A slice of pairs, read: its pairs, each within 64 bits. -/
theorem open31 {a : Option Addr} {len cap : Nat} {d : DataW H} {p : List MemPlace} (h : DataW.Trod enc Try.prog w base spare held 31 (.slice a len cap) d p) :
    ∃ ps : List (Int × Int), len = ps.length ∧ Am w a ps ∧ (∀ x ∈ ps, (Lit.int .i64 x.1).wf = true ∧ (Lit.int .i64 x.2).wf = true) ∧ (len = 0 ∨ ∃ es sp, d = .slice es sp ∧ es.length = len) := by
  obtain ⟨fuel, hf⟩ := h
  rcases Go.Deep.open_slice Try.underlying31 hf with ⟨hcs, _⟩ | ⟨a', len', cap', m, n, D, Pl, hcs, _, hle, _, hm, hx, hi⟩
  · cases hcs
    exact ⟨[], rfl, fun i h => by simp at h, by simp, Or.inl rfl⟩
  · cases hcs
    have hlm : len ≤ m := by rw [hm]; split <;> omega
    have key : ∀ i, i < len → ∃ x : Int × Int, (Lit.int .i64 x.1).wf = true ∧ (Lit.int .i64 x.2).wf = true ∧ w.cell? (a'.add (i * 2)) = some (.int .i64 x.1) ∧ w.cell? ((a'.add (i * 2)).add 1) = some (.int .i64 x.2) := by
      intro i h
      obtain ⟨cs', h1, h2⟩ := hi i (by omega)
      obtain ⟨x, y, rfl, wx, wy⟩ := trod26 h2
      rw [cells26] at h1
      obtain ⟨_, _, h3⟩ := World.cells?_some h1
      refine ⟨(x, y), wx, wy, ?_, ?_⟩
      · simpa [Addr.add] using h3 0 (by omega)
      · simpa using h3 1 (by omega)
    have key' : ∃ f : Nat → Int × Int, ∀ i, i < len → (Lit.int .i64 (f i).1).wf = true ∧ (Lit.int .i64 (f i).2).wf = true ∧ w.cell? (a'.add (i * 2)) = some (.int .i64 (f i).1) ∧ w.cell? ((a'.add (i * 2)).add 1) = some (.int .i64 (f i).2) := by
      refine ⟨fun i => if h : i < len then (key i h).choose else (0, 0), fun i h => ?_⟩
      simp only [dif_pos h]
      exact (key i h).choose_spec
    obtain ⟨f, hf'⟩ := key'
    refine ⟨(List.range len).map f, by simp, ?_, ?_, Or.inr ⟨_, _, congrArg Prod.fst hx, by simp⟩⟩
    · intro i h
      have h' : i < len := by simpa using h
      obtain ⟨_, _, c0, c1⟩ := hf' i h'
      have e : ((List.range len).map f).getD i (0, 0) = f i := by simp [List.getD, h']
      rw [e]
      have s0 : a'.spot = none := by
        obtain ⟨_, _, z0, _⟩ := hf' 0 (by omega)
        exact (spot_none (by simpa [Addr.add] using z0)).1
      obtain ⟨b, off, spot⟩ := a'
      dsimp only at s0
      subst s0
      refine ⟨b, off, rfl, ?_, ?_, ?_⟩
      · have := (spot_none c0).2
        unfold Addr.add at this
        split at this <;> exact this
      · rw [← c0]
        unfold Addr.add
        split
        · rename_i z; simp [z]
        · rfl
      · rw [← c1]
        unfold Addr.add
        simp only [Nat.one_ne_zero, if_false]
        split
        · rename_i z; simp [z]
        · rfl
    · intro x hx'
      simp only [List.mem_map, List.mem_range] at hx'
      obtain ⟨i, h', rfl⟩ := hx'
      exact ⟨(hf' i h').1, (hf' i h').2.1⟩
end

theorem bytes26 : Try.prog.bytesOf 26 = 16 := by kernel_rfl
/-- The bytes of a slice of pairs, as a sized law grants them. -/
theorem sized31 {H : Type} {ts : List TypeId} {ds : List (DataW H)} (h : (DataW.weightsEach Try.prog ts ds).all (· ≤ reachBytes) = true) {j : Nat} (ht : ts[j]? = some 31) {d : DataW H} (hd : ds[j]? = some d) {n : Nat}
    (hn : n = 0 ∨ ∃ es sp, d = .slice es sp ∧ es.length = n) : n * 16 ≤ 140737488355328 := by
  rcases hn with rfl | ⟨es, sp, rfl, rfl⟩
  · decide
  · have h1 := sized_slice h ht hd Try.underlying31
    rw [bytes26] at h1
    have h2 := reachBytes_lt
    omega

end Go.Proofs.Ytnaphpgbmjpicaa
