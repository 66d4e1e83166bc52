/- The rows' own facts: the looks, the laid variables' start, lists of strings opened. -/
import Derived.Test.YtpoegpojlcbfgaaDoorK
import Derived.Test.YtpoegpojlcbfgaaDoorRows
import Derived.Test.YtpoegpojlcbfgaaDoorTie
import Derived.Test.YtpoegpojlcbfgaaDoorCards
import Derived.ProofKit
import Derived.OpenShut
import Derived.ShutString
import Derived.LaidMore
import Derived.Stop.Joined
import Derived.SevenTiedAt
import Derived.Deep.Slices
namespace Go.Proofs.YtpoegpojlcbfgaaDoor
open Go.ChangeShapes Go.WideShapes Go.ChangeAt Go.RowKit

theorem own : ownKnob Tryd.prog.godebug = none := by kernel_rfl
theorem laidOut : laidOutB Tryd.prog = true := by kernel_rfl
/-- What the rows list as laid. -/
def laidL : List (String × DataW Unit) := [("math/bits.deBruijn32tab", Rows.laid_math_bits_deBruijn32tab), ("math/bits.deBruijn64tab", Rows.laid_math_bits_deBruijn64tab), ("internal/strconv.uint64pow10", Rows.laid_internal_strconv_uint64pow10)]
set_option maxRecDepth 100000 in
theorem door_met (os : Os) (args : Array Value) : laidMetH Tryd.prog laidL ((World.doorLaid Tryd.prog 24 os).forCall (fun _ _ => 0) ⟨#[], args, []⟩).memory :=
  laidMetH_of_parts3 (fuel := 8) (laidMet_of_run' 8 (by kernel_rfl) (by kernel_rfl)) (by kernel_rfl) (by kernel_rfl)
theorem cells9 : Tryd.prog.cellsOf 9 = 1 := by kernel_rfl
theorem spot_none {w : World} {a : Addr} {v : Value} (h : w.cell? a = some v) : a.spot = none ∧ a.block < w.heap.size := by
  unfold World.cell? at h
  split at h
  · rename_i heq
    refine ⟨?_, (Array.getElem?_eq_some_iff.1 heq).1⟩
    cases hs : a.spot with
    | none => rfl
    | some _ => simp [hs] at h
  · cases h
theorem at_cell {w : World} {a' : Addr} {len : Nat} {f : Nat → Value} (h : ∀ i, i < len → w.cell? (a'.add i) = some (f i)) {i : Nat} (hi : i < len) : ∃ b off, a' = ⟨b, off, none⟩ ∧ b < w.heap.size ∧ w.cell? ⟨b, off + i, none⟩ = some (f i) := by
  have s0 : a'.spot = none := by
    have z0 := h 0 (by omega)
    exact (spot_none (by simpa [Addr.add] using z0)).1
  obtain ⟨b, off, spot⟩ := a'
  dsimp only at s0
  subst s0
  have c0 := h i hi
  rw [Addr.add_lit] at c0
  exact ⟨b, off, rfl, (spot_none c0).2, c0⟩
section
variable {H : Type} {enc : TypeId × Value → H} {w : World} {base : Nat} {spare : Nat → Bool} {held : Bool}
/-- A list of strings. -/
theorem open26 {a : Option Addr} {len cap : Nat} {d : DataW H} {p : List MemPlace} (h : DataW.Trod enc Tryd.prog w base spare held 26 (.slice a len cap) d p) :
    ∃ l : List ByteArray, len = l.length ∧ Sm w a l ∧ l.length ≤ 9223372036854775807 := by
  obtain ⟨fuel, hf⟩ := h
  rcases Go.Deep.open_slice1 Tryd.underlying26 cells9 hf with ⟨hcs, _⟩ | ⟨a', len', cap', m, n, V, D, Pl, hcs, _, hle, hmx, hm, hx, hi⟩
  · cases hcs
    exact ⟨[], rfl, fun i s h => by simp at h, by simp⟩
  · cases hcs
    have hlm : len ≤ m := by rw [hm]; split <;> omega
    have key : ∀ i, i < len → ∃ s : ByteArray, V i = .string s ∧ s.size ≤ maxLen := by
      intro i h
      obtain ⟨h1, h2⟩ := hi i (by omega)
      obtain ⟨s, e, _, hs⟩ := DataW.trod_string Tryd.underlying9 h2
      simp at e
      exact ⟨s, e, hs⟩
    have key' : ∃ f : Nat → ByteArray, ∀ i, i < len → V i = .string (f i) ∧ (f i).size ≤ maxLen := by
      refine ⟨fun i => if h : i < len then (key i h).choose else ⟨#[]⟩, fun i h => ?_⟩
      simp only [dif_pos h]
      exact (key i h).choose_spec
    obtain ⟨f, hf'⟩ := key'
    refine ⟨(List.range len).map f, by simp, ?_, by unfold maxLen at hmx; simp; omega⟩
    intro i s h
    have h' : i < len := by
      have := (List.getElem?_eq_some_iff.1 h).1
      simpa using this
    have e : s = f i := by
      rw [List.getElem?_map, List.getElem?_range h'] at h
      simpa using h.symm
    subst e
    obtain ⟨b, off, e, hb, hc⟩ := at_cell (f := fun i => .string (f i)) (fun i hi' => by rw [← (hf' i hi').1]; exact (hi i (by omega)).1) h'
    exact ⟨b, off, by rw [e], hb, hc, by have := (hf' i h').2; unfold maxLen at this; omega⟩
end
end Go.Proofs.YtpoegpojlcbfgaaDoor
