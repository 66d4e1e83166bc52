/- Plain laws on amounts: what is added may be taken away, what is packed comes back, what fits goes on. -/
import Derived.Test.YtnaphpgbmjpicaaT
namespace Go.Proofs.Ytnaphpgbmjpicaa

theorem addE_zero {x y z u : Int} : addE x y z u = 0 ↔ (((0 ≤ x ∧ x ≤ 1125899906842624) ∧ (0 ≤ y ∧ y ≤ 1125899906842624)) ∧ (0 ≤ z ∧ z ≤ 1125899906842624) ∧ (0 ≤ u ∧ u ≤ 1125899906842624)) ∧ x + z ≤ 1125899906842624 ∧ y + u ≤ 1125899906842624 := by
  unfold addE
  split
  · rename_i h
    rw [both_zero_iff] at h
    split
    · rename_i h2; simp only [h, h2, and_self]
    · rename_i h2
      exact ⟨fun h3 => absurd h3 (by decide), fun h3 => absurd h3.2 h2⟩
  · rename_i h
    rw [both_zero_iff] at h
    constructor
    · intro h3; rw [both_zero_iff] at h3; exact absurd h3 h
    · intro h3; exact absurd h3.1 h
theorem subE_zero {x y z u : Int} : subE x y z u = 0 ↔ (((0 ≤ x ∧ x ≤ 1125899906842624) ∧ (0 ≤ y ∧ y ≤ 1125899906842624)) ∧ (0 ≤ z ∧ z ≤ 1125899906842624) ∧ (0 ≤ u ∧ u ≤ 1125899906842624)) ∧ z ≤ x ∧ u ≤ y := by
  unfold subE
  split
  · rename_i h
    rw [both_zero_iff] at h
    split
    · rename_i h2; simp only [h, h2, and_self]
    · rename_i h2
      exact ⟨fun h3 => absurd h3 (by decide), fun h3 => absurd h3.2 h2⟩
  · rename_i h
    rw [both_zero_iff] at h
    constructor
    · intro h3; rw [both_zero_iff] at h3; exact absurd h3 h
    · intro h3; exact absurd h3.1 h
theorem fits_iff {x y z u : Int} : fitsB x y z u = true ↔ (((0 ≤ x ∧ x ≤ 1125899906842624) ∧ (0 ≤ y ∧ y ≤ 1125899906842624)) ∧ (0 ≤ z ∧ z ≤ 1125899906842624) ∧ (0 ≤ u ∧ u ≤ 1125899906842624)) ∧ x ≤ z ∧ y ≤ u := by
  unfold fitsB
  simp only [Bool.and_eq_true, beq_iff_eq, decide_eq_true_eq, both_zero_iff]
theorem addV_ok {x y z u : Int} (h : addE x y z u = 0) (p q : Int) : addV x y z u p q = p + q := by unfold addV; rw [if_pos h]
theorem addV_no {x y z u : Int} (h : addE x y z u ≠ 0) (p q : Int) : addV x y z u p q = 0 := by unfold addV; rw [if_neg h]
theorem subV_ok {x y z u : Int} (h : subE x y z u = 0) (p q : Int) : subV x y z u p q = p - q := by unfold subV; rw [if_pos h]
theorem beq_of {a b : Int} (h : a = b) : (a == b) = true := by rw [h]; simp
theorem bool_iff {a b : Bool} (h : a = true ↔ b = true) : a = b := by cases a <;> cases b <;> simp_all

theorem add_sym (x y z u : Int) : (addE z u x y == 0) = (addE x y z u == 0) := by
  apply bool_iff; rw [beq_iff_eq, beq_iff_eq, addE_zero, addE_zero]
  constructor <;> (intro h; omega)
theorem addV_sym (x y z u p q : Int) : (addV x y z u p q == addV z u x y q p) = true := by
  have h := add_sym x y z u
  by_cases h0 : addE x y z u = 0
  · rw [h0] at h
    have h1 : addE z u x y = 0 := by simpa using h
    rw [addV_ok h0, addV_ok h1]; apply beq_of; omega
  · have h1 : addE z u x y ≠ 0 := by
      intro h2; rw [h2] at h
      have : addE x y z u = 0 := by simpa using h.symm
      exact h0 this
    rw [addV_no h0, addV_no h1]; rfl
theorem add_back {x y z u : Int} (h : addE x y z u = 0) : subE (addV x y z u x z) (addV x y z u y u) z u = 0 ∧ (subV (addV x y z u x z) (addV x y z u y u) z u (addV x y z u x z) z == x) = true ∧ (subV (addV x y z u x z) (addV x y z u y u) z u (addV x y z u y u) u == y) = true ∧
    fitsB x y (addV x y z u x z) (addV x y z u y u) = true ∧ fitsB z u (addV x y z u x z) (addV x y z u y u) = true := by
  have h' := addE_zero.1 h
  rw [addV_ok h, addV_ok h]
  have h1 : subE (x + z) (y + u) z u = 0 := subE_zero.2 (by omega)
  rw [subV_ok h1, subV_ok h1]
  exact ⟨h1, beq_of (by omega), beq_of (by omega), fits_iff.2 (by omega), fits_iff.2 (by omega)⟩
theorem add_assoc3 {a0 a1 b0 b1 c0 c1 : Int} (h : addE a0 a1 b0 b1 = 0) (h2 : addE b0 b1 c0 c1 = 0) :
    (addE a0 a1 (addV b0 b1 c0 c1 b0 c0) (addV b0 b1 c0 c1 b1 c1) == 0) = (addE (addV a0 a1 b0 b1 a0 b0) (addV a0 a1 b0 b1 a1 b1) c0 c1 == 0) ∧
    (addV a0 a1 (addV b0 b1 c0 c1 b0 c0) (addV b0 b1 c0 c1 b1 c1) a0 (addV b0 b1 c0 c1 b0 c0) == addV (addV a0 a1 b0 b1 a0 b0) (addV a0 a1 b0 b1 a1 b1) c0 c1 (addV a0 a1 b0 b1 a0 b0) c0) = true ∧
    (addV a0 a1 (addV b0 b1 c0 c1 b0 c0) (addV b0 b1 c0 c1 b1 c1) a1 (addV b0 b1 c0 c1 b1 c1) == addV (addV a0 a1 b0 b1 a0 b0) (addV a0 a1 b0 b1 a1 b1) c0 c1 (addV a0 a1 b0 b1 a1 b1) c1) = true := by
  have h' := addE_zero.1 h
  have h2' := addE_zero.1 h2
  simp only [addV_ok h, addV_ok h2]
  have key : addE a0 a1 (b0 + c0) (b1 + c1) = 0 ↔ addE (a0 + b0) (a1 + b1) c0 c1 = 0 := by
    rw [addE_zero, addE_zero]; constructor <;> (intro h3; omega)
  refine ⟨bool_iff (by rw [beq_iff_eq, beq_iff_eq]; exact key), ?_, ?_⟩
  · by_cases h3 : addE a0 a1 (b0 + c0) (b1 + c1) = 0
    · rw [addV_ok h3, addV_ok (key.1 h3)]; exact beq_of (by omega)
    · rw [addV_no h3, addV_no (fun h4 => h3 (key.2 h4))]; rfl
  · by_cases h3 : addE a0 a1 (b0 + c0) (b1 + c1) = 0
    · rw [addV_ok h3, addV_ok (key.1 h3)]; exact beq_of (by omega)
    · rw [addV_no h3, addV_no (fun h4 => h3 (key.2 h4))]; rfl
theorem fits_trans {a0 a1 b0 b1 c0 c1 : Int} (h : fitsB a0 a1 b0 b1 = true) (h2 : fitsB b0 b1 c0 c1 = true) : fitsB a0 a1 c0 c1 = true := by
  rw [fits_iff] at *; omega
theorem fits_self (x y : Int) : fitsB x y x y = (chkAll x y == 0) := by
  apply bool_iff; rw [fits_iff, beq_iff_eq, chkAll_zero_iff]; constructor <;> (intro h; omega)
theorem sub_fits (a0 a1 b0 b1 : Int) : (subE b0 b1 a0 a1 == 0) = fitsB a0 a1 b0 b1 ∧ (subE b0 b1 a0 a1 != 0) = !fitsB a0 a1 b0 b1 := by
  have h : (subE b0 b1 a0 a1 == 0) = fitsB a0 a1 b0 b1 := by
    apply bool_iff; rw [beq_iff_eq, subE_zero, fits_iff]; constructor <;> (intro h; omega)
  exact ⟨h, by rw [← h]; rfl⟩
theorem sub_less {a0 a1 b0 b1 : Int} (h : fitsB a0 a1 b0 b1 = true) : fitsB (subV b0 b1 a0 a1 b0 a0) (subV b0 b1 a0 a1 b1 a1) b0 b1 = true := by
  have h1 : subE b0 b1 a0 a1 = 0 := by have := (sub_fits a0 a1 b0 b1).1; rw [h] at this; simpa using this
  rw [subV_ok h1, subV_ok h1]
  rw [fits_iff] at *; omega

theorem pair_byte {x y v : Int} (h : chkAll x y = 0 → 0 ≤ v ∧ v ≤ 255) : 0 ≤ pairV x y v ∧ pairV x y v ≤ 255 := by
  unfold pairV; split
  · rename_i h0; exact h h0
  · omega
theorem le7_pair0 (x y : Int) : le7 (pairV x y (x % 256)) (pairV x y (x / 256 % 256)) (pairV x y (x / 65536 % 256)) (pairV x y (x / 16777216 % 256)) (pairV x y (x / 4294967296 % 256)) (pairV x y (x / 1099511627776 % 256)) (pairV x y (x / 281474976710656)) = pairV x y x := by
  unfold pairV; split
  · rename_i h; rw [chkAll_zero_iff] at h; unfold le7; omega
  · rfl
theorem le7_pair1 (x y : Int) : le7 (pairV x y (y % 256)) (pairV x y (y / 256 % 256)) (pairV x y (y / 65536 % 256)) (pairV x y (y / 16777216 % 256)) (pairV x y (y / 4294967296 % 256)) (pairV x y (y / 1099511627776 % 256)) (pairV x y (y / 281474976710656)) = pairV x y y := by
  unfold pairV; split
  · rename_i h; rw [chkAll_zero_iff] at h; unfold le7; omega
  · rfl

end Go.Proofs.Ytnaphpgbmjpicaa
