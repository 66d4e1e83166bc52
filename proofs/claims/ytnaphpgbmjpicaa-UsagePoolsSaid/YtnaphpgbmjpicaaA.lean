/- Contracts of the small functions of package amount and its reference. -/
import Derived.Test.YtnaphpgbmjpicaaChecked
import Derived.WalkKit
import Derived.WalkLawsBesides
import Derived.WalkSpells
import Derived.RegionTactic
import Derived.BigRegion
import Derived.Deep.QuietTactic
import Derived.BigQuiet
import Derived.Lib.Hide
import Derived.Outline
namespace Go.Proofs.Ytnaphpgbmjpicaa
open Go.RowKit

theorem idx2_0 (x y : Value) (w : World) : (Instr.index 26 (.agg #[x, y]) (.int .i64 0)).run Try.prog w = .ok x w := by kernel_rfl
theorem idx2_1 (x y : Value) (w : World) : (Instr.index 26 (.agg #[x, y]) (.int .i64 1)).run Try.prog w = .ok y w := by kernel_rfl
attribute [local go_sem] idx2_0 idx2_1

/-- What Check answers. -/
def chk (n : Int) : Int := if n < 0 then 11 else if 1125899906842624 < n then 10 else 0

theorem chk_neg {n : Int} (h : n < 0) : chk n = 11 := by simp [chk, h]
theorem chk_big {n : Int} (h1 : ¬ n < 0) (h2 : 1125899906842624 < n) : chk n = 10 := by simp only [chk]; rw [if_neg h1, if_pos h2]
theorem chk_ok {n : Int} (h1 : ¬ n < 0) (h2 : ¬ 1125899906842624 < n) : chk n = 0 := by simp only [chk]; rw [if_neg h1, if_neg h2]

theorem ret_int {k : IntKind} {a b : Int} (h : a = b) : Ending.returned (.int k a) = .returned (.int k b) := by rw [h]

theorem check_any (n : Int) (w : World) : Calls Try.prog 15 #[.int .i64 n] w fun e w' => e = .returned (.int .i64 (chk n)) ∧ w = w' := by
  by_cases h1 : n < 0
  · go_enter Try.func15, Try.ntmps15
    go_wp2
    go_ret
    exact ⟨ret_int (chk_neg h1).symm, rfl⟩
  · by_cases h2 : 1125899906842624 < n
    · have h3 := chk_big h1 h2
      have H := Lib.hid h3
      clear h3
      go_enter Try.func15, Try.ntmps15
      go_wp2
      go_ret
      exact ⟨ret_int H.out.symm, rfl⟩
    · have h3 := chk_ok h1 h2
      have H := Lib.hid h3
      clear h3
      go_enter Try.func15, Try.ntmps15
      go_wp2
      go_ret
      exact ⟨ret_int H.out.symm, rfl⟩

def chkAll (x y : Int) : Int := if chk x = 0 then chk y else chk x

theorem chkAll_bad {x : Int} (y : Int) (h : (chk x != 0) = true) : chkAll x y = chk x := by
  unfold chkAll; rw [if_neg (by simpa using h)]
theorem chkAll_good {x : Int} (y : Int) (h : (chk x != 0) = false) : chkAll x y = chk y := by
  unfold chkAll; rw [if_pos (by simpa using h)]
theorem chkAll_zero {x y : Int} (h : (chk x != 0) = false) (h2 : (chk y != 0) = false) : chkAll x y = 0 := by
  rw [chkAll_good y h]; simpa using h2

set_option maxRecDepth 100000 in
theorem checkAll_any (x y : Int) (w : World) : Calls Try.prog 19 #[.agg #[.int .i64 x, .int .i64 y]] w fun e w' => e = .returned (.int .i64 (chkAll x y)) ∧ Below w.heap.size w w' := by
  rcases h : (chk x != 0) with _ | _
  · rcases h2 : (chk y != 0) with _ | _
    · go_enter Try.func19, Try.ntmps19
      go_wp2
      refine wp_loop_rounds 3 ?_
      rw [rounds_succ]
      go_wp2_with (go_at_call 15; refine (check_any _ _).mono ?_; rintro e w' ⟨rfl, rfl⟩)
      rw [rounds_succ]
      go_wp2_with (go_at_call 15; refine (check_any _ _).mono ?_; rintro e w' ⟨rfl, rfl⟩)
      rw [rounds_succ]
      go_wp2_with (go_at_call 15; refine (check_any _ _).mono ?_; rintro e w' ⟨rfl, rfl⟩)
      go_ret
      exact ⟨ret_int (chkAll_zero h h2).symm, (Below.refl _ _).alloc (Nat.le_refl _) _⟩
    · go_enter Try.func19, Try.ntmps19
      go_wp2
      refine wp_loop_rounds 3 ?_
      rw [rounds_succ]
      go_wp2_with (go_at_call 15; refine (check_any _ _).mono ?_; rintro e w' ⟨rfl, rfl⟩)
      rw [rounds_succ]
      go_wp2_with (go_at_call 15; refine (check_any _ _).mono ?_; rintro e w' ⟨rfl, rfl⟩)
      go_ret
      exact ⟨ret_int (chkAll_good y h).symm, (Below.refl _ _).alloc (Nat.le_refl _) _⟩
  · go_enter Try.func19, Try.ntmps19
    go_wp2
    refine wp_loop_rounds 3 ?_
    rw [rounds_succ]
    go_wp2_with (go_at_call 15; refine (check_any _ _).mono ?_; rintro e w' ⟨rfl, rfl⟩)
    go_ret
    exact ⟨ret_int (chkAll_bad y h).symm, (Below.refl _ _).alloc (Nat.le_refl _) _⟩

theorem bcell {W w1 : World} (hb : Below W.heap.size W w1) : (∀ b o, b < W.heap.size → w1.cell? ⟨b, o, none⟩ = W.cell? ⟨b, o, none⟩) ∧ (∀ b o, b < W.heap.size → w1.frozen? ⟨b, o, none⟩ = W.frozen? ⟨b, o, none⟩) :=
  ⟨fun b o h => hb.cell (p := ⟨b, o, none⟩) h, fun b o h => hb.frozen (p := ⟨b, o, none⟩) h⟩

/-! ## The reference's -/
theorem rcheck_any (n : Int) (w : World) : Calls Try.prog 16 #[.int .i64 n] w fun e w' => e = .returned (.int .i64 (chk n)) ∧ w = w' := by
  by_cases h1 : n < 0
  · go_enter Try.func16, Try.ntmps16
    go_wp2
    go_ret
    exact ⟨ret_int (chk_neg h1).symm, rfl⟩
  · by_cases h2 : 1125899906842624 < n
    · have h3 := chk_big h1 h2
      have H := Lib.hid h3
      clear h3
      go_enter Try.func16, Try.ntmps16
      go_wp2
      go_ret
      exact ⟨ret_int H.out.symm, rfl⟩
    · have h3 := chk_ok h1 h2
      have H := Lib.hid h3
      clear h3
      go_enter Try.func16, Try.ntmps16
      go_wp2
      go_ret
      exact ⟨ret_int H.out.symm, rfl⟩

set_option maxRecDepth 100000 in
theorem rcheckAll_any (x y : Int) (w : World) : Calls Try.prog 17 #[.agg #[.int .i64 x, .int .i64 y]] w fun e w' => e = .returned (.int .i64 (chkAll x y)) ∧ Below w.heap.size w w' := by
  rcases h : (chk x != 0) with _ | _
  · go_enter Try.func17, Try.ntmps17
    go_wp2_with (go_at_call 16; refine (rcheck_any _ _).mono ?_; rintro e w' ⟨rfl, rfl⟩)
    go_ret
    exact ⟨ret_int (chkAll_good y h).symm, (Below.refl _ _).alloc (Nat.le_refl _) _⟩
  · go_enter Try.func17, Try.ntmps17
    go_wp2_with (go_at_call 16; refine (rcheck_any _ _).mono ?_; rintro e w' ⟨rfl, rfl⟩)
    go_ret
    exact ⟨ret_int (chkAll_bad y h).symm, (Below.refl _ _).alloc (Nat.le_refl _) _⟩

def both (x y z u : Int) : Int := if chkAll x y = 0 then chkAll z u else chkAll x y
theorem both_bad {x y : Int} (z u : Int) (h : (chkAll x y != 0) = true) : both x y z u = chkAll x y := by
  unfold both; rw [if_neg (by simpa using h)]
theorem both_good {x y : Int} (z u : Int) (h : (chkAll x y != 0) = false) : both x y z u = chkAll z u := by
  unfold both; rw [if_pos (by simpa using h)]

set_option maxRecDepth 100000 in
theorem both_any (x y z u : Int) (w : World) : Calls Try.prog 41 #[.agg #[.int .i64 x, .int .i64 y], .agg #[.int .i64 z, .int .i64 u]] w fun e w' => e = .returned (.int .i64 (both x y z u)) ∧ Below w.heap.size w w' := by
  rcases h : (chkAll x y != 0) with _ | _
  · go_enter Try.func41, Try.ntmps41
    go_wp2_with fail
    refine (checkAll_any _ _ _).mono ?_
    rintro e w1 ⟨rfl, hb⟩
    obtain ⟨hc, hf⟩ := bcell hb
    go_wp2_with fail
    refine (checkAll_any _ _ _).mono ?_
    rintro e w2 ⟨rfl, hb2⟩
    go_wp2
    go_ret
    exact ⟨ret_int (both_good z u h).symm, (((Below.refl _ _).alloc (Nat.le_refl _) _).alloc (by simp) _).trans ((hb.mono (by simp; omega)).trans (hb2.mono (by have := hb.size; simp at this; omega)))⟩
  · go_enter Try.func41, Try.ntmps41
    go_wp2_with fail
    refine (checkAll_any _ _ _).mono ?_
    rintro e w1 ⟨rfl, hb⟩
    go_wp2_with fail
    go_ret
    exact ⟨ret_int (both_bad z u h).symm, (((Below.refl _ _).alloc (Nat.le_refl _) _).alloc (by simp) _).trans (hb.mono (by simp; omega))⟩

set_option maxRecDepth 100000 in
theorem rboth_any (x y z u : Int) (w : World) : Calls Try.prog 40 #[.agg #[.int .i64 x, .int .i64 y], .agg #[.int .i64 z, .int .i64 u]] w fun e w' => e = .returned (.int .i64 (both x y z u)) ∧ Below w.heap.size w w' := by
  rcases h : (chkAll x y != 0) with _ | _
  · go_enter Try.func40, Try.ntmps40
    go_wp2_with fail
    refine (rcheckAll_any _ _ _).mono ?_
    rintro e w1 ⟨rfl, hb⟩
    obtain ⟨hc, hf⟩ := bcell hb
    go_wp2_with fail
    refine (rcheckAll_any _ _ _).mono ?_
    rintro e w2 ⟨rfl, hb2⟩
    go_wp2
    go_ret
    exact ⟨ret_int (both_good z u h).symm, (((Below.refl _ _).alloc (Nat.le_refl _) _).alloc (by simp) _).trans ((hb.mono (by simp; omega)).trans (hb2.mono (by have := hb.size; simp at this; omega)))⟩
  · go_enter Try.func40, Try.ntmps40
    go_wp2_with fail
    refine (rcheckAll_any _ _ _).mono ?_
    rintro e w1 ⟨rfl, hb⟩
    go_wp2_with fail
    go_ret
    exact ⟨ret_int (both_bad z u h).symm, (((Below.refl _ _).alloc (Nat.le_refl _) _).alloc (by simp) _).trans (hb.mono (by simp; omega))⟩

end Go.Proofs.Ytnaphpgbmjpicaa
