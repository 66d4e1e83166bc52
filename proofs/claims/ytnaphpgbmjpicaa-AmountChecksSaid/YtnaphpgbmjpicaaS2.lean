/- Every number is judged to be an amount, and any two to fit, as the document says: AmountChecks answers true. No condition. -/
import Derived.Test.YtnaphpgbmjpicaaQ
namespace Go.Proofs.Ytnaphpgbmjpicaa
open Go.ChangeShapes Go.WideShapes Go.ChangeAt Go.RowKit

attribute [local go_sem] eqIn26 eqG26

set_option maxRecDepth 100000 in
set_option maxHeartbeats 1000000 in
theorem amountChecks_walk (a b c d : Int) (w : World) : Calls Try.prog 4 #[.agg #[.int .i64 a, .int .i64 b], .agg #[.int .i64 c, .int .i64 d]] w fun e w' => e = .returned (.bool true) ∧ Below w.heap.size w w' := by
  go_enter Try.func4, Try.ntmps4
  go_wp2_with fail
  refine (rcheck_any _ _).mono ?_
  rintro e w1 ⟨rfl, rfl⟩
  go_wp2_with fail
  refine (rcheckAll_any _ _ _).mono ?_
  rintro e w1 ⟨rfl, hb1⟩
  obtain ⟨⟨c1, c2, c3⟩, ⟨c4, c5, c6⟩, c7⟩ := boxes2 hb1
  have hB1 : Below w.heap.size w w1 := base2 hb1
  clear hb1
  go_wp2_with fail
  refine (rfits_any _ _ _ _ _).mono ?_
  rintro e w2 ⟨rfl, hb2⟩
  obtain ⟨d1, d2, d3⟩ := carry2 hb2 (by omega) c1 c2 c3
  obtain ⟨d4, d5, d6⟩ := carry2 hb2 (by omega) c4 c5 c6
  have d7 : w.heap.size + 1 < w2.heap.size := by have := hb2.size; omega
  have hB2 := hB1.trans (hb2.mono hB1.size)
  clear hb2 hB1 c1 c2 c3 c4 c5 c6
  go_wp2_with fail
  refine (live1_any _).mono ?_
  rintro e w3 ⟨rfl, hb3⟩
  obtain ⟨e1, e2, e3⟩ := carry2 hb3 (by omega) d1 d2 d3
  obtain ⟨e4, e5, e6⟩ := carry2 hb3 (by omega) d4 d5 d6
  have e7 : w.heap.size + 1 < w3.heap.size := by have := hb3.size; omega
  have hB3 := hB2.trans (hb3.mono hB2.size)
  clear hb3 hB2 d1 d2 d3 d4 d5 d6
  go_wp2_with fail
  refine (check_any _ _).mono ?_
  rintro e w4 ⟨rfl, rfl⟩
  go_wp2_with fail
  refine (checkAll_any _ _ _).mono ?_
  rintro e w4 ⟨rfl, hb4⟩
  obtain ⟨g1, g2, g3⟩ := carry2 hb4 (by omega) e1 e2 e3
  obtain ⟨g4, g5, g6⟩ := carry2 hb4 (by omega) e4 e5 e6
  have hB4 := hB3.trans (hb4.mono hB3.size)
  clear hb4 hB3 e1 e2 e3 e4 e5 e6
  go_wp2_with fail
  refine (fits_any _ _ _ _ _).mono ?_
  rintro e w5 ⟨rfl, hb5⟩
  go_wp2_with fail
  go_ret
  exact ⟨rfl, hB4.trans (hb5.mono hB4.size)⟩

set_option maxRecDepth 100000 in
theorem amountChecks_lifted (os : Os) (started : os.Started) (H : Type) (enc : TypeId × Value → H) :
    ReturnsInHanded {} Try.checked os 4 .any (Rows.amountChecksSpec.pre6 enc Try.prog Try.f4 Rows.amountChecksRow.domain false) (Rows.amountChecksSpec.post enc Try.prog Try.f4 false true false false) := by
  refine returnsInHanded_of_change (C := Try.checked) own started (by kernel_rfl) Try.func4
    (ChangeSpec.witness6 (enc := enc) (C := Try.checked) false ⟨#[], #[.agg #[.int .i64 0, .int .i64 0], .agg #[.int .i64 0, .int .i64 0]], []⟩ 8 (by kernel_rfl) (by kernel_rfl) (by kernel_rfl) (by kernel_rfl)) ?_
  intro W base args ds gs before hval0 hW hcnd _
  have hval : ∀ (j : Nat) t v, Try.f4.params[j]? = some t → args[j]? = some v → Value.okWide Try.prog W .any base t v := hval0
  have hW' := hW
  obtain ⟨p, q, hA0, hV, rfl, hfz, hnd⟩ := hW
  have hA : DataW.TrodAll enc Try.prog W 0 (fun _ => true) true Try.f4.params.toList args.toList ds p := hA0
  rw [Try.params4] at hA hval
  obtain ⟨v0, vs0, d0, ds0, p0, q0, hargs, rfl, rfl, k0, r0⟩ := trodAll_cons hA
  obtain ⟨v1, vs1, d1, ds1, p1, q1, rfl, rfl, rfl, k1, r1⟩ := trodAll_cons r0
  obtain ⟨rfl, rfl, rfl⟩ := trodAll_nil r1
  obtain rfl : args = #[v0, v1] := by cases args; simp_all
  obtain ⟨rfl, rfl⟩ := trodVars_none hV
  have lt0 : ∀ x ∈ p0, x.block < W.heap.size := by obtain ⟨m, hm⟩ := k0; exact DataW.trod_lt m _ _ _ hm
  have lt1 : ∀ x ∈ p1, x.block < W.heap.size := by obtain ⟨m, hm⟩ := k1; exact DataW.trod_lt m _ _ _ hm
  obtain ⟨a, b, rfl, wa, wb⟩ := open26 (hval 0 26 v0 rfl rfl) k0
  obtain ⟨c, d, rfl, wc, wd⟩ := open26 (hval 1 26 v1 rfl rfl) k1
  clear hA0 hval0
  refine (amountChecks_walk a b c d W).mono fun e W' ⟨he, bel⟩ => ?_
  subst he
  exact ⟨_, rfl, _, _, _, [], _, [], hW', trodAll_mk1 (shut_bool Try.underlying4 _), (trodAll_cons_mk (Below.trod laidOut (by kernel_rfl) (of_decide_eq_true (by kernel_rfl)) k0 bel lt0) (trodAll_cons_mk (Below.trod laidOut (by kernel_rfl) (of_decide_eq_true (by kernel_rfl)) k1 bel lt1) trodAll_mk0)), rfl, bel.frame _, fun h => by cases h⟩

theorem amountChecks_over : Rows.amountChecksRow.holds Try.pinned (OpenSpec.ofChange Rows.amountChecksSpec) :=
  OpenClaim.holds_of_wide 4 Try.f4 rfl rfl rfl rfl rfl rfl rfl ⟨rfl, rfl, rfl, rfl, rfl⟩ rfl rfl rfl rfl rfl (by kernel_rfl) Try.func4 (by kernel_rfl)
    (of_decide_eq_true (by kernel_rfl)) (by unfold Func.isWrapper; first | (rw [if_pos (by decide +kernel)]; kernel_rfl) | (rw [if_neg (by decide +kernel)]; exact ⟨rfl, rfl⟩))
    (fun os started H enc _ => amountChecks_lifted os started H enc)

theorem amountChecks_holds : Rows.AmountChecksSaid := amountChecks_over

end Go.Proofs.Ytnaphpgbmjpicaa
