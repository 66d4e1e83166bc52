/- Any two pairs of amounts are added, and taken from one another, as the document says, or have its error: AmountSums answers true. No condition. -/
import Derived.Test.YtnaphpgbmjpicaaQ
namespace Go.Proofs.Ytnaphpgbmjpicaa
open Go.ChangeShapes Go.WideShapes Go.ChangeAt Go.RowKit

attribute [local go_sem] eqIn26 eqG26

set_option maxRecDepth 100000 in
set_option maxHeartbeats 2000000 in
theorem amountSums_walk (a b c d : Int) (w : World) : Calls Try.prog 5 #[.agg #[.int .i64 a, .int .i64 b], .agg #[.int .i64 c, .int .i64 d]] w fun e w' => e = .returned (.bool true) ∧ Below w.heap.size w w' := by
  go_enter Try.func5, Try.ntmps5
  go_wp2_with fail
  refine (add_any _ _ _ _ _).mono ?_
  rintro e w1 ⟨rfl, hb1⟩
  obtain ⟨⟨x10, x11, _⟩, ⟨y10, y11, _⟩, hz1⟩ := boxes2 hb1
  have hy1 : w.heap.size < w1.heap.size := by omega
  have hk1 : Below w.heap.size w w1 := base2 hb1
  have hB1 : Below w.heap.size w w1 := hk1
  clear hb1 hk1
  go_wp2_with fail
  refine (radd_any _ _ _ _ _).mono ?_
  rintro e w2 ⟨rfl, hb2⟩
  obtain ⟨x20, x21⟩ := box1 hb2
  have hk2 : Below w1.heap.size w1 w2 := below1 hb2
  have hz2 : w1.heap.size < w2.heap.size := by have := hb2.size; simp at this; omega
  obtain ⟨c2_0a, c2_0b⟩ := carry1 hk2 (by omega) x10 x11
  obtain ⟨c2_1a, c2_1b⟩ := carry1 hk2 (by omega) y10 y11
  clear x10 x11 y10 y11
  have hz1_2 := Nat.lt_of_lt_of_le hz1 hk2.size
  have hy1_2 := Nat.lt_of_lt_of_le hy1 hk2.size
  have hB2 : Below w.heap.size w w2 := hB1.trans (hk2.mono hB1.size)
  clear hb2 hk2 hB1
  go_wp2_with fail
  refine (sub_any _ _ _ _ _).mono ?_
  rintro e w3 ⟨rfl, hb3⟩
  obtain ⟨x30, x31⟩ := box1 hb3
  have hk3 : Below w2.heap.size w2 w3 := below1 hb3
  have hz3 : w2.heap.size < w3.heap.size := by have := hb3.size; simp at this; omega
  obtain ⟨c3_0a, c3_0b⟩ := carry1 hk3 (by omega) c2_0a c2_0b
  obtain ⟨c3_1a, c3_1b⟩ := carry1 hk3 (by omega) c2_1a c2_1b
  obtain ⟨c3_2a, c3_2b⟩ := carry1 hk3 (by omega) x20 x21
  clear c2_0a c2_0b c2_1a c2_1b x20 x21
  have hz1_2_3 := Nat.lt_of_lt_of_le hz1_2 hk3.size
  have hy1_2_3 := Nat.lt_of_lt_of_le hy1_2 hk3.size
  have hz2_3 := Nat.lt_of_lt_of_le hz2 hk3.size
  have hB3 : Below w.heap.size w w3 := hB2.trans (hk3.mono hB2.size)
  clear hb3 hk3 hB2
  go_wp2_with fail
  refine (rsub_any _ _ _ _ _).mono ?_
  rintro e w4 ⟨rfl, hb4⟩
  obtain ⟨x40, x41⟩ := box1 hb4
  have hk4 : Below w3.heap.size w3 w4 := below1 hb4
  have hz4 : w3.heap.size < w4.heap.size := by have := hb4.size; simp at this; omega
  obtain ⟨c4_0a, c4_0b⟩ := carry1 hk4 (by omega) c3_0a c3_0b
  obtain ⟨c4_1a, c4_1b⟩ := carry1 hk4 (by omega) c3_1a c3_1b
  obtain ⟨c4_2a, c4_2b⟩ := carry1 hk4 (by omega) c3_2a c3_2b
  obtain ⟨c4_3a, c4_3b⟩ := carry1 hk4 (by omega) x30 x31
  clear c3_0a c3_0b c3_1a c3_1b c3_2a c3_2b x30 x31
  have hz1_2_3_4 := Nat.lt_of_lt_of_le hz1_2_3 hk4.size
  have hy1_2_3_4 := Nat.lt_of_lt_of_le hy1_2_3 hk4.size
  have hz2_3_4 := Nat.lt_of_lt_of_le hz2_3 hk4.size
  have hz3_4 := Nat.lt_of_lt_of_le hz3 hk4.size
  have hB4 : Below w.heap.size w w4 := hB3.trans (hk4.mono hB3.size)
  clear hb4 hk4 hB3
  go_wp2_with fail
  refine (live1_any _).mono ?_
  rintro e w5 ⟨rfl, hb5⟩
  obtain ⟨x50, x51⟩ := box1 hb5
  have hk5 : Below w4.heap.size w4 w5 := below1 hb5
  have hz5 : w4.heap.size < w5.heap.size := by have := hb5.size; simp at this; omega
  obtain ⟨c5_0a, c5_0b⟩ := carry1 hk5 (by omega) c4_0a c4_0b
  obtain ⟨c5_1a, c5_1b⟩ := carry1 hk5 (by omega) c4_1a c4_1b
  obtain ⟨c5_2a, c5_2b⟩ := carry1 hk5 (by omega) c4_2a c4_2b
  obtain ⟨c5_3a, c5_3b⟩ := carry1 hk5 (by omega) c4_3a c4_3b
  obtain ⟨c5_4a, c5_4b⟩ := carry1 hk5 (by omega) x40 x41
  clear c4_0a c4_0b c4_1a c4_1b c4_2a c4_2b c4_3a c4_3b x40 x41
  have hz1_2_3_4_5 := Nat.lt_of_lt_of_le hz1_2_3_4 hk5.size
  have hy1_2_3_4_5 := Nat.lt_of_lt_of_le hy1_2_3_4 hk5.size
  have hz2_3_4_5 := Nat.lt_of_lt_of_le hz2_3_4 hk5.size
  have hz3_4_5 := Nat.lt_of_lt_of_le hz3_4 hk5.size
  have hz4_5 := Nat.lt_of_lt_of_le hz4 hk5.size
  have hB5 : Below w.heap.size w w5 := hB4.trans (hk5.mono hB4.size)
  clear hb5 hk5 hB4
  go_wp2_with fail
  go_ret
  exact ⟨rfl, hB5⟩

set_option maxRecDepth 100000 in
theorem amountSums_lifted (os : Os) (started : os.Started) (H : Type) (enc : TypeId × Value → H) :
    ReturnsInHanded {} Try.checked os 5 .any (Rows.amountSumsSpec.pre6 enc Try.prog Try.f5 Rows.amountSumsRow.domain false) (Rows.amountSumsSpec.post enc Try.prog Try.f5 false true false false) := by
  refine returnsInHanded_of_change (C := Try.checked) own started (by kernel_rfl) Try.func5
    (ChangeSpec.witness6 (enc := enc) (C := Try.checked) false ⟨#[], #[.agg #[.int .i64 0, .int .i64 0], .agg #[.int .i64 0, .int .i64 0]], []⟩ 8 (by kernel_rfl) (by kernel_rfl) (by kernel_rfl) (by kernel_rfl)) ?_
  intro W base args ds gs before hval0 hW hcnd _
  have hval : ∀ (j : Nat) t v, Try.f5.params[j]? = some t → args[j]? = some v → Value.okWide Try.prog W .any base t v := hval0
  have hW' := hW
  obtain ⟨p, q, hA0, hV, rfl, hfz, hnd⟩ := hW
  have hA : DataW.TrodAll enc Try.prog W 0 (fun _ => true) true Try.f5.params.toList args.toList ds p := hA0
  rw [Try.params5] at hA hval
  obtain ⟨v0, vs0, d0, ds0, p0, q0, hargs, rfl, rfl, k0, r0⟩ := trodAll_cons hA
  obtain ⟨v1, vs1, d1, ds1, p1, q1, rfl, rfl, rfl, k1, r1⟩ := trodAll_cons r0
  obtain ⟨rfl, rfl, rfl⟩ := trodAll_nil r1
  obtain rfl : args = #[v0, v1] := by cases args; simp_all
  obtain ⟨rfl, rfl⟩ := trodVars_none hV
  have lt0 : ∀ x ∈ p0, x.block < W.heap.size := by obtain ⟨m, hm⟩ := k0; exact DataW.trod_lt m _ _ _ hm
  have lt1 : ∀ x ∈ p1, x.block < W.heap.size := by obtain ⟨m, hm⟩ := k1; exact DataW.trod_lt m _ _ _ hm
  obtain ⟨a, b, rfl, wa, wb⟩ := open26 (hval 0 26 v0 rfl rfl) k0
  obtain ⟨c, d, rfl, wc, wd⟩ := open26 (hval 1 26 v1 rfl rfl) k1
  clear hA0 hval0
  refine (amountSums_walk a b c d W).mono fun e W' ⟨he, bel⟩ => ?_
  subst he
  exact ⟨_, rfl, _, _, _, [], _, [], hW', trodAll_mk1 (shut_bool Try.underlying4 _), (trodAll_cons_mk (Below.trod laidOut (by kernel_rfl) (of_decide_eq_true (by kernel_rfl)) k0 bel lt0) (trodAll_cons_mk (Below.trod laidOut (by kernel_rfl) (of_decide_eq_true (by kernel_rfl)) k1 bel lt1) trodAll_mk0)), rfl, bel.frame _, fun h => by cases h⟩

theorem amountSums_over : Rows.amountSumsRow.holds Try.pinned (OpenSpec.ofChange Rows.amountSumsSpec) :=
  OpenClaim.holds_of_wide 5 Try.f5 rfl rfl rfl rfl rfl rfl rfl ⟨rfl, rfl, rfl, rfl, rfl⟩ rfl rfl rfl rfl rfl (by kernel_rfl) Try.func5 (by kernel_rfl)
    (of_decide_eq_true (by kernel_rfl)) (by unfold Func.isWrapper; first | (rw [if_pos (by decide +kernel)]; kernel_rfl) | (rw [if_neg (by decide +kernel)]; exact ⟨rfl, rfl⟩))
    (fun os started H enc _ => amountSums_lifted os started H enc)

theorem amountSums_holds : Rows.AmountSumsSaid := amountSums_over

end Go.Proofs.Ytnaphpgbmjpicaa
