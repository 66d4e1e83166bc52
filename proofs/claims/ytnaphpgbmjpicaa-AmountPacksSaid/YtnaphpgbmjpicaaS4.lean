/- Any amounts have the bytes that the document says, and any bytes are the amounts that it says, or have its error: AmountPacks answers true. No condition. -/
import Derived.Test.YtnaphpgbmjpicaaQ
import Derived.Test.YtnaphpgbmjpicaaT
namespace Go.Proofs.Ytnaphpgbmjpicaa
open Go.ChangeShapes Go.WideShapes Go.ChangeAt Go.RowKit

theorem cells38 : Try.prog.cellsOf 38 = 14 := by kernel_rfl
theorem cells5 : Try.prog.cellsOf 5 = 1 := by kernel_rfl
theorem list14 {α : Type} : ∀ {l : List α}, l.length = 14 → ∃ x0 x1 x2 x3 x4 x5 x6 x7 x8 x9 x10 x11 x12 x13, l = [x0, x1, x2, x3, x4, x5, x6, x7, x8, x9, x10, x11, x12, x13]
  | [x0, x1, x2, x3, x4, x5, x6, x7, x8, x9, x10, x11, x12, x13], _ => ⟨x0, x1, x2, x3, x4, x5, x6, x7, x8, x9, x10, x11, x12, x13, rfl⟩
theorem n14_of {n : Nat} (h : n = Try.prog.cellsOf 38) : n = 14 := by rw [h]; exact cells38
section
variable {H : Type} {enc : TypeId × Value → H} {w : World} {base : Nat} {spare : Nat → Bool} {held : Bool}
theorem trod5 {fuel : Nat} {c : Value} {x : DataW H × List MemPlace} (h : DataW.trod enc Try.prog w base spare held fuel 5 [c] = some x) : ∃ b : Int, c = .int .u8 b ∧ 0 ≤ b ∧ b ≤ 255 := by
  obtain ⟨b, e0, _, wb⟩ := DataW.trod_int Try.underlying5 h
  simp at e0
  have := bounds_u8 wb
  exact ⟨b, e0, by omega, by omega⟩
set_option maxRecDepth 100000 in
set_option maxHeartbeats 1000000 in
theorem open38 {r : Reach} {b0 : Nat} {W : World} {v : Value} {d : DataW H} {p : List MemPlace} (hv : Value.okWide Try.prog W r b0 38 v) (h : DataW.Trod enc Try.prog w base spare held 38 v d p) :
    ∃ b0 b1 b2 b3 b4 b5 b6 b7 b8 b9 b10 b11 b12 b13 : Int, v = .agg #[.int .u8 b0, .int .u8 b1, .int .u8 b2, .int .u8 b3, .int .u8 b4, .int .u8 b5, .int .u8 b6, .int .u8 b7, .int .u8 b8, .int .u8 b9, .int .u8 b10, .int .u8 b11, .int .u8 b12, .int .u8 b13] ∧ (0 ≤ b0 ∧ b0 ≤ 255) ∧ (0 ≤ b1 ∧ b1 ≤ 255) ∧ (0 ≤ b2 ∧ b2 ≤ 255) ∧ (0 ≤ b3 ∧ b3 ≤ 255) ∧ (0 ≤ b4 ∧ b4 ≤ 255) ∧ (0 ≤ b5 ∧ b5 ≤ 255) ∧ (0 ≤ b6 ∧ b6 ≤ 255) ∧ (0 ≤ b7 ∧ b7 ≤ 255) ∧ (0 ≤ b8 ∧ b8 ≤ 255) ∧ (0 ≤ b9 ∧ b9 ≤ 255) ∧ (0 ≤ b10 ∧ b10 ≤ 255) ∧ (0 ≤ b11 ∧ b11 ≤ 255) ∧ (0 ≤ b12 ∧ b12 ≤ 255) ∧ (0 ≤ b13 ∧ b13 ≤ 255) := by
  obtain ⟨cs, rfl, _⟩ := okWide_agg Try.underlying38 hv
  obtain ⟨fuel, hf⟩ := h
  obtain ⟨xs, m, _, _, hl, hn, hi⟩ := DataW.trod_array Try.underlying38 hf
  obtain ⟨a0, a1, a2, a3, a4, a5, a6, a7, a8, a9, a10, a11, a12, a13, hc⟩ := list14 (n14_of hl)
  obtain ⟨y0, y1, y2, y3, y4, y5, y6, y7, y8, y9, y10, y11, y12, y13, rfl⟩ := list14 hn
  rw [hc] at hi
  obtain ⟨b0, e0, f0, g0⟩ := trod5 (c := a0) (x := y0) (enc := enc) (w := w) (base := base) (spare := spare) (held := held) (fuel := m) (by have := hi 0 (by omega); rw [cells5] at this; simpa using this)
  obtain ⟨b1, e1, f1, g1⟩ := trod5 (c := a1) (x := y1) (enc := enc) (w := w) (base := base) (spare := spare) (held := held) (fuel := m) (by have := hi 1 (by omega); rw [cells5] at this; simpa using this)
  obtain ⟨b2, e2, f2, g2⟩ := trod5 (c := a2) (x := y2) (enc := enc) (w := w) (base := base) (spare := spare) (held := held) (fuel := m) (by have := hi 2 (by omega); rw [cells5] at this; simpa using this)
  obtain ⟨b3, e3, f3, g3⟩ := trod5 (c := a3) (x := y3) (enc := enc) (w := w) (base := base) (spare := spare) (held := held) (fuel := m) (by have := hi 3 (by omega); rw [cells5] at this; simpa using this)
  obtain ⟨b4, e4, f4, g4⟩ := trod5 (c := a4) (x := y4) (enc := enc) (w := w) (base := base) (spare := spare) (held := held) (fuel := m) (by have := hi 4 (by omega); rw [cells5] at this; simpa using this)
  obtain ⟨b5, e5, f5, g5⟩ := trod5 (c := a5) (x := y5) (enc := enc) (w := w) (base := base) (spare := spare) (held := held) (fuel := m) (by have := hi 5 (by omega); rw [cells5] at this; simpa using this)
  obtain ⟨b6, e6, f6, g6⟩ := trod5 (c := a6) (x := y6) (enc := enc) (w := w) (base := base) (spare := spare) (held := held) (fuel := m) (by have := hi 6 (by omega); rw [cells5] at this; simpa using this)
  obtain ⟨b7, e7, f7, g7⟩ := trod5 (c := a7) (x := y7) (enc := enc) (w := w) (base := base) (spare := spare) (held := held) (fuel := m) (by have := hi 7 (by omega); rw [cells5] at this; simpa using this)
  obtain ⟨b8, e8, f8, g8⟩ := trod5 (c := a8) (x := y8) (enc := enc) (w := w) (base := base) (spare := spare) (held := held) (fuel := m) (by have := hi 8 (by omega); rw [cells5] at this; simpa using this)
  obtain ⟨b9, e9, f9, g9⟩ := trod5 (c := a9) (x := y9) (enc := enc) (w := w) (base := base) (spare := spare) (held := held) (fuel := m) (by have := hi 9 (by omega); rw [cells5] at this; simpa using this)
  obtain ⟨b10, e10, f10, g10⟩ := trod5 (c := a10) (x := y10) (enc := enc) (w := w) (base := base) (spare := spare) (held := held) (fuel := m) (by have := hi 10 (by omega); rw [cells5] at this; simpa using this)
  obtain ⟨b11, e11, f11, g11⟩ := trod5 (c := a11) (x := y11) (enc := enc) (w := w) (base := base) (spare := spare) (held := held) (fuel := m) (by have := hi 11 (by omega); rw [cells5] at this; simpa using this)
  obtain ⟨b12, e12, f12, g12⟩ := trod5 (c := a12) (x := y12) (enc := enc) (w := w) (base := base) (spare := spare) (held := held) (fuel := m) (by have := hi 12 (by omega); rw [cells5] at this; simpa using this)
  obtain ⟨b13, e13, f13, g13⟩ := trod5 (c := a13) (x := y13) (enc := enc) (w := w) (base := base) (spare := spare) (held := held) (fuel := m) (by have := hi 13 (by omega); rw [cells5] at this; simpa using this)
  have h2 : cs.toList = [.int .u8 b0, .int .u8 b1, .int .u8 b2, .int .u8 b3, .int .u8 b4, .int .u8 b5, .int .u8 b6, .int .u8 b7, .int .u8 b8, .int .u8 b9, .int .u8 b10, .int .u8 b11, .int .u8 b12, .int .u8 b13] := hc.trans (by rw [e0, e1, e2, e3, e4, e5, e6, e7, e8, e9, e10, e11, e12, e13])
  exact ⟨b0, b1, b2, b3, b4, b5, b6, b7, b8, b9, b10, b11, b12, b13, congrArg Value.agg (Array.ext' h2), ⟨f0, g0⟩, ⟨f1, g1⟩, ⟨f2, g2⟩, ⟨f3, g3⟩, ⟨f4, g4⟩, ⟨f5, g5⟩, ⟨f6, g6⟩, ⟨f7, g7⟩, ⟨f8, g8⟩, ⟨f9, g9⟩, ⟨f10, g10⟩, ⟨f11, g11⟩, ⟨f12, g12⟩, ⟨f13, g13⟩⟩
end

attribute [local go_sem] eqIn26 eqG26 eqSame38 eqG38

set_option maxRecDepth 100000 in
set_option maxHeartbeats 4000000 in
theorem amountPacks_walk (a b b0 b1 b2 b3 b4 b5 b6 b7 b8 b9 b10 b11 b12 b13 : Int) (p0 : 0 ≤ b0) (q0 : b0 ≤ 255) (p1 : 0 ≤ b1) (q1 : b1 ≤ 255) (p2 : 0 ≤ b2) (q2 : b2 ≤ 255) (p3 : 0 ≤ b3) (q3 : b3 ≤ 255) (p4 : 0 ≤ b4) (q4 : b4 ≤ 255) (p5 : 0 ≤ b5) (q5 : b5 ≤ 255) (p6 : 0 ≤ b6) (q6 : b6 ≤ 255) (p7 : 0 ≤ b7) (q7 : b7 ≤ 255) (p8 : 0 ≤ b8) (q8 : b8 ≤ 255) (p9 : 0 ≤ b9) (q9 : b9 ≤ 255) (p10 : 0 ≤ b10) (q10 : b10 ≤ 255) (p11 : 0 ≤ b11) (q11 : b11 ≤ 255) (p12 : 0 ≤ b12) (q12 : b12 ≤ 255) (p13 : 0 ≤ b13) (q13 : b13 ≤ 255) (w : World) : Calls Try.prog 8 #[.agg #[.int .i64 a, .int .i64 b], .agg #[.int .u8 b0, .int .u8 b1, .int .u8 b2, .int .u8 b3, .int .u8 b4, .int .u8 b5, .int .u8 b6, .int .u8 b7, .int .u8 b8, .int .u8 b9, .int .u8 b10, .int .u8 b11, .int .u8 b12, .int .u8 b13]] w fun e w' => e = .returned (.bool true) ∧ Below w.heap.size w w' := by
  obtain ⟨c0, c1, c2, c3, c4, c5, c6, c7, c8, c9, c10, c11, c12, c13, hpk⟩ : ∃ c0 c1 c2 c3 c4 c5 c6 c7 c8 c9 c10 c11 c12 c13 : Int, packV a b = .agg #[.int .u8 c0, .int .u8 c1, .int .u8 c2, .int .u8 c3, .int .u8 c4, .int .u8 c5, .int .u8 c6, .int .u8 c7, .int .u8 c8, .int .u8 c9, .int .u8 c10, .int .u8 c11, .int .u8 c12, .int .u8 c13] := ⟨_, _, _, _, _, _, _, _, _, _, _, _, _, _, packV_eq a b⟩
  have hP := fun w => pack_any a b w
  have hR := fun w => rpack_any a b w
  rw [hpk] at hP hR
  obtain ⟨s, hs⟩ : ∃ s, s = (le7 b0 b1 b2 b3 b4 b5 b6) := ⟨_, rfl⟩
  obtain ⟨t, ht⟩ : ∃ t, t = (le7 b7 b8 b9 b10 b11 b12 b13) := ⟨_, rfl⟩
  have hU := fun w => unpack_any b0 b1 b2 b3 b4 b5 b6 b7 b8 b9 b10 b11 b12 b13 p0 q0 p1 q1 p2 q2 p3 q3 p4 q4 p5 q5 p6 q6 p7 q7 p8 q8 p9 q9 p10 q10 p11 q11 p12 q12 p13 q13 w
  have hV := fun w => runpack_any b0 b1 b2 b3 b4 b5 b6 b7 b8 b9 b10 b11 b12 b13 p0 q0 p1 q1 p2 q2 p3 q3 p4 q4 p5 q5 p6 q6 p7 q7 p8 q8 p9 q9 p10 q10 p11 q11 p12 q12 p13 q13 w
  rw [← hs, ← ht] at hU hV
  have HP := Lib.hid hP
  have HR := Lib.hid hR
  have HU := Lib.hid hU
  have HV := Lib.hid hV
  clear hP hR hU hV hs ht hpk
  go_enter Try.func8, Try.ntmps8
  go_wp2_with fail
  refine (HP.out _).mono ?_
  rintro e w1 ⟨rfl, hb1⟩
  obtain ⟨x1, y1, hz1⟩ := heap2 hb1
  have hy1 : w.heap.size < w1.heap.size := by omega
  have hk1 : Below w.heap.size w w1 := base2 hb1
  have hB1 : Below w.heap.size w w1 := hk1
  clear hb1 hk1
  obtain ⟨r1_0_0, r1_0_1⟩ := cells2h x1
  go_wp2_with fail
  refine (HR.out _).mono ?_
  rintro e w2 ⟨rfl, hb2⟩
  have x2 := heap1 hb2
  have hk2 : Below w1.heap.size w1 w2 := below1 hb2
  have hz2 : w1.heap.size < w2.heap.size := by have := hb2.size; simp at this; omega
  have g2_0 := heapKeep hk2 (by omega) x1
  have g2_1 := heapKeep hk2 (by omega) y1
  clear x1 y1 r1_0_0 r1_0_1
  have hz1_2 := Nat.lt_of_lt_of_le hz1 hk2.size
  have hy1_2 := Nat.lt_of_lt_of_le hy1 hk2.size
  clear hz1 hy1
  have hB2 : Below w.heap.size w w2 := hB1.trans (hk2.mono hB1.size)
  clear hb2 hk2 hB1
  obtain ⟨r2_1_0, r2_1_1, r2_1_2, r2_1_3, r2_1_4, r2_1_5, r2_1_6, r2_1_7, r2_1_8, r2_1_9, r2_1_10, r2_1_11, r2_1_12, r2_1_13⟩ := cells14 g2_1
  go_wp2_with fail
  refine (HU.out _).mono ?_
  rintro e w3 ⟨rfl, hb3⟩
  have x3 := heap1 hb3
  have hk3 : Below w2.heap.size w2 w3 := below1 hb3
  have hz3 : w2.heap.size < w3.heap.size := by have := hb3.size; simp at this; omega
  have g3_0 := heapKeep hk3 (by omega) g2_0
  have g3_1 := heapKeep hk3 (by omega) g2_1
  have g3_2 := heapKeep hk3 (by omega) x2
  clear g2_0 g2_1 x2 r2_1_0 r2_1_1 r2_1_2 r2_1_3 r2_1_4 r2_1_5 r2_1_6 r2_1_7 r2_1_8 r2_1_9 r2_1_10 r2_1_11 r2_1_12 r2_1_13
  have hz1_2_3 := Nat.lt_of_lt_of_le hz1_2 hk3.size
  have hy1_2_3 := Nat.lt_of_lt_of_le hy1_2 hk3.size
  have hz2_3 := Nat.lt_of_lt_of_le hz2 hk3.size
  clear hz1_2 hy1_2 hz2
  have hB3 : Below w.heap.size w w3 := hB2.trans (hk3.mono hB2.size)
  clear hb3 hk3 hB2
  obtain ⟨r3_1_0, r3_1_1, r3_1_2, r3_1_3, r3_1_4, r3_1_5, r3_1_6, r3_1_7, r3_1_8, r3_1_9, r3_1_10, r3_1_11, r3_1_12, r3_1_13⟩ := cells14 g3_1
  go_wp2_with fail
  refine (HV.out _).mono ?_
  rintro e w4 ⟨rfl, hb4⟩
  have x4 := heap1 hb4
  have hk4 : Below w3.heap.size w3 w4 := below1 hb4
  have hz4 : w3.heap.size < w4.heap.size := by have := hb4.size; simp at this; omega
  have g4_0 := heapKeep hk4 (by omega) g3_0
  have g4_1 := heapKeep hk4 (by omega) g3_1
  have g4_2 := heapKeep hk4 (by omega) g3_2
  have g4_3 := heapKeep hk4 (by omega) x3
  clear g3_0 g3_1 g3_2 x3 r3_1_0 r3_1_1 r3_1_2 r3_1_3 r3_1_4 r3_1_5 r3_1_6 r3_1_7 r3_1_8 r3_1_9 r3_1_10 r3_1_11 r3_1_12 r3_1_13
  have hz1_2_3_4 := Nat.lt_of_lt_of_le hz1_2_3 hk4.size
  have hy1_2_3_4 := Nat.lt_of_lt_of_le hy1_2_3 hk4.size
  have hz2_3_4 := Nat.lt_of_lt_of_le hz2_3 hk4.size
  have hz3_4 := Nat.lt_of_lt_of_le hz3 hk4.size
  clear hz1_2_3 hy1_2_3 hz2_3 hz3
  have hB4 : Below w.heap.size w w4 := hB3.trans (hk4.mono hB3.size)
  clear hb4 hk4 hB3
  go_wp2_with fail
  refine (live1_any _).mono ?_
  rintro e w5 ⟨rfl, hb5⟩
  have x5 := heap1 hb5
  have hk5 : Below w4.heap.size w4 w5 := below1 hb5
  have hz5 : w4.heap.size < w5.heap.size := by have := hb5.size; simp at this; omega
  have g5_0 := heapKeep hk5 (by omega) g4_0
  have g5_1 := heapKeep hk5 (by omega) g4_1
  have g5_2 := heapKeep hk5 (by omega) g4_2
  have g5_3 := heapKeep hk5 (by omega) g4_3
  have g5_4 := heapKeep hk5 (by omega) x4
  clear g4_0 g4_1 g4_2 g4_3 x4
  have hz1_2_3_4_5 := Nat.lt_of_lt_of_le hz1_2_3_4 hk5.size
  have hy1_2_3_4_5 := Nat.lt_of_lt_of_le hy1_2_3_4 hk5.size
  have hz2_3_4_5 := Nat.lt_of_lt_of_le hz2_3_4 hk5.size
  have hz3_4_5 := Nat.lt_of_lt_of_le hz3_4 hk5.size
  have hz4_5 := Nat.lt_of_lt_of_le hz4 hk5.size
  clear hz1_2_3_4 hy1_2_3_4 hz2_3_4 hz3_4 hz4
  have hB5 : Below w.heap.size w w5 := hB4.trans (hk5.mono hB4.size)
  clear hb5 hk5 hB4
  obtain ⟨r5_2_0, r5_2_1, r5_2_2, r5_2_3, r5_2_4, r5_2_5, r5_2_6, r5_2_7, r5_2_8, r5_2_9, r5_2_10, r5_2_11, r5_2_12, r5_2_13⟩ := cells14 g5_2
  obtain ⟨r5_3_0, r5_3_1, r5_3_2, r5_3_3, r5_3_4, r5_3_5, r5_3_6, r5_3_7, r5_3_8, r5_3_9, r5_3_10, r5_3_11, r5_3_12, r5_3_13⟩ := cells14 g5_3
  obtain ⟨r5_4_0, r5_4_1⟩ := cells2h g5_4
  obtain ⟨r5_5_0, r5_5_1⟩ := cells2h x5
  go_wp2_with fail
  go_ret
  exact ⟨rfl, hB5⟩

set_option maxRecDepth 100000 in
theorem amountPacks_lifted (os : Os) (started : os.Started) (H : Type) (enc : TypeId × Value → H) :
    ReturnsInHanded {} Try.checked os 8 .any (Rows.amountPacksSpec.pre6 enc Try.prog Try.f8 Rows.amountPacksRow.domain false) (Rows.amountPacksSpec.post enc Try.prog Try.f8 false true false false) := by
  refine returnsInHanded_of_change (C := Try.checked) own started (by kernel_rfl) Try.func8
    (ChangeSpec.witness6 (enc := enc) (C := Try.checked) false ⟨#[], #[.agg #[.int .i64 0, .int .i64 0], .agg #[.int .u8 0, .int .u8 0, .int .u8 0, .int .u8 0, .int .u8 0, .int .u8 0, .int .u8 0, .int .u8 0, .int .u8 0, .int .u8 0, .int .u8 0, .int .u8 0, .int .u8 0, .int .u8 0]], []⟩ 8 (by kernel_rfl) (by kernel_rfl) (by kernel_rfl) (by kernel_rfl)) ?_
  intro W base args ds gs before hval0 hW hcnd _
  have hval : ∀ (j : Nat) t v, Try.f8.params[j]? = some t → args[j]? = some v → Value.okWide Try.prog W .any base t v := hval0
  have hW' := hW
  obtain ⟨p, q, hA0, hV, rfl, hfz, hnd⟩ := hW
  have hA : DataW.TrodAll enc Try.prog W 0 (fun _ => true) true Try.f8.params.toList args.toList ds p := hA0
  rw [Try.params8] at hA hval
  obtain ⟨v0, vs0, d0, ds0, p0, q0, hargs, rfl, rfl, k0, r0⟩ := trodAll_cons hA
  obtain ⟨v1, vs1, d1, ds1, p1, q1, rfl, rfl, rfl, k1, r1⟩ := trodAll_cons r0
  obtain ⟨rfl, rfl, rfl⟩ := trodAll_nil r1
  obtain rfl : args = #[v0, v1] := by cases args; simp_all
  obtain ⟨rfl, rfl⟩ := trodVars_none hV
  have lt0 : ∀ x ∈ p0, x.block < W.heap.size := by obtain ⟨m, hm⟩ := k0; exact DataW.trod_lt m _ _ _ hm
  have lt1 : ∀ x ∈ p1, x.block < W.heap.size := by obtain ⟨m, hm⟩ := k1; exact DataW.trod_lt m _ _ _ hm
  obtain ⟨a, b, rfl, wa, wb⟩ := open26 (hval 0 26 v0 rfl rfl) k0
  obtain ⟨b0, b1, b2, b3, b4, b5, b6, b7, b8, b9, b10, b11, b12, b13, rfl, ⟨f0, g0⟩, ⟨f1, g1⟩, ⟨f2, g2⟩, ⟨f3, g3⟩, ⟨f4, g4⟩, ⟨f5, g5⟩, ⟨f6, g6⟩, ⟨f7, g7⟩, ⟨f8, g8⟩, ⟨f9, g9⟩, ⟨f10, g10⟩, ⟨f11, g11⟩, ⟨f12, g12⟩, ⟨f13, g13⟩⟩ := open38 (hval 1 38 v1 rfl rfl) k1
  clear hA0 hval0
  refine (amountPacks_walk a b b0 b1 b2 b3 b4 b5 b6 b7 b8 b9 b10 b11 b12 b13 f0 g0 f1 g1 f2 g2 f3 g3 f4 g4 f5 g5 f6 g6 f7 g7 f8 g8 f9 g9 f10 g10 f11 g11 f12 g12 f13 g13 W).mono fun e W' ⟨he, bel⟩ => ?_
  subst he
  exact ⟨_, rfl, _, _, _, [], _, [], hW', trodAll_mk1 (shut_bool Try.underlying4 _), (trodAll_cons_mk (Below.trod laidOut (by kernel_rfl) (of_decide_eq_true (by kernel_rfl)) k0 bel lt0) (trodAll_cons_mk (Below.trod laidOut (by kernel_rfl) (of_decide_eq_true (by kernel_rfl)) k1 bel lt1) trodAll_mk0)), rfl, bel.frame _, fun h => by cases h⟩

theorem amountPacks_over : Rows.amountPacksRow.holds Try.pinned (OpenSpec.ofChange Rows.amountPacksSpec) :=
  OpenClaim.holds_of_wide 8 Try.f8 rfl rfl rfl rfl rfl rfl rfl ⟨rfl, rfl, rfl, rfl, rfl⟩ rfl rfl rfl rfl rfl (by kernel_rfl) Try.func8 (by kernel_rfl)
    (of_decide_eq_true (by kernel_rfl)) (by unfold Func.isWrapper; first | (rw [if_pos (by decide +kernel)]; kernel_rfl) | (rw [if_neg (by decide +kernel)]; exact ⟨rfl, rfl⟩))
    (fun os started H enc _ => amountPacks_lifted os started H enc)

theorem amountPacks_holds : Rows.AmountPacksSaid := amountPacks_over

end Go.Proofs.Ytnaphpgbmjpicaa
