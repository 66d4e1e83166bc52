/- The walk of AmountBack, part 1 of 4 (its cases) -/
import Derived.Test.YtnaphpgbmjpicaaQ
import Derived.Test.YtnaphpgbmjpicaaU
namespace Go.Proofs.Ytnaphpgbmjpicaa
open Go.ChangeShapes Go.WideShapes Go.ChangeAt Go.RowKit

attribute [local go_sem] eqIn26 eqG26 eqSame38 eqG38

set_option maxRecDepth 100000 in
set_option maxHeartbeats 4000000 in
theorem back_TTT0 (a0 a1 b0 b1 c0 c1 s0 s1 e t0 t1 f x0 x1 y g2 q0 q1 h2 p0 p1 p2 p3 p4 p5 p6 p7 p8 p9 p10 p11 p12 p13 d0 d1 g u0 u1 h v0 v1 i w0 w1 k : Int) (HA : Hid (∀ w, Calls Try.prog 21 #[.agg #[.int .i64 a0, .int .i64 a1], .agg #[.int .i64 b0, .int .i64 b1]] w fun e' w' => e' = .returned (.tuple #[.agg #[.int .i64 s0, .int .i64 s1], .int .i64 e]) ∧ Below w.heap.size w w')) (HB : Hid (∀ w, Calls Try.prog 21 #[.agg #[.int .i64 b0, .int .i64 b1], .agg #[.int .i64 a0, .int .i64 a1]] w fun e' w' => e' = .returned (.tuple #[.agg #[.int .i64 t0, .int .i64 t1], .int .i64 f]) ∧ Below w.heap.size w w')) (k1 : (s0 == t0) = true) (k2 : (s1 == t1) = true) (k3 : (e == 0) = true) (k4 : (f == 0) = true) (HC : Hid (∀ w, Calls Try.prog 23 #[.agg #[.int .i64 s0, .int .i64 s1], .agg #[.int .i64 b0, .int .i64 b1]] w fun e' w' => e' = .returned (.tuple #[.agg #[.int .i64 d0, .int .i64 d1], .int .i64 g]) ∧ Below w.heap.size w w')) (k5 : (g != 0) = false) (k6 : (d0 == a0) = true) (k7 : (d1 == a1) = true) (HD : Hid (∀ w, Calls Try.prog 20 #[.agg #[.int .i64 a0, .int .i64 a1], .agg #[.int .i64 s0, .int .i64 s1]] w fun e' w' => e' = .returned (.bool true) ∧ Below w.heap.size w w')) (HE : Hid (∀ w, Calls Try.prog 20 #[.agg #[.int .i64 b0, .int .i64 b1], .agg #[.int .i64 s0, .int .i64 s1]] w fun e' w' => e' = .returned (.bool true) ∧ Below w.heap.size w w')) (HF : Hid (∀ w, Calls Try.prog 21 #[.agg #[.int .i64 s0, .int .i64 s1], .agg #[.int .i64 c0, .int .i64 c1]] w fun e' w' => e' = .returned (.tuple #[.agg #[.int .i64 u0, .int .i64 u1], .int .i64 h]) ∧ Below w.heap.size w w')) (HG : Hid (∀ w, Calls Try.prog 21 #[.agg #[.int .i64 b0, .int .i64 b1], .agg #[.int .i64 c0, .int .i64 c1]] w fun e' w' => e' = .returned (.tuple #[.agg #[.int .i64 v0, .int .i64 v1], .int .i64 i]) ∧ Below w.heap.size w w')) (k8 : (i == 0) = true) (HH : Hid (∀ w, Calls Try.prog 21 #[.agg #[.int .i64 a0, .int .i64 a1], .agg #[.int .i64 v0, .int .i64 v1]] w fun e' w' => e' = .returned (.tuple #[.agg #[.int .i64 w0, .int .i64 w1], .int .i64 k]) ∧ Below w.heap.size w w')) (k9 : (k == 0) = (h == 0)) (k10 : (w0 == u0) = true) (k11 : (w1 == u1) = true) (HI : Hid (∀ w, Calls Try.prog 29 #[.agg #[.int .i64 a0, .int .i64 a1]] w fun e' w' => e' = .returned (.tuple #[.agg #[.int .u8 p0, .int .u8 p1, .int .u8 p2, .int .u8 p3, .int .u8 p4, .int .u8 p5, .int .u8 p6, .int .u8 p7, .int .u8 p8, .int .u8 p9, .int .u8 p10, .int .u8 p11, .int .u8 p12, .int .u8 p13], .int .i64 g2]) ∧ Below w.heap.size w w')) (HJ : Hid (∀ w, Calls Try.prog 31 #[.agg #[.int .u8 p0, .int .u8 p1, .int .u8 p2, .int .u8 p3, .int .u8 p4, .int .u8 p5, .int .u8 p6, .int .u8 p7, .int .u8 p8, .int .u8 p9, .int .u8 p10, .int .u8 p11, .int .u8 p12, .int .u8 p13]] w fun e' w' => e' = .returned (.tuple #[.agg #[.int .i64 q0, .int .i64 q1], .int .i64 h2]) ∧ Below w.heap.size w w')) (k12 : (g2 != 0) = false) (k13 : (g2 == 0) = true) (k14 : (h2 == 0) = true) (k15 : (q0 == a0) = true) (k16 : (q1 == a1) = true) (HK : Hid (∀ w, Calls Try.prog 20 #[.agg #[.int .i64 a0, .int .i64 a1], .agg #[.int .i64 b0, .int .i64 b1]] w fun e' w' => e' = .returned (.bool false) ∧ Below w.heap.size w w')) (HN : Hid (∀ w, Calls Try.prog 23 #[.agg #[.int .i64 b0, .int .i64 b1], .agg #[.int .i64 a0, .int .i64 a1]] w fun e' w' => e' = .returned (.tuple #[.agg #[.int .i64 x0, .int .i64 x1], .int .i64 y]) ∧ Below w.heap.size w w')) (k17 : (y == 0) = false) (k18 : (y != 0) = true) (HP : Hid (∀ w, Calls Try.prog 20 #[.agg #[.int .i64 a0, .int .i64 a1], .agg #[.int .i64 a0, .int .i64 a1]] w fun e' w' => e' = .returned (.bool true) ∧ Below w.heap.size w w')) (w : World) : Calls Try.prog 9 #[.agg #[.int .i64 a0, .int .i64 a1], .agg #[.int .i64 b0, .int .i64 b1], .agg #[.int .i64 c0, .int .i64 c1]] w fun e' w' => e' = .returned (.bool true) ∧ Below w.heap.size w w' := by
  go_enter Try.func9, Try.ntmps9
  go_wp2_with fail
  refine (HA.out _).mono ?_
  rintro e w1 ⟨rfl, hb1⟩
  obtain ⟨x1, y1, z1⟩ := heap3 hb1
  have hz1 : w.heap.size + 1 + 1 < w1.heap.size := by have := hb1.size; simp at this; omega
  have hy1 : w.heap.size + 1 < w1.heap.size := by omega
  have hx1 : w.heap.size < w1.heap.size := by omega
  have hk1 : Below w.heap.size w w1 := base3 hb1
  have hB1 : Below w.heap.size w w1 := hk1
  clear hb1 hk1
  obtain ⟨r1_0_0, r1_0_1⟩ := cells2h x1
  obtain ⟨r1_1_0, r1_1_1⟩ := cells2h y1
  go_wp2_with fail
  refine (HB.out _).mono ?_
  rintro e w2 ⟨rfl, hb2⟩
  have x2 := heap1 hb2
  have hk2 : Below w1.heap.size w1 w2 := below1 hb2
  have hz2 : w1.heap.size < w2.heap.size := by have := hb2.size; simp at this; omega
  have g2_0 := heapKeep hk2 (by omega) x1
  have g2_1 := heapKeep hk2 (by omega) y1
  have g2_2 := heapKeep hk2 (by omega) z1
  clear x1 y1 z1 r1_0_0 r1_0_1 r1_1_0 r1_1_1
  have hz1_2 := Nat.lt_of_lt_of_le hz1 hk2.size
  have hy1_2 := Nat.lt_of_lt_of_le hy1 hk2.size
  have hx1_2 := Nat.lt_of_lt_of_le hx1 hk2.size
  clear hz1 hy1 hx1
  have hB2 : Below w.heap.size w w2 := hB1.trans (hk2.mono hB1.size)
  clear hb2 hk2 hB1
  obtain ⟨r2_0_0, r2_0_1⟩ := cells2h g2_0
  obtain ⟨r2_1_0, r2_1_1⟩ := cells2h g2_1
  obtain ⟨r2_3_0, r2_3_1⟩ := cells2h x2
  go_wp2_with fail
  refine (HC.out _).mono ?_
  rintro e w3 ⟨rfl, hb3⟩
  have x3 := heap1 hb3
  have hk3 : Below w2.heap.size w2 w3 := below1 hb3
  have hz3 : w2.heap.size < w3.heap.size := by have := hb3.size; simp at this; omega
  have g3_0 := heapKeep hk3 (by omega) g2_0
  have g3_1 := heapKeep hk3 (by omega) g2_1
  have g3_2 := heapKeep hk3 (by omega) g2_2
  have g3_3 := heapKeep hk3 (by omega) x2
  clear g2_0 g2_1 g2_2 x2 r2_0_0 r2_0_1 r2_1_0 r2_1_1 r2_3_0 r2_3_1
  have hz1_2_3 := Nat.lt_of_lt_of_le hz1_2 hk3.size
  have hy1_2_3 := Nat.lt_of_lt_of_le hy1_2 hk3.size
  have hx1_2_3 := Nat.lt_of_lt_of_le hx1_2 hk3.size
  have hz2_3 := Nat.lt_of_lt_of_le hz2 hk3.size
  clear hz1_2 hy1_2 hx1_2 hz2
  have hB3 : Below w.heap.size w w3 := hB2.trans (hk3.mono hB2.size)
  clear hb3 hk3 hB2
  obtain ⟨r3_0_0, r3_0_1⟩ := cells2h g3_0
  obtain ⟨r3_3_0, r3_3_1⟩ := cells2h g3_3
  go_wp2_with fail
  refine (HD.out _).mono ?_
  rintro e w4 ⟨rfl, hb4⟩
  have x4 := heap1 hb4
  have hk4 : Below w3.heap.size w3 w4 := below1 hb4
  have hz4 : w3.heap.size < w4.heap.size := by have := hb4.size; simp at this; omega
  have g4_0 := heapKeep hk4 (by omega) g3_0
  have g4_1 := heapKeep hk4 (by omega) g3_1
  have g4_2 := heapKeep hk4 (by omega) g3_2
  have g4_3 := heapKeep hk4 (by omega) g3_3
  have g4_4 := heapKeep hk4 (by omega) x3
  clear g3_0 g3_1 g3_2 g3_3 x3 r3_0_0 r3_0_1 r3_3_0 r3_3_1
  have hz1_2_3_4 := Nat.lt_of_lt_of_le hz1_2_3 hk4.size
  have hy1_2_3_4 := Nat.lt_of_lt_of_le hy1_2_3 hk4.size
  have hx1_2_3_4 := Nat.lt_of_lt_of_le hx1_2_3 hk4.size
  have hz2_3_4 := Nat.lt_of_lt_of_le hz2_3 hk4.size
  have hz3_4 := Nat.lt_of_lt_of_le hz3 hk4.size
  clear hz1_2_3 hy1_2_3 hx1_2_3 hz2_3 hz3
  have hB4 : Below w.heap.size w w4 := hB3.trans (hk4.mono hB3.size)
  clear hb4 hk4 hB3
  obtain ⟨r4_1_0, r4_1_1⟩ := cells2h g4_1
  obtain ⟨r4_3_0, r4_3_1⟩ := cells2h g4_3
  go_wp2_with fail
  refine (HE.out _).mono ?_
  rintro e w5 ⟨rfl, hb5⟩
  have hk5 : Below w4.heap.size w4 w5 := hb5
  have g5_0 := heapKeep hk5 (by omega) g4_0
  have g5_1 := heapKeep hk5 (by omega) g4_1
  have g5_2 := heapKeep hk5 (by omega) g4_2
  have g5_3 := heapKeep hk5 (by omega) g4_3
  have g5_4 := heapKeep hk5 (by omega) g4_4
  have g5_5 := heapKeep hk5 (by omega) x4
  clear g4_0 g4_1 g4_2 g4_3 g4_4 x4 r4_1_0 r4_1_1 r4_3_0 r4_3_1
  have hz1_2_3_4_5 := Nat.lt_of_lt_of_le hz1_2_3_4 hk5.size
  have hy1_2_3_4_5 := Nat.lt_of_lt_of_le hy1_2_3_4 hk5.size
  have hx1_2_3_4_5 := Nat.lt_of_lt_of_le hx1_2_3_4 hk5.size
  have hz2_3_4_5 := Nat.lt_of_lt_of_le hz2_3_4 hk5.size
  have hz3_4_5 := Nat.lt_of_lt_of_le hz3_4 hk5.size
  have hz4_5 := Nat.lt_of_lt_of_le hz4 hk5.size
  clear hz1_2_3_4 hy1_2_3_4 hx1_2_3_4 hz2_3_4 hz3_4 hz4
  have hB5 : Below w.heap.size w w5 := hB4.trans (hk5.mono hB4.size)
  clear hb5 hk5 hB4
  obtain ⟨r5_2_0, r5_2_1⟩ := cells2h g5_2
  obtain ⟨r5_3_0, r5_3_1⟩ := cells2h g5_3
  go_wp2_with fail
  refine (HF.out _).mono ?_
  rintro e w6 ⟨rfl, hb6⟩
  have hk6 : Below w5.heap.size w5 w6 := hb6
  have g6_0 := heapKeep hk6 (by omega) g5_0
  have g6_1 := heapKeep hk6 (by omega) g5_1
  have g6_2 := heapKeep hk6 (by omega) g5_2
  have g6_3 := heapKeep hk6 (by omega) g5_3
  have g6_4 := heapKeep hk6 (by omega) g5_4
  have g6_5 := heapKeep hk6 (by omega) g5_5
  clear g5_0 g5_1 g5_2 g5_3 g5_4 g5_5 r5_2_0 r5_2_1 r5_3_0 r5_3_1
  have hz1_2_3_4_5_6 := Nat.lt_of_lt_of_le hz1_2_3_4_5 hk6.size
  have hy1_2_3_4_5_6 := Nat.lt_of_lt_of_le hy1_2_3_4_5 hk6.size
  have hx1_2_3_4_5_6 := Nat.lt_of_lt_of_le hx1_2_3_4_5 hk6.size
  have hz2_3_4_5_6 := Nat.lt_of_lt_of_le hz2_3_4_5 hk6.size
  have hz3_4_5_6 := Nat.lt_of_lt_of_le hz3_4_5 hk6.size
  have hz4_5_6 := Nat.lt_of_lt_of_le hz4_5 hk6.size
  clear hz1_2_3_4_5 hy1_2_3_4_5 hx1_2_3_4_5 hz2_3_4_5 hz3_4_5 hz4_5
  have hB6 : Below w.heap.size w w6 := hB5.trans (hk6.mono hB5.size)
  clear hb6 hk6 hB5
  obtain ⟨r6_1_0, r6_1_1⟩ := cells2h g6_1
  obtain ⟨r6_2_0, r6_2_1⟩ := cells2h g6_2
  go_wp2_with fail
  refine (HG.out _).mono ?_
  rintro e w7 ⟨rfl, hb7⟩
  have x7 := heap1 hb7
  have hk7 : Below w6.heap.size w6 w7 := below1 hb7
  have hz7 : w6.heap.size < w7.heap.size := by have := hb7.size; simp at this; omega
  have g7_0 := heapKeep hk7 (by omega) g6_0
  have g7_1 := heapKeep hk7 (by omega) g6_1
  have g7_2 := heapKeep hk7 (by omega) g6_2
  have g7_3 := heapKeep hk7 (by omega) g6_3
  have g7_4 := heapKeep hk7 (by omega) g6_4
  have g7_5 := heapKeep hk7 (by omega) g6_5
  clear g6_0 g6_1 g6_2 g6_3 g6_4 g6_5 r6_1_0 r6_1_1 r6_2_0 r6_2_1
  have hz1_2_3_4_5_6_7 := Nat.lt_of_lt_of_le hz1_2_3_4_5_6 hk7.size
  have hy1_2_3_4_5_6_7 := Nat.lt_of_lt_of_le hy1_2_3_4_5_6 hk7.size
  have hx1_2_3_4_5_6_7 := Nat.lt_of_lt_of_le hx1_2_3_4_5_6 hk7.size
  have hz2_3_4_5_6_7 := Nat.lt_of_lt_of_le hz2_3_4_5_6 hk7.size
  have hz3_4_5_6_7 := Nat.lt_of_lt_of_le hz3_4_5_6 hk7.size
  have hz4_5_6_7 := Nat.lt_of_lt_of_le hz4_5_6 hk7.size
  clear hz1_2_3_4_5_6 hy1_2_3_4_5_6 hx1_2_3_4_5_6 hz2_3_4_5_6 hz3_4_5_6 hz4_5_6
  have hB7 : Below w.heap.size w w7 := hB6.trans (hk7.mono hB6.size)
  clear hb7 hk7 hB6
  obtain ⟨r7_0_0, r7_0_1⟩ := cells2h g7_0
  go_wp2_with fail
  refine (HH.out _).mono ?_
  rintro e w8 ⟨rfl, hb8⟩
  have x8 := heap1 hb8
  have hk8 : Below w7.heap.size w7 w8 := below1 hb8
  have hz8 : w7.heap.size < w8.heap.size := by have := hb8.size; simp at this; omega
  have g8_0 := heapKeep hk8 (by omega) g7_0
  have g8_1 := heapKeep hk8 (by omega) g7_1
  have g8_2 := heapKeep hk8 (by omega) g7_2
  have g8_3 := heapKeep hk8 (by omega) g7_3
  have g8_4 := heapKeep hk8 (by omega) g7_4
  have g8_5 := heapKeep hk8 (by omega) g7_5
  have g8_6 := heapKeep hk8 (by omega) x7
  clear g7_0 g7_1 g7_2 g7_3 g7_4 g7_5 x7 r7_0_0 r7_0_1
  have hz1_2_3_4_5_6_7_8 := Nat.lt_of_lt_of_le hz1_2_3_4_5_6_7 hk8.size
  have hy1_2_3_4_5_6_7_8 := Nat.lt_of_lt_of_le hy1_2_3_4_5_6_7 hk8.size
  have hx1_2_3_4_5_6_7_8 := Nat.lt_of_lt_of_le hx1_2_3_4_5_6_7 hk8.size
  have hz2_3_4_5_6_7_8 := Nat.lt_of_lt_of_le hz2_3_4_5_6_7 hk8.size
  have hz3_4_5_6_7_8 := Nat.lt_of_lt_of_le hz3_4_5_6_7 hk8.size
  have hz4_5_6_7_8 := Nat.lt_of_lt_of_le hz4_5_6_7 hk8.size
  have hz7_8 := Nat.lt_of_lt_of_le hz7 hk8.size
  clear hz1_2_3_4_5_6_7 hy1_2_3_4_5_6_7 hx1_2_3_4_5_6_7 hz2_3_4_5_6_7 hz3_4_5_6_7 hz4_5_6_7 hz7
  have hB8 : Below w.heap.size w w8 := hB7.trans (hk8.mono hB7.size)
  clear hb8 hk8 hB7
  obtain ⟨r8_0_0, r8_0_1⟩ := cells2h g8_0
  obtain ⟨r8_6_0, r8_6_1⟩ := cells2h g8_6
  go_wp2_with fail
  refine (HI.out _).mono ?_
  rintro e w9 ⟨rfl, hb9⟩
  have x9 := heap1 hb9
  have hk9 : Below w8.heap.size w8 w9 := below1 hb9
  have hz9 : w8.heap.size < w9.heap.size := by have := hb9.size; simp at this; omega
  have g9_0 := heapKeep hk9 (by omega) g8_0
  have g9_1 := heapKeep hk9 (by omega) g8_1
  have g9_2 := heapKeep hk9 (by omega) g8_2
  have g9_3 := heapKeep hk9 (by omega) g8_3
  have g9_4 := heapKeep hk9 (by omega) g8_4
  have g9_5 := heapKeep hk9 (by omega) g8_5
  have g9_6 := heapKeep hk9 (by omega) g8_6
  have g9_7 := heapKeep hk9 (by omega) x8
  clear g8_0 g8_1 g8_2 g8_3 g8_4 g8_5 g8_6 x8 r8_0_0 r8_0_1 r8_6_0 r8_6_1
  have hz1_2_3_4_5_6_7_8_9 := Nat.lt_of_lt_of_le hz1_2_3_4_5_6_7_8 hk9.size
  have hy1_2_3_4_5_6_7_8_9 := Nat.lt_of_lt_of_le hy1_2_3_4_5_6_7_8 hk9.size
  have hx1_2_3_4_5_6_7_8_9 := Nat.lt_of_lt_of_le hx1_2_3_4_5_6_7_8 hk9.size
  have hz2_3_4_5_6_7_8_9 := Nat.lt_of_lt_of_le hz2_3_4_5_6_7_8 hk9.size
  have hz3_4_5_6_7_8_9 := Nat.lt_of_lt_of_le hz3_4_5_6_7_8 hk9.size
  have hz4_5_6_7_8_9 := Nat.lt_of_lt_of_le hz4_5_6_7_8 hk9.size
  have hz7_8_9 := Nat.lt_of_lt_of_le hz7_8 hk9.size
  have hz8_9 := Nat.lt_of_lt_of_le hz8 hk9.size
  clear hz1_2_3_4_5_6_7_8 hy1_2_3_4_5_6_7_8 hx1_2_3_4_5_6_7_8 hz2_3_4_5_6_7_8 hz3_4_5_6_7_8 hz4_5_6_7_8 hz7_8 hz8
  have hB9 : Below w.heap.size w w9 := hB8.trans (hk9.mono hB8.size)
  clear hb9 hk9 hB8
  go_wp2_with fail
  refine (HJ.out _).mono ?_
  rintro e w10 ⟨rfl, hb10⟩
  have x10 := heap1 hb10
  have hk10 : Below w9.heap.size w9 w10 := below1 hb10
  have hz10 : w9.heap.size < w10.heap.size := by have := hb10.size; simp at this; omega
  have g10_0 := heapKeep hk10 (by omega) g9_0
  have g10_1 := heapKeep hk10 (by omega) g9_1
  have g10_2 := heapKeep hk10 (by omega) g9_2
  have g10_3 := heapKeep hk10 (by omega) g9_3
  have g10_4 := heapKeep hk10 (by omega) g9_4
  have g10_5 := heapKeep hk10 (by omega) g9_5
  have g10_6 := heapKeep hk10 (by omega) g9_6
  have g10_7 := heapKeep hk10 (by omega) g9_7
  have g10_8 := heapKeep hk10 (by omega) x9
  clear g9_0 g9_1 g9_2 g9_3 g9_4 g9_5 g9_6 g9_7 x9
  have hz1_2_3_4_5_6_7_8_9_10 := Nat.lt_of_lt_of_le hz1_2_3_4_5_6_7_8_9 hk10.size
  have hy1_2_3_4_5_6_7_8_9_10 := Nat.lt_of_lt_of_le hy1_2_3_4_5_6_7_8_9 hk10.size
  have hx1_2_3_4_5_6_7_8_9_10 := Nat.lt_of_lt_of_le hx1_2_3_4_5_6_7_8_9 hk10.size
  have hz2_3_4_5_6_7_8_9_10 := Nat.lt_of_lt_of_le hz2_3_4_5_6_7_8_9 hk10.size
  have hz3_4_5_6_7_8_9_10 := Nat.lt_of_lt_of_le hz3_4_5_6_7_8_9 hk10.size
  have hz4_5_6_7_8_9_10 := Nat.lt_of_lt_of_le hz4_5_6_7_8_9 hk10.size
  have hz7_8_9_10 := Nat.lt_of_lt_of_le hz7_8_9 hk10.size
  have hz8_9_10 := Nat.lt_of_lt_of_le hz8_9 hk10.size
  have hz9_10 := Nat.lt_of_lt_of_le hz9 hk10.size
  clear hz1_2_3_4_5_6_7_8_9 hy1_2_3_4_5_6_7_8_9 hx1_2_3_4_5_6_7_8_9 hz2_3_4_5_6_7_8_9 hz3_4_5_6_7_8_9 hz4_5_6_7_8_9 hz7_8_9 hz8_9 hz9
  have hB10 : Below w.heap.size w w10 := hB9.trans (hk10.mono hB9.size)
  clear hb10 hk10 hB9
  obtain ⟨r10_0_0, r10_0_1⟩ := cells2h g10_0
  obtain ⟨r10_1_0, r10_1_1⟩ := cells2h g10_1
  go_wp2_with fail
  refine (HK.out _).mono ?_
  rintro e w11 ⟨rfl, hb11⟩
  have x11 := heap1 hb11
  have hk11 : Below w10.heap.size w10 w11 := below1 hb11
  have hz11 : w10.heap.size < w11.heap.size := by have := hb11.size; simp at this; omega
  have g11_0 := heapKeep hk11 (by omega) g10_0
  have g11_1 := heapKeep hk11 (by omega) g10_1
  have g11_2 := heapKeep hk11 (by omega) g10_2
  have g11_3 := heapKeep hk11 (by omega) g10_3
  have g11_4 := heapKeep hk11 (by omega) g10_4
  have g11_5 := heapKeep hk11 (by omega) g10_5
  have g11_6 := heapKeep hk11 (by omega) g10_6
  have g11_7 := heapKeep hk11 (by omega) g10_7
  have g11_8 := heapKeep hk11 (by omega) g10_8
  have g11_9 := heapKeep hk11 (by omega) x10
  clear g10_0 g10_1 g10_2 g10_3 g10_4 g10_5 g10_6 g10_7 g10_8 x10 r10_0_0 r10_0_1 r10_1_0 r10_1_1
  have hz1_2_3_4_5_6_7_8_9_10_11 := Nat.lt_of_lt_of_le hz1_2_3_4_5_6_7_8_9_10 hk11.size
  have hy1_2_3_4_5_6_7_8_9_10_11 := Nat.lt_of_lt_of_le hy1_2_3_4_5_6_7_8_9_10 hk11.size
  have hx1_2_3_4_5_6_7_8_9_10_11 := Nat.lt_of_lt_of_le hx1_2_3_4_5_6_7_8_9_10 hk11.size
  have hz2_3_4_5_6_7_8_9_10_11 := Nat.lt_of_lt_of_le hz2_3_4_5_6_7_8_9_10 hk11.size
  have hz3_4_5_6_7_8_9_10_11 := Nat.lt_of_lt_of_le hz3_4_5_6_7_8_9_10 hk11.size
  have hz4_5_6_7_8_9_10_11 := Nat.lt_of_lt_of_le hz4_5_6_7_8_9_10 hk11.size
  have hz7_8_9_10_11 := Nat.lt_of_lt_of_le hz7_8_9_10 hk11.size
  have hz8_9_10_11 := Nat.lt_of_lt_of_le hz8_9_10 hk11.size
  have hz9_10_11 := Nat.lt_of_lt_of_le hz9_10 hk11.size
  have hz10_11 := Nat.lt_of_lt_of_le hz10 hk11.size
  clear hz1_2_3_4_5_6_7_8_9_10 hy1_2_3_4_5_6_7_8_9_10 hx1_2_3_4_5_6_7_8_9_10 hz2_3_4_5_6_7_8_9_10 hz3_4_5_6_7_8_9_10 hz4_5_6_7_8_9_10 hz7_8_9_10 hz8_9_10 hz9_10 hz10
  have hB11 : Below w.heap.size w w11 := hB10.trans (hk11.mono hB10.size)
  clear hb11 hk11 hB10
  obtain ⟨r11_0_0, r11_0_1⟩ := cells2h g11_0
  obtain ⟨r11_1_0, r11_1_1⟩ := cells2h g11_1
  go_wp2_with fail
  refine (HN.out _).mono ?_
  rintro e w12 ⟨rfl, hb12⟩
  have hk12 : Below w11.heap.size w11 w12 := hb12
  have g12_0 := heapKeep hk12 (by omega) g11_0
  have g12_1 := heapKeep hk12 (by omega) g11_1
  have g12_2 := heapKeep hk12 (by omega) g11_2
  have g12_3 := heapKeep hk12 (by omega) g11_3
  have g12_4 := heapKeep hk12 (by omega) g11_4
  have g12_5 := heapKeep hk12 (by omega) g11_5
  have g12_6 := heapKeep hk12 (by omega) g11_6
  have g12_7 := heapKeep hk12 (by omega) g11_7
  have g12_8 := heapKeep hk12 (by omega) g11_8
  have g12_9 := heapKeep hk12 (by omega) g11_9
  have g12_10 := heapKeep hk12 (by omega) x11
  clear g11_0 g11_1 g11_2 g11_3 g11_4 g11_5 g11_6 g11_7 g11_8 g11_9 x11 r11_0_0 r11_0_1 r11_1_0 r11_1_1
  have hz1_2_3_4_5_6_7_8_9_10_11_12 := Nat.lt_of_lt_of_le hz1_2_3_4_5_6_7_8_9_10_11 hk12.size
  have hy1_2_3_4_5_6_7_8_9_10_11_12 := Nat.lt_of_lt_of_le hy1_2_3_4_5_6_7_8_9_10_11 hk12.size
  have hx1_2_3_4_5_6_7_8_9_10_11_12 := Nat.lt_of_lt_of_le hx1_2_3_4_5_6_7_8_9_10_11 hk12.size
  have hz2_3_4_5_6_7_8_9_10_11_12 := Nat.lt_of_lt_of_le hz2_3_4_5_6_7_8_9_10_11 hk12.size
  have hz3_4_5_6_7_8_9_10_11_12 := Nat.lt_of_lt_of_le hz3_4_5_6_7_8_9_10_11 hk12.size
  have hz4_5_6_7_8_9_10_11_12 := Nat.lt_of_lt_of_le hz4_5_6_7_8_9_10_11 hk12.size
  have hz7_8_9_10_11_12 := Nat.lt_of_lt_of_le hz7_8_9_10_11 hk12.size
  have hz8_9_10_11_12 := Nat.lt_of_lt_of_le hz8_9_10_11 hk12.size
  have hz9_10_11_12 := Nat.lt_of_lt_of_le hz9_10_11 hk12.size
  have hz10_11_12 := Nat.lt_of_lt_of_le hz10_11 hk12.size
  have hz11_12 := Nat.lt_of_lt_of_le hz11 hk12.size
  clear hz1_2_3_4_5_6_7_8_9_10_11 hy1_2_3_4_5_6_7_8_9_10_11 hx1_2_3_4_5_6_7_8_9_10_11 hz2_3_4_5_6_7_8_9_10_11 hz3_4_5_6_7_8_9_10_11 hz4_5_6_7_8_9_10_11 hz7_8_9_10_11 hz8_9_10_11 hz9_10_11 hz10_11 hz11
  have hB12 : Below w.heap.size w w12 := hB11.trans (hk12.mono hB11.size)
  clear hb12 hk12 hB11
  obtain ⟨r12_0_0, r12_0_1⟩ := cells2h g12_0
  obtain ⟨r12_1_0, r12_1_1⟩ := cells2h g12_1
  go_wp2_with fail
  refine (HK.out _).mono ?_
  rintro e w13 ⟨rfl, hb13⟩
  have x13 := heap1 hb13
  have hk13 : Below w12.heap.size w12 w13 := below1 hb13
  have hz13 : w12.heap.size < w13.heap.size := by have := hb13.size; simp at this; omega
  have g13_0 := heapKeep hk13 (by omega) g12_0
  have g13_1 := heapKeep hk13 (by omega) g12_1
  have g13_2 := heapKeep hk13 (by omega) g12_2
  have g13_3 := heapKeep hk13 (by omega) g12_3
  have g13_4 := heapKeep hk13 (by omega) g12_4
  have g13_5 := heapKeep hk13 (by omega) g12_5
  have g13_6 := heapKeep hk13 (by omega) g12_6
  have g13_7 := heapKeep hk13 (by omega) g12_7
  have g13_8 := heapKeep hk13 (by omega) g12_8
  have g13_9 := heapKeep hk13 (by omega) g12_9
  have g13_10 := heapKeep hk13 (by omega) g12_10
  clear g12_0 g12_1 g12_2 g12_3 g12_4 g12_5 g12_6 g12_7 g12_8 g12_9 g12_10 r12_0_0 r12_0_1 r12_1_0 r12_1_1
  have hz1_2_3_4_5_6_7_8_9_10_11_12_13 := Nat.lt_of_lt_of_le hz1_2_3_4_5_6_7_8_9_10_11_12 hk13.size
  have hy1_2_3_4_5_6_7_8_9_10_11_12_13 := Nat.lt_of_lt_of_le hy1_2_3_4_5_6_7_8_9_10_11_12 hk13.size
  have hx1_2_3_4_5_6_7_8_9_10_11_12_13 := Nat.lt_of_lt_of_le hx1_2_3_4_5_6_7_8_9_10_11_12 hk13.size
  have hz2_3_4_5_6_7_8_9_10_11_12_13 := Nat.lt_of_lt_of_le hz2_3_4_5_6_7_8_9_10_11_12 hk13.size
  have hz3_4_5_6_7_8_9_10_11_12_13 := Nat.lt_of_lt_of_le hz3_4_5_6_7_8_9_10_11_12 hk13.size
  have hz4_5_6_7_8_9_10_11_12_13 := Nat.lt_of_lt_of_le hz4_5_6_7_8_9_10_11_12 hk13.size
  have hz7_8_9_10_11_12_13 := Nat.lt_of_lt_of_le hz7_8_9_10_11_12 hk13.size
  have hz8_9_10_11_12_13 := Nat.lt_of_lt_of_le hz8_9_10_11_12 hk13.size
  have hz9_10_11_12_13 := Nat.lt_of_lt_of_le hz9_10_11_12 hk13.size
  have hz10_11_12_13 := Nat.lt_of_lt_of_le hz10_11_12 hk13.size
  have hz11_12_13 := Nat.lt_of_lt_of_le hz11_12 hk13.size
  clear hz1_2_3_4_5_6_7_8_9_10_11_12 hy1_2_3_4_5_6_7_8_9_10_11_12 hx1_2_3_4_5_6_7_8_9_10_11_12 hz2_3_4_5_6_7_8_9_10_11_12 hz3_4_5_6_7_8_9_10_11_12 hz4_5_6_7_8_9_10_11_12 hz7_8_9_10_11_12 hz8_9_10_11_12 hz9_10_11_12 hz10_11_12 hz11_12
  have hB13 : Below w.heap.size w w13 := hB12.trans (hk13.mono hB12.size)
  clear hb13 hk13 hB12
  go_wp2_with fail
  refine (live1_any _).mono ?_
  rintro e w14 ⟨rfl, hb14⟩
  have hk14 : Below w13.heap.size w13 w14 := hb14
  have g14_0 := heapKeep hk14 (by omega) g13_0
  have g14_1 := heapKeep hk14 (by omega) g13_1
  have g14_2 := heapKeep hk14 (by omega) g13_2
  have g14_3 := heapKeep hk14 (by omega) g13_3
  have g14_4 := heapKeep hk14 (by omega) g13_4
  have g14_5 := heapKeep hk14 (by omega) g13_5
  have g14_6 := heapKeep hk14 (by omega) g13_6
  have g14_7 := heapKeep hk14 (by omega) g13_7
  have g14_8 := heapKeep hk14 (by omega) g13_8
  have g14_9 := heapKeep hk14 (by omega) g13_9
  have g14_10 := heapKeep hk14 (by omega) g13_10
  have g14_11 := heapKeep hk14 (by omega) x13
  clear g13_0 g13_1 g13_2 g13_3 g13_4 g13_5 g13_6 g13_7 g13_8 g13_9 g13_10 x13
  have hz1_2_3_4_5_6_7_8_9_10_11_12_13_14 := Nat.lt_of_lt_of_le hz1_2_3_4_5_6_7_8_9_10_11_12_13 hk14.size
  have hy1_2_3_4_5_6_7_8_9_10_11_12_13_14 := Nat.lt_of_lt_of_le hy1_2_3_4_5_6_7_8_9_10_11_12_13 hk14.size
  have hx1_2_3_4_5_6_7_8_9_10_11_12_13_14 := Nat.lt_of_lt_of_le hx1_2_3_4_5_6_7_8_9_10_11_12_13 hk14.size
  have hz2_3_4_5_6_7_8_9_10_11_12_13_14 := Nat.lt_of_lt_of_le hz2_3_4_5_6_7_8_9_10_11_12_13 hk14.size
  have hz3_4_5_6_7_8_9_10_11_12_13_14 := Nat.lt_of_lt_of_le hz3_4_5_6_7_8_9_10_11_12_13 hk14.size
  have hz4_5_6_7_8_9_10_11_12_13_14 := Nat.lt_of_lt_of_le hz4_5_6_7_8_9_10_11_12_13 hk14.size
  have hz7_8_9_10_11_12_13_14 := Nat.lt_of_lt_of_le hz7_8_9_10_11_12_13 hk14.size
  have hz8_9_10_11_12_13_14 := Nat.lt_of_lt_of_le hz8_9_10_11_12_13 hk14.size
  have hz9_10_11_12_13_14 := Nat.lt_of_lt_of_le hz9_10_11_12_13 hk14.size
  have hz10_11_12_13_14 := Nat.lt_of_lt_of_le hz10_11_12_13 hk14.size
  have hz11_12_13_14 := Nat.lt_of_lt_of_le hz11_12_13 hk14.size
  have hz13_14 := Nat.lt_of_lt_of_le hz13 hk14.size
  clear hz1_2_3_4_5_6_7_8_9_10_11_12_13 hy1_2_3_4_5_6_7_8_9_10_11_12_13 hx1_2_3_4_5_6_7_8_9_10_11_12_13 hz2_3_4_5_6_7_8_9_10_11_12_13 hz3_4_5_6_7_8_9_10_11_12_13 hz4_5_6_7_8_9_10_11_12_13 hz7_8_9_10_11_12_13 hz8_9_10_11_12_13 hz9_10_11_12_13 hz10_11_12_13 hz11_12_13 hz13
  have hB14 : Below w.heap.size w w14 := hB13.trans (hk14.mono hB13.size)
  clear hb14 hk14 hB13
  obtain ⟨r14_0_0, r14_0_1⟩ := cells2h g14_0
  go_wp2_with fail
  refine (HP.out _).mono ?_
  rintro e w15 ⟨rfl, hb15⟩
  have hk15 : Below w14.heap.size w14 w15 := hb15
  have g15_0 := heapKeep hk15 (by omega) g14_0
  have g15_1 := heapKeep hk15 (by omega) g14_1
  have g15_2 := heapKeep hk15 (by omega) g14_2
  have g15_3 := heapKeep hk15 (by omega) g14_3
  have g15_4 := heapKeep hk15 (by omega) g14_4
  have g15_5 := heapKeep hk15 (by omega) g14_5
  have g15_6 := heapKeep hk15 (by omega) g14_6
  have g15_7 := heapKeep hk15 (by omega) g14_7
  have g15_8 := heapKeep hk15 (by omega) g14_8
  have g15_9 := heapKeep hk15 (by omega) g14_9
  have g15_10 := heapKeep hk15 (by omega) g14_10
  have g15_11 := heapKeep hk15 (by omega) g14_11
  clear g14_0 g14_1 g14_2 g14_3 g14_4 g14_5 g14_6 g14_7 g14_8 g14_9 g14_10 g14_11 r14_0_0 r14_0_1
  have hz1_2_3_4_5_6_7_8_9_10_11_12_13_14_15 := Nat.lt_of_lt_of_le hz1_2_3_4_5_6_7_8_9_10_11_12_13_14 hk15.size
  have hy1_2_3_4_5_6_7_8_9_10_11_12_13_14_15 := Nat.lt_of_lt_of_le hy1_2_3_4_5_6_7_8_9_10_11_12_13_14 hk15.size
  have hx1_2_3_4_5_6_7_8_9_10_11_12_13_14_15 := Nat.lt_of_lt_of_le hx1_2_3_4_5_6_7_8_9_10_11_12_13_14 hk15.size
  have hz2_3_4_5_6_7_8_9_10_11_12_13_14_15 := Nat.lt_of_lt_of_le hz2_3_4_5_6_7_8_9_10_11_12_13_14 hk15.size
  have hz3_4_5_6_7_8_9_10_11_12_13_14_15 := Nat.lt_of_lt_of_le hz3_4_5_6_7_8_9_10_11_12_13_14 hk15.size
  have hz4_5_6_7_8_9_10_11_12_13_14_15 := Nat.lt_of_lt_of_le hz4_5_6_7_8_9_10_11_12_13_14 hk15.size
  have hz7_8_9_10_11_12_13_14_15 := Nat.lt_of_lt_of_le hz7_8_9_10_11_12_13_14 hk15.size
  have hz8_9_10_11_12_13_14_15 := Nat.lt_of_lt_of_le hz8_9_10_11_12_13_14 hk15.size
  have hz9_10_11_12_13_14_15 := Nat.lt_of_lt_of_le hz9_10_11_12_13_14 hk15.size
  have hz10_11_12_13_14_15 := Nat.lt_of_lt_of_le hz10_11_12_13_14 hk15.size
  have hz11_12_13_14_15 := Nat.lt_of_lt_of_le hz11_12_13_14 hk15.size
  have hz13_14_15 := Nat.lt_of_lt_of_le hz13_14 hk15.size
  clear hz1_2_3_4_5_6_7_8_9_10_11_12_13_14 hy1_2_3_4_5_6_7_8_9_10_11_12_13_14 hx1_2_3_4_5_6_7_8_9_10_11_12_13_14 hz2_3_4_5_6_7_8_9_10_11_12_13_14 hz3_4_5_6_7_8_9_10_11_12_13_14 hz4_5_6_7_8_9_10_11_12_13_14 hz7_8_9_10_11_12_13_14 hz8_9_10_11_12_13_14 hz9_10_11_12_13_14 hz10_11_12_13_14 hz11_12_13_14 hz13_14
  have hB15 : Below w.heap.size w w15 := hB14.trans (hk15.mono hB14.size)
  clear hb15 hk15 hB14
  go_wp2_with fail
  go_ret
  exact ⟨rfl, hB15⟩

set_option maxRecDepth 100000 in
set_option maxHeartbeats 4000000 in
theorem back_TTT1 (a0 a1 b0 b1 c0 c1 s0 s1 e t0 t1 f x0 x1 y g2 q0 q1 h2 p0 p1 p2 p3 p4 p5 p6 p7 p8 p9 p10 p11 p12 p13 d0 d1 g u0 u1 h v0 v1 i w0 w1 k : Int) (HA : Hid (∀ w, Calls Try.prog 21 #[.agg #[.int .i64 a0, .int .i64 a1], .agg #[.int .i64 b0, .int .i64 b1]] w fun e' w' => e' = .returned (.tuple #[.agg #[.int .i64 s0, .int .i64 s1], .int .i64 e]) ∧ Below w.heap.size w w')) (HB : Hid (∀ w, Calls Try.prog 21 #[.agg #[.int .i64 b0, .int .i64 b1], .agg #[.int .i64 a0, .int .i64 a1]] w fun e' w' => e' = .returned (.tuple #[.agg #[.int .i64 t0, .int .i64 t1], .int .i64 f]) ∧ Below w.heap.size w w')) (k1 : (s0 == t0) = true) (k2 : (s1 == t1) = true) (k3 : (e == 0) = true) (k4 : (f == 0) = true) (HC : Hid (∀ w, Calls Try.prog 23 #[.agg #[.int .i64 s0, .int .i64 s1], .agg #[.int .i64 b0, .int .i64 b1]] w fun e' w' => e' = .returned (.tuple #[.agg #[.int .i64 d0, .int .i64 d1], .int .i64 g]) ∧ Below w.heap.size w w')) (k5 : (g != 0) = false) (k6 : (d0 == a0) = true) (k7 : (d1 == a1) = true) (HD : Hid (∀ w, Calls Try.prog 20 #[.agg #[.int .i64 a0, .int .i64 a1], .agg #[.int .i64 s0, .int .i64 s1]] w fun e' w' => e' = .returned (.bool true) ∧ Below w.heap.size w w')) (HE : Hid (∀ w, Calls Try.prog 20 #[.agg #[.int .i64 b0, .int .i64 b1], .agg #[.int .i64 s0, .int .i64 s1]] w fun e' w' => e' = .returned (.bool true) ∧ Below w.heap.size w w')) (HF : Hid (∀ w, Calls Try.prog 21 #[.agg #[.int .i64 s0, .int .i64 s1], .agg #[.int .i64 c0, .int .i64 c1]] w fun e' w' => e' = .returned (.tuple #[.agg #[.int .i64 u0, .int .i64 u1], .int .i64 h]) ∧ Below w.heap.size w w')) (HG : Hid (∀ w, Calls Try.prog 21 #[.agg #[.int .i64 b0, .int .i64 b1], .agg #[.int .i64 c0, .int .i64 c1]] w fun e' w' => e' = .returned (.tuple #[.agg #[.int .i64 v0, .int .i64 v1], .int .i64 i]) ∧ Below w.heap.size w w')) (k8 : (i == 0) = true) (HH : Hid (∀ w, Calls Try.prog 21 #[.agg #[.int .i64 a0, .int .i64 a1], .agg #[.int .i64 v0, .int .i64 v1]] w fun e' w' => e' = .returned (.tuple #[.agg #[.int .i64 w0, .int .i64 w1], .int .i64 k]) ∧ Below w.heap.size w w')) (k9 : (k == 0) = (h == 0)) (k10 : (w0 == u0) = true) (k11 : (w1 == u1) = true) (HI : Hid (∀ w, Calls Try.prog 29 #[.agg #[.int .i64 a0, .int .i64 a1]] w fun e' w' => e' = .returned (.tuple #[.agg #[.int .u8 p0, .int .u8 p1, .int .u8 p2, .int .u8 p3, .int .u8 p4, .int .u8 p5, .int .u8 p6, .int .u8 p7, .int .u8 p8, .int .u8 p9, .int .u8 p10, .int .u8 p11, .int .u8 p12, .int .u8 p13], .int .i64 g2]) ∧ Below w.heap.size w w')) (HJ : Hid (∀ w, Calls Try.prog 31 #[.agg #[.int .u8 p0, .int .u8 p1, .int .u8 p2, .int .u8 p3, .int .u8 p4, .int .u8 p5, .int .u8 p6, .int .u8 p7, .int .u8 p8, .int .u8 p9, .int .u8 p10, .int .u8 p11, .int .u8 p12, .int .u8 p13]] w fun e' w' => e' = .returned (.tuple #[.agg #[.int .i64 q0, .int .i64 q1], .int .i64 h2]) ∧ Below w.heap.size w w')) (k12 : (g2 != 0) = false) (k13 : (g2 == 0) = true) (k14 : (h2 == 0) = true) (k15 : (q0 == a0) = true) (k16 : (q1 == a1) = true) (HK : Hid (∀ w, Calls Try.prog 20 #[.agg #[.int .i64 a0, .int .i64 a1], .agg #[.int .i64 b0, .int .i64 b1]] w fun e' w' => e' = .returned (.bool true) ∧ Below w.heap.size w w')) (HL : Hid (∀ w, Calls Try.prog 20 #[.agg #[.int .i64 b0, .int .i64 b1], .agg #[.int .i64 c0, .int .i64 c1]] w fun e' w' => e' = .returned (.bool false) ∧ Below w.heap.size w w')) (HN : Hid (∀ w, Calls Try.prog 23 #[.agg #[.int .i64 b0, .int .i64 b1], .agg #[.int .i64 a0, .int .i64 a1]] w fun e' w' => e' = .returned (.tuple #[.agg #[.int .i64 x0, .int .i64 x1], .int .i64 y]) ∧ Below w.heap.size w w')) (k17 : (y == 0) = true) (k18 : (y != 0) = false) (HO : Hid (∀ w, Calls Try.prog 20 #[.agg #[.int .i64 x0, .int .i64 x1], .agg #[.int .i64 b0, .int .i64 b1]] w fun e' w' => e' = .returned (.bool true) ∧ Below w.heap.size w w')) (HP : Hid (∀ w, Calls Try.prog 20 #[.agg #[.int .i64 a0, .int .i64 a1], .agg #[.int .i64 a0, .int .i64 a1]] w fun e' w' => e' = .returned (.bool true) ∧ Below w.heap.size w w')) (w : World) : Calls Try.prog 9 #[.agg #[.int .i64 a0, .int .i64 a1], .agg #[.int .i64 b0, .int .i64 b1], .agg #[.int .i64 c0, .int .i64 c1]] w fun e' w' => e' = .returned (.bool true) ∧ Below w.heap.size w w' := by
  go_enter Try.func9, Try.ntmps9
  go_wp2_with fail
  refine (HA.out _).mono ?_
  rintro e w1 ⟨rfl, hb1⟩
  obtain ⟨x1, y1, z1⟩ := heap3 hb1
  have hz1 : w.heap.size + 1 + 1 < w1.heap.size := by have := hb1.size; simp at this; omega
  have hy1 : w.heap.size + 1 < w1.heap.size := by omega
  have hx1 : w.heap.size < w1.heap.size := by omega
  have hk1 : Below w.heap.size w w1 := base3 hb1
  have hB1 : Below w.heap.size w w1 := hk1
  clear hb1 hk1
  obtain ⟨r1_0_0, r1_0_1⟩ := cells2h x1
  obtain ⟨r1_1_0, r1_1_1⟩ := cells2h y1
  go_wp2_with fail
  refine (HB.out _).mono ?_
  rintro e w2 ⟨rfl, hb2⟩
  have x2 := heap1 hb2
  have hk2 : Below w1.heap.size w1 w2 := below1 hb2
  have hz2 : w1.heap.size < w2.heap.size := by have := hb2.size; simp at this; omega
  have g2_0 := heapKeep hk2 (by omega) x1
  have g2_1 := heapKeep hk2 (by omega) y1
  have g2_2 := heapKeep hk2 (by omega) z1
  clear x1 y1 z1 r1_0_0 r1_0_1 r1_1_0 r1_1_1
  have hz1_2 := Nat.lt_of_lt_of_le hz1 hk2.size
  have hy1_2 := Nat.lt_of_lt_of_le hy1 hk2.size
  have hx1_2 := Nat.lt_of_lt_of_le hx1 hk2.size
  clear hz1 hy1 hx1
  have hB2 : Below w.heap.size w w2 := hB1.trans (hk2.mono hB1.size)
  clear hb2 hk2 hB1
  obtain ⟨r2_0_0, r2_0_1⟩ := cells2h g2_0
  obtain ⟨r2_1_0, r2_1_1⟩ := cells2h g2_1
  obtain ⟨r2_3_0, r2_3_1⟩ := cells2h x2
  go_wp2_with fail
  refine (HC.out _).mono ?_
  rintro e w3 ⟨rfl, hb3⟩
  have x3 := heap1 hb3
  have hk3 : Below w2.heap.size w2 w3 := below1 hb3
  have hz3 : w2.heap.size < w3.heap.size := by have := hb3.size; simp at this; omega
  have g3_0 := heapKeep hk3 (by omega) g2_0
  have g3_1 := heapKeep hk3 (by omega) g2_1
  have g3_2 := heapKeep hk3 (by omega) g2_2
  have g3_3 := heapKeep hk3 (by omega) x2
  clear g2_0 g2_1 g2_2 x2 r2_0_0 r2_0_1 r2_1_0 r2_1_1 r2_3_0 r2_3_1
  have hz1_2_3 := Nat.lt_of_lt_of_le hz1_2 hk3.size
  have hy1_2_3 := Nat.lt_of_lt_of_le hy1_2 hk3.size
  have hx1_2_3 := Nat.lt_of_lt_of_le hx1_2 hk3.size
  have hz2_3 := Nat.lt_of_lt_of_le hz2 hk3.size
  clear hz1_2 hy1_2 hx1_2 hz2
  have hB3 : Below w.heap.size w w3 := hB2.trans (hk3.mono hB2.size)
  clear hb3 hk3 hB2
  obtain ⟨r3_0_0, r3_0_1⟩ := cells2h g3_0
  obtain ⟨r3_3_0, r3_3_1⟩ := cells2h g3_3
  go_wp2_with fail
  refine (HD.out _).mono ?_
  rintro e w4 ⟨rfl, hb4⟩
  have x4 := heap1 hb4
  have hk4 : Below w3.heap.size w3 w4 := below1 hb4
  have hz4 : w3.heap.size < w4.heap.size := by have := hb4.size; simp at this; omega
  have g4_0 := heapKeep hk4 (by omega) g3_0
  have g4_1 := heapKeep hk4 (by omega) g3_1
  have g4_2 := heapKeep hk4 (by omega) g3_2
  have g4_3 := heapKeep hk4 (by omega) g3_3
  have g4_4 := heapKeep hk4 (by omega) x3
  clear g3_0 g3_1 g3_2 g3_3 x3 r3_0_0 r3_0_1 r3_3_0 r3_3_1
  have hz1_2_3_4 := Nat.lt_of_lt_of_le hz1_2_3 hk4.size
  have hy1_2_3_4 := Nat.lt_of_lt_of_le hy1_2_3 hk4.size
  have hx1_2_3_4 := Nat.lt_of_lt_of_le hx1_2_3 hk4.size
  have hz2_3_4 := Nat.lt_of_lt_of_le hz2_3 hk4.size
  have hz3_4 := Nat.lt_of_lt_of_le hz3 hk4.size
  clear hz1_2_3 hy1_2_3 hx1_2_3 hz2_3 hz3
  have hB4 : Below w.heap.size w w4 := hB3.trans (hk4.mono hB3.size)
  clear hb4 hk4 hB3
  obtain ⟨r4_1_0, r4_1_1⟩ := cells2h g4_1
  obtain ⟨r4_3_0, r4_3_1⟩ := cells2h g4_3
  go_wp2_with fail
  refine (HE.out _).mono ?_
  rintro e w5 ⟨rfl, hb5⟩
  have hk5 : Below w4.heap.size w4 w5 := hb5
  have g5_0 := heapKeep hk5 (by omega) g4_0
  have g5_1 := heapKeep hk5 (by omega) g4_1
  have g5_2 := heapKeep hk5 (by omega) g4_2
  have g5_3 := heapKeep hk5 (by omega) g4_3
  have g5_4 := heapKeep hk5 (by omega) g4_4
  have g5_5 := heapKeep hk5 (by omega) x4
  clear g4_0 g4_1 g4_2 g4_3 g4_4 x4 r4_1_0 r4_1_1 r4_3_0 r4_3_1
  have hz1_2_3_4_5 := Nat.lt_of_lt_of_le hz1_2_3_4 hk5.size
  have hy1_2_3_4_5 := Nat.lt_of_lt_of_le hy1_2_3_4 hk5.size
  have hx1_2_3_4_5 := Nat.lt_of_lt_of_le hx1_2_3_4 hk5.size
  have hz2_3_4_5 := Nat.lt_of_lt_of_le hz2_3_4 hk5.size
  have hz3_4_5 := Nat.lt_of_lt_of_le hz3_4 hk5.size
  have hz4_5 := Nat.lt_of_lt_of_le hz4 hk5.size
  clear hz1_2_3_4 hy1_2_3_4 hx1_2_3_4 hz2_3_4 hz3_4 hz4
  have hB5 : Below w.heap.size w w5 := hB4.trans (hk5.mono hB4.size)
  clear hb5 hk5 hB4
  obtain ⟨r5_2_0, r5_2_1⟩ := cells2h g5_2
  obtain ⟨r5_3_0, r5_3_1⟩ := cells2h g5_3
  go_wp2_with fail
  refine (HF.out _).mono ?_
  rintro e w6 ⟨rfl, hb6⟩
  have hk6 : Below w5.heap.size w5 w6 := hb6
  have g6_0 := heapKeep hk6 (by omega) g5_0
  have g6_1 := heapKeep hk6 (by omega) g5_1
  have g6_2 := heapKeep hk6 (by omega) g5_2
  have g6_3 := heapKeep hk6 (by omega) g5_3
  have g6_4 := heapKeep hk6 (by omega) g5_4
  have g6_5 := heapKeep hk6 (by omega) g5_5
  clear g5_0 g5_1 g5_2 g5_3 g5_4 g5_5 r5_2_0 r5_2_1 r5_3_0 r5_3_1
  have hz1_2_3_4_5_6 := Nat.lt_of_lt_of_le hz1_2_3_4_5 hk6.size
  have hy1_2_3_4_5_6 := Nat.lt_of_lt_of_le hy1_2_3_4_5 hk6.size
  have hx1_2_3_4_5_6 := Nat.lt_of_lt_of_le hx1_2_3_4_5 hk6.size
  have hz2_3_4_5_6 := Nat.lt_of_lt_of_le hz2_3_4_5 hk6.size
  have hz3_4_5_6 := Nat.lt_of_lt_of_le hz3_4_5 hk6.size
  have hz4_5_6 := Nat.lt_of_lt_of_le hz4_5 hk6.size
  clear hz1_2_3_4_5 hy1_2_3_4_5 hx1_2_3_4_5 hz2_3_4_5 hz3_4_5 hz4_5
  have hB6 : Below w.heap.size w w6 := hB5.trans (hk6.mono hB5.size)
  clear hb6 hk6 hB5
  obtain ⟨r6_1_0, r6_1_1⟩ := cells2h g6_1
  obtain ⟨r6_2_0, r6_2_1⟩ := cells2h g6_2
  go_wp2_with fail
  refine (HG.out _).mono ?_
  rintro e w7 ⟨rfl, hb7⟩
  have x7 := heap1 hb7
  have hk7 : Below w6.heap.size w6 w7 := below1 hb7
  have hz7 : w6.heap.size < w7.heap.size := by have := hb7.size; simp at this; omega
  have g7_0 := heapKeep hk7 (by omega) g6_0
  have g7_1 := heapKeep hk7 (by omega) g6_1
  have g7_2 := heapKeep hk7 (by omega) g6_2
  have g7_3 := heapKeep hk7 (by omega) g6_3
  have g7_4 := heapKeep hk7 (by omega) g6_4
  have g7_5 := heapKeep hk7 (by omega) g6_5
  clear g6_0 g6_1 g6_2 g6_3 g6_4 g6_5 r6_1_0 r6_1_1 r6_2_0 r6_2_1
  have hz1_2_3_4_5_6_7 := Nat.lt_of_lt_of_le hz1_2_3_4_5_6 hk7.size
  have hy1_2_3_4_5_6_7 := Nat.lt_of_lt_of_le hy1_2_3_4_5_6 hk7.size
  have hx1_2_3_4_5_6_7 := Nat.lt_of_lt_of_le hx1_2_3_4_5_6 hk7.size
  have hz2_3_4_5_6_7 := Nat.lt_of_lt_of_le hz2_3_4_5_6 hk7.size
  have hz3_4_5_6_7 := Nat.lt_of_lt_of_le hz3_4_5_6 hk7.size
  have hz4_5_6_7 := Nat.lt_of_lt_of_le hz4_5_6 hk7.size
  clear hz1_2_3_4_5_6 hy1_2_3_4_5_6 hx1_2_3_4_5_6 hz2_3_4_5_6 hz3_4_5_6 hz4_5_6
  have hB7 : Below w.heap.size w w7 := hB6.trans (hk7.mono hB6.size)
  clear hb7 hk7 hB6
  obtain ⟨r7_0_0, r7_0_1⟩ := cells2h g7_0
  go_wp2_with fail
  refine (HH.out _).mono ?_
  rintro e w8 ⟨rfl, hb8⟩
  have x8 := heap1 hb8
  have hk8 : Below w7.heap.size w7 w8 := below1 hb8
  have hz8 : w7.heap.size < w8.heap.size := by have := hb8.size; simp at this; omega
  have g8_0 := heapKeep hk8 (by omega) g7_0
  have g8_1 := heapKeep hk8 (by omega) g7_1
  have g8_2 := heapKeep hk8 (by omega) g7_2
  have g8_3 := heapKeep hk8 (by omega) g7_3
  have g8_4 := heapKeep hk8 (by omega) g7_4
  have g8_5 := heapKeep hk8 (by omega) g7_5
  have g8_6 := heapKeep hk8 (by omega) x7
  clear g7_0 g7_1 g7_2 g7_3 g7_4 g7_5 x7 r7_0_0 r7_0_1
  have hz1_2_3_4_5_6_7_8 := Nat.lt_of_lt_of_le hz1_2_3_4_5_6_7 hk8.size
  have hy1_2_3_4_5_6_7_8 := Nat.lt_of_lt_of_le hy1_2_3_4_5_6_7 hk8.size
  have hx1_2_3_4_5_6_7_8 := Nat.lt_of_lt_of_le hx1_2_3_4_5_6_7 hk8.size
  have hz2_3_4_5_6_7_8 := Nat.lt_of_lt_of_le hz2_3_4_5_6_7 hk8.size
  have hz3_4_5_6_7_8 := Nat.lt_of_lt_of_le hz3_4_5_6_7 hk8.size
  have hz4_5_6_7_8 := Nat.lt_of_lt_of_le hz4_5_6_7 hk8.size
  have hz7_8 := Nat.lt_of_lt_of_le hz7 hk8.size
  clear hz1_2_3_4_5_6_7 hy1_2_3_4_5_6_7 hx1_2_3_4_5_6_7 hz2_3_4_5_6_7 hz3_4_5_6_7 hz4_5_6_7 hz7
  have hB8 : Below w.heap.size w w8 := hB7.trans (hk8.mono hB7.size)
  clear hb8 hk8 hB7
  obtain ⟨r8_0_0, r8_0_1⟩ := cells2h g8_0
  obtain ⟨r8_6_0, r8_6_1⟩ := cells2h g8_6
  go_wp2_with fail
  refine (HI.out _).mono ?_
  rintro e w9 ⟨rfl, hb9⟩
  have x9 := heap1 hb9
  have hk9 : Below w8.heap.size w8 w9 := below1 hb9
  have hz9 : w8.heap.size < w9.heap.size := by have := hb9.size; simp at this; omega
  have g9_0 := heapKeep hk9 (by omega) g8_0
  have g9_1 := heapKeep hk9 (by omega) g8_1
  have g9_2 := heapKeep hk9 (by omega) g8_2
  have g9_3 := heapKeep hk9 (by omega) g8_3
  have g9_4 := heapKeep hk9 (by omega) g8_4
  have g9_5 := heapKeep hk9 (by omega) g8_5
  have g9_6 := heapKeep hk9 (by omega) g8_6
  have g9_7 := heapKeep hk9 (by omega) x8
  clear g8_0 g8_1 g8_2 g8_3 g8_4 g8_5 g8_6 x8 r8_0_0 r8_0_1 r8_6_0 r8_6_1
  have hz1_2_3_4_5_6_7_8_9 := Nat.lt_of_lt_of_le hz1_2_3_4_5_6_7_8 hk9.size
  have hy1_2_3_4_5_6_7_8_9 := Nat.lt_of_lt_of_le hy1_2_3_4_5_6_7_8 hk9.size
  have hx1_2_3_4_5_6_7_8_9 := Nat.lt_of_lt_of_le hx1_2_3_4_5_6_7_8 hk9.size
  have hz2_3_4_5_6_7_8_9 := Nat.lt_of_lt_of_le hz2_3_4_5_6_7_8 hk9.size
  have hz3_4_5_6_7_8_9 := Nat.lt_of_lt_of_le hz3_4_5_6_7_8 hk9.size
  have hz4_5_6_7_8_9 := Nat.lt_of_lt_of_le hz4_5_6_7_8 hk9.size
  have hz7_8_9 := Nat.lt_of_lt_of_le hz7_8 hk9.size
  have hz8_9 := Nat.lt_of_lt_of_le hz8 hk9.size
  clear hz1_2_3_4_5_6_7_8 hy1_2_3_4_5_6_7_8 hx1_2_3_4_5_6_7_8 hz2_3_4_5_6_7_8 hz3_4_5_6_7_8 hz4_5_6_7_8 hz7_8 hz8
  have hB9 : Below w.heap.size w w9 := hB8.trans (hk9.mono hB8.size)
  clear hb9 hk9 hB8
  go_wp2_with fail
  refine (HJ.out _).mono ?_
  rintro e w10 ⟨rfl, hb10⟩
  have x10 := heap1 hb10
  have hk10 : Below w9.heap.size w9 w10 := below1 hb10
  have hz10 : w9.heap.size < w10.heap.size := by have := hb10.size; simp at this; omega
  have g10_0 := heapKeep hk10 (by omega) g9_0
  have g10_1 := heapKeep hk10 (by omega) g9_1
  have g10_2 := heapKeep hk10 (by omega) g9_2
  have g10_3 := heapKeep hk10 (by omega) g9_3
  have g10_4 := heapKeep hk10 (by omega) g9_4
  have g10_5 := heapKeep hk10 (by omega) g9_5
  have g10_6 := heapKeep hk10 (by omega) g9_6
  have g10_7 := heapKeep hk10 (by omega) g9_7
  have g10_8 := heapKeep hk10 (by omega) x9
  clear g9_0 g9_1 g9_2 g9_3 g9_4 g9_5 g9_6 g9_7 x9
  have hz1_2_3_4_5_6_7_8_9_10 := Nat.lt_of_lt_of_le hz1_2_3_4_5_6_7_8_9 hk10.size
  have hy1_2_3_4_5_6_7_8_9_10 := Nat.lt_of_lt_of_le hy1_2_3_4_5_6_7_8_9 hk10.size
  have hx1_2_3_4_5_6_7_8_9_10 := Nat.lt_of_lt_of_le hx1_2_3_4_5_6_7_8_9 hk10.size
  have hz2_3_4_5_6_7_8_9_10 := Nat.lt_of_lt_of_le hz2_3_4_5_6_7_8_9 hk10.size
  have hz3_4_5_6_7_8_9_10 := Nat.lt_of_lt_of_le hz3_4_5_6_7_8_9 hk10.size
  have hz4_5_6_7_8_9_10 := Nat.lt_of_lt_of_le hz4_5_6_7_8_9 hk10.size
  have hz7_8_9_10 := Nat.lt_of_lt_of_le hz7_8_9 hk10.size
  have hz8_9_10 := Nat.lt_of_lt_of_le hz8_9 hk10.size
  have hz9_10 := Nat.lt_of_lt_of_le hz9 hk10.size
  clear hz1_2_3_4_5_6_7_8_9 hy1_2_3_4_5_6_7_8_9 hx1_2_3_4_5_6_7_8_9 hz2_3_4_5_6_7_8_9 hz3_4_5_6_7_8_9 hz4_5_6_7_8_9 hz7_8_9 hz8_9 hz9
  have hB10 : Below w.heap.size w w10 := hB9.trans (hk10.mono hB9.size)
  clear hb10 hk10 hB9
  obtain ⟨r10_0_0, r10_0_1⟩ := cells2h g10_0
  obtain ⟨r10_1_0, r10_1_1⟩ := cells2h g10_1
  go_wp2_with fail
  refine (HK.out _).mono ?_
  rintro e w11 ⟨rfl, hb11⟩
  have x11 := heap1 hb11
  have hk11 : Below w10.heap.size w10 w11 := below1 hb11
  have hz11 : w10.heap.size < w11.heap.size := by have := hb11.size; simp at this; omega
  have g11_0 := heapKeep hk11 (by omega) g10_0
  have g11_1 := heapKeep hk11 (by omega) g10_1
  have g11_2 := heapKeep hk11 (by omega) g10_2
  have g11_3 := heapKeep hk11 (by omega) g10_3
  have g11_4 := heapKeep hk11 (by omega) g10_4
  have g11_5 := heapKeep hk11 (by omega) g10_5
  have g11_6 := heapKeep hk11 (by omega) g10_6
  have g11_7 := heapKeep hk11 (by omega) g10_7
  have g11_8 := heapKeep hk11 (by omega) g10_8
  have g11_9 := heapKeep hk11 (by omega) x10
  clear g10_0 g10_1 g10_2 g10_3 g10_4 g10_5 g10_6 g10_7 g10_8 x10 r10_0_0 r10_0_1 r10_1_0 r10_1_1
  have hz1_2_3_4_5_6_7_8_9_10_11 := Nat.lt_of_lt_of_le hz1_2_3_4_5_6_7_8_9_10 hk11.size
  have hy1_2_3_4_5_6_7_8_9_10_11 := Nat.lt_of_lt_of_le hy1_2_3_4_5_6_7_8_9_10 hk11.size
  have hx1_2_3_4_5_6_7_8_9_10_11 := Nat.lt_of_lt_of_le hx1_2_3_4_5_6_7_8_9_10 hk11.size
  have hz2_3_4_5_6_7_8_9_10_11 := Nat.lt_of_lt_of_le hz2_3_4_5_6_7_8_9_10 hk11.size
  have hz3_4_5_6_7_8_9_10_11 := Nat.lt_of_lt_of_le hz3_4_5_6_7_8_9_10 hk11.size
  have hz4_5_6_7_8_9_10_11 := Nat.lt_of_lt_of_le hz4_5_6_7_8_9_10 hk11.size
  have hz7_8_9_10_11 := Nat.lt_of_lt_of_le hz7_8_9_10 hk11.size
  have hz8_9_10_11 := Nat.lt_of_lt_of_le hz8_9_10 hk11.size
  have hz9_10_11 := Nat.lt_of_lt_of_le hz9_10 hk11.size
  have hz10_11 := Nat.lt_of_lt_of_le hz10 hk11.size
  clear hz1_2_3_4_5_6_7_8_9_10 hy1_2_3_4_5_6_7_8_9_10 hx1_2_3_4_5_6_7_8_9_10 hz2_3_4_5_6_7_8_9_10 hz3_4_5_6_7_8_9_10 hz4_5_6_7_8_9_10 hz7_8_9_10 hz8_9_10 hz9_10 hz10
  have hB11 : Below w.heap.size w w11 := hB10.trans (hk11.mono hB10.size)
  clear hb11 hk11 hB10
  obtain ⟨r11_1_0, r11_1_1⟩ := cells2h g11_1
  obtain ⟨r11_2_0, r11_2_1⟩ := cells2h g11_2
  go_wp2_with fail
  refine (HL.out _).mono ?_
  rintro e w12 ⟨rfl, hb12⟩
  have hk12 : Below w11.heap.size w11 w12 := hb12
  have g12_0 := heapKeep hk12 (by omega) g11_0
  have g12_1 := heapKeep hk12 (by omega) g11_1
  have g12_2 := heapKeep hk12 (by omega) g11_2
  have g12_3 := heapKeep hk12 (by omega) g11_3
  have g12_4 := heapKeep hk12 (by omega) g11_4
  have g12_5 := heapKeep hk12 (by omega) g11_5
  have g12_6 := heapKeep hk12 (by omega) g11_6
  have g12_7 := heapKeep hk12 (by omega) g11_7
  have g12_8 := heapKeep hk12 (by omega) g11_8
  have g12_9 := heapKeep hk12 (by omega) g11_9
  have g12_10 := heapKeep hk12 (by omega) x11
  clear g11_0 g11_1 g11_2 g11_3 g11_4 g11_5 g11_6 g11_7 g11_8 g11_9 x11 r11_1_0 r11_1_1 r11_2_0 r11_2_1
  have hz1_2_3_4_5_6_7_8_9_10_11_12 := Nat.lt_of_lt_of_le hz1_2_3_4_5_6_7_8_9_10_11 hk12.size
  have hy1_2_3_4_5_6_7_8_9_10_11_12 := Nat.lt_of_lt_of_le hy1_2_3_4_5_6_7_8_9_10_11 hk12.size
  have hx1_2_3_4_5_6_7_8_9_10_11_12 := Nat.lt_of_lt_of_le hx1_2_3_4_5_6_7_8_9_10_11 hk12.size
  have hz2_3_4_5_6_7_8_9_10_11_12 := Nat.lt_of_lt_of_le hz2_3_4_5_6_7_8_9_10_11 hk12.size
  have hz3_4_5_6_7_8_9_10_11_12 := Nat.lt_of_lt_of_le hz3_4_5_6_7_8_9_10_11 hk12.size
  have hz4_5_6_7_8_9_10_11_12 := Nat.lt_of_lt_of_le hz4_5_6_7_8_9_10_11 hk12.size
  have hz7_8_9_10_11_12 := Nat.lt_of_lt_of_le hz7_8_9_10_11 hk12.size
  have hz8_9_10_11_12 := Nat.lt_of_lt_of_le hz8_9_10_11 hk12.size
  have hz9_10_11_12 := Nat.lt_of_lt_of_le hz9_10_11 hk12.size
  have hz10_11_12 := Nat.lt_of_lt_of_le hz10_11 hk12.size
  have hz11_12 := Nat.lt_of_lt_of_le hz11 hk12.size
  clear hz1_2_3_4_5_6_7_8_9_10_11 hy1_2_3_4_5_6_7_8_9_10_11 hx1_2_3_4_5_6_7_8_9_10_11 hz2_3_4_5_6_7_8_9_10_11 hz3_4_5_6_7_8_9_10_11 hz4_5_6_7_8_9_10_11 hz7_8_9_10_11 hz8_9_10_11 hz9_10_11 hz10_11 hz11
  have hB12 : Below w.heap.size w w12 := hB11.trans (hk12.mono hB11.size)
  clear hb12 hk12 hB11
  obtain ⟨r12_0_0, r12_0_1⟩ := cells2h g12_0
  obtain ⟨r12_1_0, r12_1_1⟩ := cells2h g12_1
  go_wp2_with fail
  refine (HN.out _).mono ?_
  rintro e w13 ⟨rfl, hb13⟩
  have hk13 : Below w12.heap.size w12 w13 := hb13
  have g13_0 := heapKeep hk13 (by omega) g12_0
  have g13_1 := heapKeep hk13 (by omega) g12_1
  have g13_2 := heapKeep hk13 (by omega) g12_2
  have g13_3 := heapKeep hk13 (by omega) g12_3
  have g13_4 := heapKeep hk13 (by omega) g12_4
  have g13_5 := heapKeep hk13 (by omega) g12_5
  have g13_6 := heapKeep hk13 (by omega) g12_6
  have g13_7 := heapKeep hk13 (by omega) g12_7
  have g13_8 := heapKeep hk13 (by omega) g12_8
  have g13_9 := heapKeep hk13 (by omega) g12_9
  have g13_10 := heapKeep hk13 (by omega) g12_10
  clear g12_0 g12_1 g12_2 g12_3 g12_4 g12_5 g12_6 g12_7 g12_8 g12_9 g12_10 r12_0_0 r12_0_1 r12_1_0 r12_1_1
  have hz1_2_3_4_5_6_7_8_9_10_11_12_13 := Nat.lt_of_lt_of_le hz1_2_3_4_5_6_7_8_9_10_11_12 hk13.size
  have hy1_2_3_4_5_6_7_8_9_10_11_12_13 := Nat.lt_of_lt_of_le hy1_2_3_4_5_6_7_8_9_10_11_12 hk13.size
  have hx1_2_3_4_5_6_7_8_9_10_11_12_13 := Nat.lt_of_lt_of_le hx1_2_3_4_5_6_7_8_9_10_11_12 hk13.size
  have hz2_3_4_5_6_7_8_9_10_11_12_13 := Nat.lt_of_lt_of_le hz2_3_4_5_6_7_8_9_10_11_12 hk13.size
  have hz3_4_5_6_7_8_9_10_11_12_13 := Nat.lt_of_lt_of_le hz3_4_5_6_7_8_9_10_11_12 hk13.size
  have hz4_5_6_7_8_9_10_11_12_13 := Nat.lt_of_lt_of_le hz4_5_6_7_8_9_10_11_12 hk13.size
  have hz7_8_9_10_11_12_13 := Nat.lt_of_lt_of_le hz7_8_9_10_11_12 hk13.size
  have hz8_9_10_11_12_13 := Nat.lt_of_lt_of_le hz8_9_10_11_12 hk13.size
  have hz9_10_11_12_13 := Nat.lt_of_lt_of_le hz9_10_11_12 hk13.size
  have hz10_11_12_13 := Nat.lt_of_lt_of_le hz10_11_12 hk13.size
  have hz11_12_13 := Nat.lt_of_lt_of_le hz11_12 hk13.size
  clear hz1_2_3_4_5_6_7_8_9_10_11_12 hy1_2_3_4_5_6_7_8_9_10_11_12 hx1_2_3_4_5_6_7_8_9_10_11_12 hz2_3_4_5_6_7_8_9_10_11_12 hz3_4_5_6_7_8_9_10_11_12 hz4_5_6_7_8_9_10_11_12 hz7_8_9_10_11_12 hz8_9_10_11_12 hz9_10_11_12 hz10_11_12 hz11_12
  have hB13 : Below w.heap.size w w13 := hB12.trans (hk13.mono hB12.size)
  clear hb13 hk13 hB12
  obtain ⟨r13_0_0, r13_0_1⟩ := cells2h g13_0
  obtain ⟨r13_1_0, r13_1_1⟩ := cells2h g13_1
  go_wp2_with fail
  refine (HK.out _).mono ?_
  rintro e w14 ⟨rfl, hb14⟩
  have x14 := heap1 hb14
  have hk14 : Below w13.heap.size w13 w14 := below1 hb14
  have hz14 : w13.heap.size < w14.heap.size := by have := hb14.size; simp at this; omega
  have g14_0 := heapKeep hk14 (by omega) g13_0
  have g14_1 := heapKeep hk14 (by omega) g13_1
  have g14_2 := heapKeep hk14 (by omega) g13_2
  have g14_3 := heapKeep hk14 (by omega) g13_3
  have g14_4 := heapKeep hk14 (by omega) g13_4
  have g14_5 := heapKeep hk14 (by omega) g13_5
  have g14_6 := heapKeep hk14 (by omega) g13_6
  have g14_7 := heapKeep hk14 (by omega) g13_7
  have g14_8 := heapKeep hk14 (by omega) g13_8
  have g14_9 := heapKeep hk14 (by omega) g13_9
  have g14_10 := heapKeep hk14 (by omega) g13_10
  clear g13_0 g13_1 g13_2 g13_3 g13_4 g13_5 g13_6 g13_7 g13_8 g13_9 g13_10 r13_0_0 r13_0_1 r13_1_0 r13_1_1
  have hz1_2_3_4_5_6_7_8_9_10_11_12_13_14 := Nat.lt_of_lt_of_le hz1_2_3_4_5_6_7_8_9_10_11_12_13 hk14.size
  have hy1_2_3_4_5_6_7_8_9_10_11_12_13_14 := Nat.lt_of_lt_of_le hy1_2_3_4_5_6_7_8_9_10_11_12_13 hk14.size
  have hx1_2_3_4_5_6_7_8_9_10_11_12_13_14 := Nat.lt_of_lt_of_le hx1_2_3_4_5_6_7_8_9_10_11_12_13 hk14.size
  have hz2_3_4_5_6_7_8_9_10_11_12_13_14 := Nat.lt_of_lt_of_le hz2_3_4_5_6_7_8_9_10_11_12_13 hk14.size
  have hz3_4_5_6_7_8_9_10_11_12_13_14 := Nat.lt_of_lt_of_le hz3_4_5_6_7_8_9_10_11_12_13 hk14.size
  have hz4_5_6_7_8_9_10_11_12_13_14 := Nat.lt_of_lt_of_le hz4_5_6_7_8_9_10_11_12_13 hk14.size
  have hz7_8_9_10_11_12_13_14 := Nat.lt_of_lt_of_le hz7_8_9_10_11_12_13 hk14.size
  have hz8_9_10_11_12_13_14 := Nat.lt_of_lt_of_le hz8_9_10_11_12_13 hk14.size
  have hz9_10_11_12_13_14 := Nat.lt_of_lt_of_le hz9_10_11_12_13 hk14.size
  have hz10_11_12_13_14 := Nat.lt_of_lt_of_le hz10_11_12_13 hk14.size
  have hz11_12_13_14 := Nat.lt_of_lt_of_le hz11_12_13 hk14.size
  clear hz1_2_3_4_5_6_7_8_9_10_11_12_13 hy1_2_3_4_5_6_7_8_9_10_11_12_13 hx1_2_3_4_5_6_7_8_9_10_11_12_13 hz2_3_4_5_6_7_8_9_10_11_12_13 hz3_4_5_6_7_8_9_10_11_12_13 hz4_5_6_7_8_9_10_11_12_13 hz7_8_9_10_11_12_13 hz8_9_10_11_12_13 hz9_10_11_12_13 hz10_11_12_13 hz11_12_13
  have hB14 : Below w.heap.size w w14 := hB13.trans (hk14.mono hB13.size)
  clear hb14 hk14 hB13
  obtain ⟨r14_1_0, r14_1_1⟩ := cells2h g14_1
  obtain ⟨r14_11_0, r14_11_1⟩ := cells2h x14
  go_wp2_with fail
  refine (HO.out _).mono ?_
  rintro e w15 ⟨rfl, hb15⟩
  have hk15 : Below w14.heap.size w14 w15 := hb15
  have g15_0 := heapKeep hk15 (by omega) g14_0
  have g15_1 := heapKeep hk15 (by omega) g14_1
  have g15_2 := heapKeep hk15 (by omega) g14_2
  have g15_3 := heapKeep hk15 (by omega) g14_3
  have g15_4 := heapKeep hk15 (by omega) g14_4
  have g15_5 := heapKeep hk15 (by omega) g14_5
  have g15_6 := heapKeep hk15 (by omega) g14_6
  have g15_7 := heapKeep hk15 (by omega) g14_7
  have g15_8 := heapKeep hk15 (by omega) g14_8
  have g15_9 := heapKeep hk15 (by omega) g14_9
  have g15_10 := heapKeep hk15 (by omega) g14_10
  have g15_11 := heapKeep hk15 (by omega) x14
  clear g14_0 g14_1 g14_2 g14_3 g14_4 g14_5 g14_6 g14_7 g14_8 g14_9 g14_10 x14 r14_1_0 r14_1_1 r14_11_0 r14_11_1
  have hz1_2_3_4_5_6_7_8_9_10_11_12_13_14_15 := Nat.lt_of_lt_of_le hz1_2_3_4_5_6_7_8_9_10_11_12_13_14 hk15.size
  have hy1_2_3_4_5_6_7_8_9_10_11_12_13_14_15 := Nat.lt_of_lt_of_le hy1_2_3_4_5_6_7_8_9_10_11_12_13_14 hk15.size
  have hx1_2_3_4_5_6_7_8_9_10_11_12_13_14_15 := Nat.lt_of_lt_of_le hx1_2_3_4_5_6_7_8_9_10_11_12_13_14 hk15.size
  have hz2_3_4_5_6_7_8_9_10_11_12_13_14_15 := Nat.lt_of_lt_of_le hz2_3_4_5_6_7_8_9_10_11_12_13_14 hk15.size
  have hz3_4_5_6_7_8_9_10_11_12_13_14_15 := Nat.lt_of_lt_of_le hz3_4_5_6_7_8_9_10_11_12_13_14 hk15.size
  have hz4_5_6_7_8_9_10_11_12_13_14_15 := Nat.lt_of_lt_of_le hz4_5_6_7_8_9_10_11_12_13_14 hk15.size
  have hz7_8_9_10_11_12_13_14_15 := Nat.lt_of_lt_of_le hz7_8_9_10_11_12_13_14 hk15.size
  have hz8_9_10_11_12_13_14_15 := Nat.lt_of_lt_of_le hz8_9_10_11_12_13_14 hk15.size
  have hz9_10_11_12_13_14_15 := Nat.lt_of_lt_of_le hz9_10_11_12_13_14 hk15.size
  have hz10_11_12_13_14_15 := Nat.lt_of_lt_of_le hz10_11_12_13_14 hk15.size
  have hz11_12_13_14_15 := Nat.lt_of_lt_of_le hz11_12_13_14 hk15.size
  have hz14_15 := Nat.lt_of_lt_of_le hz14 hk15.size
  clear hz1_2_3_4_5_6_7_8_9_10_11_12_13_14 hy1_2_3_4_5_6_7_8_9_10_11_12_13_14 hx1_2_3_4_5_6_7_8_9_10_11_12_13_14 hz2_3_4_5_6_7_8_9_10_11_12_13_14 hz3_4_5_6_7_8_9_10_11_12_13_14 hz4_5_6_7_8_9_10_11_12_13_14 hz7_8_9_10_11_12_13_14 hz8_9_10_11_12_13_14 hz9_10_11_12_13_14 hz10_11_12_13_14 hz11_12_13_14 hz14
  have hB15 : Below w.heap.size w w15 := hB14.trans (hk15.mono hB14.size)
  clear hb15 hk15 hB14
  go_wp2_with fail
  refine (live1_any _).mono ?_
  rintro e w16 ⟨rfl, hb16⟩
  have hk16 : Below w15.heap.size w15 w16 := hb16
  have g16_0 := heapKeep hk16 (by omega) g15_0
  have g16_1 := heapKeep hk16 (by omega) g15_1
  have g16_2 := heapKeep hk16 (by omega) g15_2
  have g16_3 := heapKeep hk16 (by omega) g15_3
  have g16_4 := heapKeep hk16 (by omega) g15_4
  have g16_5 := heapKeep hk16 (by omega) g15_5
  have g16_6 := heapKeep hk16 (by omega) g15_6
  have g16_7 := heapKeep hk16 (by omega) g15_7
  have g16_8 := heapKeep hk16 (by omega) g15_8
  have g16_9 := heapKeep hk16 (by omega) g15_9
  have g16_10 := heapKeep hk16 (by omega) g15_10
  have g16_11 := heapKeep hk16 (by omega) g15_11
  clear g15_0 g15_1 g15_2 g15_3 g15_4 g15_5 g15_6 g15_7 g15_8 g15_9 g15_10 g15_11
  have hz1_2_3_4_5_6_7_8_9_10_11_12_13_14_15_16 := Nat.lt_of_lt_of_le hz1_2_3_4_5_6_7_8_9_10_11_12_13_14_15 hk16.size
  have hy1_2_3_4_5_6_7_8_9_10_11_12_13_14_15_16 := Nat.lt_of_lt_of_le hy1_2_3_4_5_6_7_8_9_10_11_12_13_14_15 hk16.size
  have hx1_2_3_4_5_6_7_8_9_10_11_12_13_14_15_16 := Nat.lt_of_lt_of_le hx1_2_3_4_5_6_7_8_9_10_11_12_13_14_15 hk16.size
  have hz2_3_4_5_6_7_8_9_10_11_12_13_14_15_16 := Nat.lt_of_lt_of_le hz2_3_4_5_6_7_8_9_10_11_12_13_14_15 hk16.size
  have hz3_4_5_6_7_8_9_10_11_12_13_14_15_16 := Nat.lt_of_lt_of_le hz3_4_5_6_7_8_9_10_11_12_13_14_15 hk16.size
  have hz4_5_6_7_8_9_10_11_12_13_14_15_16 := Nat.lt_of_lt_of_le hz4_5_6_7_8_9_10_11_12_13_14_15 hk16.size
  have hz7_8_9_10_11_12_13_14_15_16 := Nat.lt_of_lt_of_le hz7_8_9_10_11_12_13_14_15 hk16.size
  have hz8_9_10_11_12_13_14_15_16 := Nat.lt_of_lt_of_le hz8_9_10_11_12_13_14_15 hk16.size
  have hz9_10_11_12_13_14_15_16 := Nat.lt_of_lt_of_le hz9_10_11_12_13_14_15 hk16.size
  have hz10_11_12_13_14_15_16 := Nat.lt_of_lt_of_le hz10_11_12_13_14_15 hk16.size
  have hz11_12_13_14_15_16 := Nat.lt_of_lt_of_le hz11_12_13_14_15 hk16.size
  have hz14_15_16 := Nat.lt_of_lt_of_le hz14_15 hk16.size
  clear hz1_2_3_4_5_6_7_8_9_10_11_12_13_14_15 hy1_2_3_4_5_6_7_8_9_10_11_12_13_14_15 hx1_2_3_4_5_6_7_8_9_10_11_12_13_14_15 hz2_3_4_5_6_7_8_9_10_11_12_13_14_15 hz3_4_5_6_7_8_9_10_11_12_13_14_15 hz4_5_6_7_8_9_10_11_12_13_14_15 hz7_8_9_10_11_12_13_14_15 hz8_9_10_11_12_13_14_15 hz9_10_11_12_13_14_15 hz10_11_12_13_14_15 hz11_12_13_14_15 hz14_15
  have hB16 : Below w.heap.size w w16 := hB15.trans (hk16.mono hB15.size)
  clear hb16 hk16 hB15
  obtain ⟨r16_0_0, r16_0_1⟩ := cells2h g16_0
  go_wp2_with fail
  refine (HP.out _).mono ?_
  rintro e w17 ⟨rfl, hb17⟩
  have hk17 : Below w16.heap.size w16 w17 := hb17
  have g17_0 := heapKeep hk17 (by omega) g16_0
  have g17_1 := heapKeep hk17 (by omega) g16_1
  have g17_2 := heapKeep hk17 (by omega) g16_2
  have g17_3 := heapKeep hk17 (by omega) g16_3
  have g17_4 := heapKeep hk17 (by omega) g16_4
  have g17_5 := heapKeep hk17 (by omega) g16_5
  have g17_6 := heapKeep hk17 (by omega) g16_6
  have g17_7 := heapKeep hk17 (by omega) g16_7
  have g17_8 := heapKeep hk17 (by omega) g16_8
  have g17_9 := heapKeep hk17 (by omega) g16_9
  have g17_10 := heapKeep hk17 (by omega) g16_10
  have g17_11 := heapKeep hk17 (by omega) g16_11
  clear g16_0 g16_1 g16_2 g16_3 g16_4 g16_5 g16_6 g16_7 g16_8 g16_9 g16_10 g16_11 r16_0_0 r16_0_1
  have hz1_2_3_4_5_6_7_8_9_10_11_12_13_14_15_16_17 := Nat.lt_of_lt_of_le hz1_2_3_4_5_6_7_8_9_10_11_12_13_14_15_16 hk17.size
  have hy1_2_3_4_5_6_7_8_9_10_11_12_13_14_15_16_17 := Nat.lt_of_lt_of_le hy1_2_3_4_5_6_7_8_9_10_11_12_13_14_15_16 hk17.size
  have hx1_2_3_4_5_6_7_8_9_10_11_12_13_14_15_16_17 := Nat.lt_of_lt_of_le hx1_2_3_4_5_6_7_8_9_10_11_12_13_14_15_16 hk17.size
  have hz2_3_4_5_6_7_8_9_10_11_12_13_14_15_16_17 := Nat.lt_of_lt_of_le hz2_3_4_5_6_7_8_9_10_11_12_13_14_15_16 hk17.size
  have hz3_4_5_6_7_8_9_10_11_12_13_14_15_16_17 := Nat.lt_of_lt_of_le hz3_4_5_6_7_8_9_10_11_12_13_14_15_16 hk17.size
  have hz4_5_6_7_8_9_10_11_12_13_14_15_16_17 := Nat.lt_of_lt_of_le hz4_5_6_7_8_9_10_11_12_13_14_15_16 hk17.size
  have hz7_8_9_10_11_12_13_14_15_16_17 := Nat.lt_of_lt_of_le hz7_8_9_10_11_12_13_14_15_16 hk17.size
  have hz8_9_10_11_12_13_14_15_16_17 := Nat.lt_of_lt_of_le hz8_9_10_11_12_13_14_15_16 hk17.size
  have hz9_10_11_12_13_14_15_16_17 := Nat.lt_of_lt_of_le hz9_10_11_12_13_14_15_16 hk17.size
  have hz10_11_12_13_14_15_16_17 := Nat.lt_of_lt_of_le hz10_11_12_13_14_15_16 hk17.size
  have hz11_12_13_14_15_16_17 := Nat.lt_of_lt_of_le hz11_12_13_14_15_16 hk17.size
  have hz14_15_16_17 := Nat.lt_of_lt_of_le hz14_15_16 hk17.size
  clear hz1_2_3_4_5_6_7_8_9_10_11_12_13_14_15_16 hy1_2_3_4_5_6_7_8_9_10_11_12_13_14_15_16 hx1_2_3_4_5_6_7_8_9_10_11_12_13_14_15_16 hz2_3_4_5_6_7_8_9_10_11_12_13_14_15_16 hz3_4_5_6_7_8_9_10_11_12_13_14_15_16 hz4_5_6_7_8_9_10_11_12_13_14_15_16 hz7_8_9_10_11_12_13_14_15_16 hz8_9_10_11_12_13_14_15_16 hz9_10_11_12_13_14_15_16 hz10_11_12_13_14_15_16 hz11_12_13_14_15_16 hz14_15_16
  have hB17 : Below w.heap.size w w17 := hB16.trans (hk17.mono hB16.size)
  clear hb17 hk17 hB16
  go_wp2_with fail
  go_ret
  exact ⟨rfl, hB17⟩

set_option maxRecDepth 100000 in
set_option maxHeartbeats 4000000 in
theorem back_TTT2 (a0 a1 b0 b1 c0 c1 s0 s1 e t0 t1 f x0 x1 y g2 q0 q1 h2 p0 p1 p2 p3 p4 p5 p6 p7 p8 p9 p10 p11 p12 p13 d0 d1 g u0 u1 h v0 v1 i w0 w1 k : Int) (HA : Hid (∀ w, Calls Try.prog 21 #[.agg #[.int .i64 a0, .int .i64 a1], .agg #[.int .i64 b0, .int .i64 b1]] w fun e' w' => e' = .returned (.tuple #[.agg #[.int .i64 s0, .int .i64 s1], .int .i64 e]) ∧ Below w.heap.size w w')) (HB : Hid (∀ w, Calls Try.prog 21 #[.agg #[.int .i64 b0, .int .i64 b1], .agg #[.int .i64 a0, .int .i64 a1]] w fun e' w' => e' = .returned (.tuple #[.agg #[.int .i64 t0, .int .i64 t1], .int .i64 f]) ∧ Below w.heap.size w w')) (k1 : (s0 == t0) = true) (k2 : (s1 == t1) = true) (k3 : (e == 0) = true) (k4 : (f == 0) = true) (HC : Hid (∀ w, Calls Try.prog 23 #[.agg #[.int .i64 s0, .int .i64 s1], .agg #[.int .i64 b0, .int .i64 b1]] w fun e' w' => e' = .returned (.tuple #[.agg #[.int .i64 d0, .int .i64 d1], .int .i64 g]) ∧ Below w.heap.size w w')) (k5 : (g != 0) = false) (k6 : (d0 == a0) = true) (k7 : (d1 == a1) = true) (HD : Hid (∀ w, Calls Try.prog 20 #[.agg #[.int .i64 a0, .int .i64 a1], .agg #[.int .i64 s0, .int .i64 s1]] w fun e' w' => e' = .returned (.bool true) ∧ Below w.heap.size w w')) (HE : Hid (∀ w, Calls Try.prog 20 #[.agg #[.int .i64 b0, .int .i64 b1], .agg #[.int .i64 s0, .int .i64 s1]] w fun e' w' => e' = .returned (.bool true) ∧ Below w.heap.size w w')) (HF : Hid (∀ w, Calls Try.prog 21 #[.agg #[.int .i64 s0, .int .i64 s1], .agg #[.int .i64 c0, .int .i64 c1]] w fun e' w' => e' = .returned (.tuple #[.agg #[.int .i64 u0, .int .i64 u1], .int .i64 h]) ∧ Below w.heap.size w w')) (HG : Hid (∀ w, Calls Try.prog 21 #[.agg #[.int .i64 b0, .int .i64 b1], .agg #[.int .i64 c0, .int .i64 c1]] w fun e' w' => e' = .returned (.tuple #[.agg #[.int .i64 v0, .int .i64 v1], .int .i64 i]) ∧ Below w.heap.size w w')) (k8 : (i == 0) = true) (HH : Hid (∀ w, Calls Try.prog 21 #[.agg #[.int .i64 a0, .int .i64 a1], .agg #[.int .i64 v0, .int .i64 v1]] w fun e' w' => e' = .returned (.tuple #[.agg #[.int .i64 w0, .int .i64 w1], .int .i64 k]) ∧ Below w.heap.size w w')) (k9 : (k == 0) = (h == 0)) (k10 : (w0 == u0) = true) (k11 : (w1 == u1) = true) (HI : Hid (∀ w, Calls Try.prog 29 #[.agg #[.int .i64 a0, .int .i64 a1]] w fun e' w' => e' = .returned (.tuple #[.agg #[.int .u8 p0, .int .u8 p1, .int .u8 p2, .int .u8 p3, .int .u8 p4, .int .u8 p5, .int .u8 p6, .int .u8 p7, .int .u8 p8, .int .u8 p9, .int .u8 p10, .int .u8 p11, .int .u8 p12, .int .u8 p13], .int .i64 g2]) ∧ Below w.heap.size w w')) (HJ : Hid (∀ w, Calls Try.prog 31 #[.agg #[.int .u8 p0, .int .u8 p1, .int .u8 p2, .int .u8 p3, .int .u8 p4, .int .u8 p5, .int .u8 p6, .int .u8 p7, .int .u8 p8, .int .u8 p9, .int .u8 p10, .int .u8 p11, .int .u8 p12, .int .u8 p13]] w fun e' w' => e' = .returned (.tuple #[.agg #[.int .i64 q0, .int .i64 q1], .int .i64 h2]) ∧ Below w.heap.size w w')) (k12 : (g2 != 0) = false) (k13 : (g2 == 0) = true) (k14 : (h2 == 0) = true) (k15 : (q0 == a0) = true) (k16 : (q1 == a1) = true) (HK : Hid (∀ w, Calls Try.prog 20 #[.agg #[.int .i64 a0, .int .i64 a1], .agg #[.int .i64 b0, .int .i64 b1]] w fun e' w' => e' = .returned (.bool true) ∧ Below w.heap.size w w')) (HL : Hid (∀ w, Calls Try.prog 20 #[.agg #[.int .i64 b0, .int .i64 b1], .agg #[.int .i64 c0, .int .i64 c1]] w fun e' w' => e' = .returned (.bool true) ∧ Below w.heap.size w w')) (HM : Hid (∀ w, Calls Try.prog 20 #[.agg #[.int .i64 a0, .int .i64 a1], .agg #[.int .i64 c0, .int .i64 c1]] w fun e' w' => e' = .returned (.bool true) ∧ Below w.heap.size w w')) (HN : Hid (∀ w, Calls Try.prog 23 #[.agg #[.int .i64 b0, .int .i64 b1], .agg #[.int .i64 a0, .int .i64 a1]] w fun e' w' => e' = .returned (.tuple #[.agg #[.int .i64 x0, .int .i64 x1], .int .i64 y]) ∧ Below w.heap.size w w')) (k17 : (y == 0) = true) (k18 : (y != 0) = false) (HO : Hid (∀ w, Calls Try.prog 20 #[.agg #[.int .i64 x0, .int .i64 x1], .agg #[.int .i64 b0, .int .i64 b1]] w fun e' w' => e' = .returned (.bool true) ∧ Below w.heap.size w w')) (HP : Hid (∀ w, Calls Try.prog 20 #[.agg #[.int .i64 a0, .int .i64 a1], .agg #[.int .i64 a0, .int .i64 a1]] w fun e' w' => e' = .returned (.bool true) ∧ Below w.heap.size w w')) (w : World) : Calls Try.prog 9 #[.agg #[.int .i64 a0, .int .i64 a1], .agg #[.int .i64 b0, .int .i64 b1], .agg #[.int .i64 c0, .int .i64 c1]] w fun e' w' => e' = .returned (.bool true) ∧ Below w.heap.size w w' := by
  go_enter Try.func9, Try.ntmps9
  go_wp2_with fail
  refine (HA.out _).mono ?_
  rintro e w1 ⟨rfl, hb1⟩
  obtain ⟨x1, y1, z1⟩ := heap3 hb1
  have hz1 : w.heap.size + 1 + 1 < w1.heap.size := by have := hb1.size; simp at this; omega
  have hy1 : w.heap.size + 1 < w1.heap.size := by omega
  have hx1 : w.heap.size < w1.heap.size := by omega
  have hk1 : Below w.heap.size w w1 := base3 hb1
  have hB1 : Below w.heap.size w w1 := hk1
  clear hb1 hk1
  obtain ⟨r1_0_0, r1_0_1⟩ := cells2h x1
  obtain ⟨r1_1_0, r1_1_1⟩ := cells2h y1
  go_wp2_with fail
  refine (HB.out _).mono ?_
  rintro e w2 ⟨rfl, hb2⟩
  have x2 := heap1 hb2
  have hk2 : Below w1.heap.size w1 w2 := below1 hb2
  have hz2 : w1.heap.size < w2.heap.size := by have := hb2.size; simp at this; omega
  have g2_0 := heapKeep hk2 (by omega) x1
  have g2_1 := heapKeep hk2 (by omega) y1
  have g2_2 := heapKeep hk2 (by omega) z1
  clear x1 y1 z1 r1_0_0 r1_0_1 r1_1_0 r1_1_1
  have hz1_2 := Nat.lt_of_lt_of_le hz1 hk2.size
  have hy1_2 := Nat.lt_of_lt_of_le hy1 hk2.size
  have hx1_2 := Nat.lt_of_lt_of_le hx1 hk2.size
  clear hz1 hy1 hx1
  have hB2 : Below w.heap.size w w2 := hB1.trans (hk2.mono hB1.size)
  clear hb2 hk2 hB1
  obtain ⟨r2_0_0, r2_0_1⟩ := cells2h g2_0
  obtain ⟨r2_1_0, r2_1_1⟩ := cells2h g2_1
  obtain ⟨r2_3_0, r2_3_1⟩ := cells2h x2
  go_wp2_with fail
  refine (HC.out _).mono ?_
  rintro e w3 ⟨rfl, hb3⟩
  have x3 := heap1 hb3
  have hk3 : Below w2.heap.size w2 w3 := below1 hb3
  have hz3 : w2.heap.size < w3.heap.size := by have := hb3.size; simp at this; omega
  have g3_0 := heapKeep hk3 (by omega) g2_0
  have g3_1 := heapKeep hk3 (by omega) g2_1
  have g3_2 := heapKeep hk3 (by omega) g2_2
  have g3_3 := heapKeep hk3 (by omega) x2
  clear g2_0 g2_1 g2_2 x2 r2_0_0 r2_0_1 r2_1_0 r2_1_1 r2_3_0 r2_3_1
  have hz1_2_3 := Nat.lt_of_lt_of_le hz1_2 hk3.size
  have hy1_2_3 := Nat.lt_of_lt_of_le hy1_2 hk3.size
  have hx1_2_3 := Nat.lt_of_lt_of_le hx1_2 hk3.size
  have hz2_3 := Nat.lt_of_lt_of_le hz2 hk3.size
  clear hz1_2 hy1_2 hx1_2 hz2
  have hB3 : Below w.heap.size w w3 := hB2.trans (hk3.mono hB2.size)
  clear hb3 hk3 hB2
  obtain ⟨r3_0_0, r3_0_1⟩ := cells2h g3_0
  obtain ⟨r3_3_0, r3_3_1⟩ := cells2h g3_3
  go_wp2_with fail
  refine (HD.out _).mono ?_
  rintro e w4 ⟨rfl, hb4⟩
  have x4 := heap1 hb4
  have hk4 : Below w3.heap.size w3 w4 := below1 hb4
  have hz4 : w3.heap.size < w4.heap.size := by have := hb4.size; simp at this; omega
  have g4_0 := heapKeep hk4 (by omega) g3_0
  have g4_1 := heapKeep hk4 (by omega) g3_1
  have g4_2 := heapKeep hk4 (by omega) g3_2
  have g4_3 := heapKeep hk4 (by omega) g3_3
  have g4_4 := heapKeep hk4 (by omega) x3
  clear g3_0 g3_1 g3_2 g3_3 x3 r3_0_0 r3_0_1 r3_3_0 r3_3_1
  have hz1_2_3_4 := Nat.lt_of_lt_of_le hz1_2_3 hk4.size
  have hy1_2_3_4 := Nat.lt_of_lt_of_le hy1_2_3 hk4.size
  have hx1_2_3_4 := Nat.lt_of_lt_of_le hx1_2_3 hk4.size
  have hz2_3_4 := Nat.lt_of_lt_of_le hz2_3 hk4.size
  have hz3_4 := Nat.lt_of_lt_of_le hz3 hk4.size
  clear hz1_2_3 hy1_2_3 hx1_2_3 hz2_3 hz3
  have hB4 : Below w.heap.size w w4 := hB3.trans (hk4.mono hB3.size)
  clear hb4 hk4 hB3
  obtain ⟨r4_1_0, r4_1_1⟩ := cells2h g4_1
  obtain ⟨r4_3_0, r4_3_1⟩ := cells2h g4_3
  go_wp2_with fail
  refine (HE.out _).mono ?_
  rintro e w5 ⟨rfl, hb5⟩
  have hk5 : Below w4.heap.size w4 w5 := hb5
  have g5_0 := heapKeep hk5 (by omega) g4_0
  have g5_1 := heapKeep hk5 (by omega) g4_1
  have g5_2 := heapKeep hk5 (by omega) g4_2
  have g5_3 := heapKeep hk5 (by omega) g4_3
  have g5_4 := heapKeep hk5 (by omega) g4_4
  have g5_5 := heapKeep hk5 (by omega) x4
  clear g4_0 g4_1 g4_2 g4_3 g4_4 x4 r4_1_0 r4_1_1 r4_3_0 r4_3_1
  have hz1_2_3_4_5 := Nat.lt_of_lt_of_le hz1_2_3_4 hk5.size
  have hy1_2_3_4_5 := Nat.lt_of_lt_of_le hy1_2_3_4 hk5.size
  have hx1_2_3_4_5 := Nat.lt_of_lt_of_le hx1_2_3_4 hk5.size
  have hz2_3_4_5 := Nat.lt_of_lt_of_le hz2_3_4 hk5.size
  have hz3_4_5 := Nat.lt_of_lt_of_le hz3_4 hk5.size
  have hz4_5 := Nat.lt_of_lt_of_le hz4 hk5.size
  clear hz1_2_3_4 hy1_2_3_4 hx1_2_3_4 hz2_3_4 hz3_4 hz4
  have hB5 : Below w.heap.size w w5 := hB4.trans (hk5.mono hB4.size)
  clear hb5 hk5 hB4
  obtain ⟨r5_2_0, r5_2_1⟩ := cells2h g5_2
  obtain ⟨r5_3_0, r5_3_1⟩ := cells2h g5_3
  go_wp2_with fail
  refine (HF.out _).mono ?_
  rintro e w6 ⟨rfl, hb6⟩
  have hk6 : Below w5.heap.size w5 w6 := hb6
  have g6_0 := heapKeep hk6 (by omega) g5_0
  have g6_1 := heapKeep hk6 (by omega) g5_1
  have g6_2 := heapKeep hk6 (by omega) g5_2
  have g6_3 := heapKeep hk6 (by omega) g5_3
  have g6_4 := heapKeep hk6 (by omega) g5_4
  have g6_5 := heapKeep hk6 (by omega) g5_5
  clear g5_0 g5_1 g5_2 g5_3 g5_4 g5_5 r5_2_0 r5_2_1 r5_3_0 r5_3_1
  have hz1_2_3_4_5_6 := Nat.lt_of_lt_of_le hz1_2_3_4_5 hk6.size
  have hy1_2_3_4_5_6 := Nat.lt_of_lt_of_le hy1_2_3_4_5 hk6.size
  have hx1_2_3_4_5_6 := Nat.lt_of_lt_of_le hx1_2_3_4_5 hk6.size
  have hz2_3_4_5_6 := Nat.lt_of_lt_of_le hz2_3_4_5 hk6.size
  have hz3_4_5_6 := Nat.lt_of_lt_of_le hz3_4_5 hk6.size
  have hz4_5_6 := Nat.lt_of_lt_of_le hz4_5 hk6.size
  clear hz1_2_3_4_5 hy1_2_3_4_5 hx1_2_3_4_5 hz2_3_4_5 hz3_4_5 hz4_5
  have hB6 : Below w.heap.size w w6 := hB5.trans (hk6.mono hB5.size)
  clear hb6 hk6 hB5
  obtain ⟨r6_1_0, r6_1_1⟩ := cells2h g6_1
  obtain ⟨r6_2_0, r6_2_1⟩ := cells2h g6_2
  go_wp2_with fail
  refine (HG.out _).mono ?_
  rintro e w7 ⟨rfl, hb7⟩
  have x7 := heap1 hb7
  have hk7 : Below w6.heap.size w6 w7 := below1 hb7
  have hz7 : w6.heap.size < w7.heap.size := by have := hb7.size; simp at this; omega
  have g7_0 := heapKeep hk7 (by omega) g6_0
  have g7_1 := heapKeep hk7 (by omega) g6_1
  have g7_2 := heapKeep hk7 (by omega) g6_2
  have g7_3 := heapKeep hk7 (by omega) g6_3
  have g7_4 := heapKeep hk7 (by omega) g6_4
  have g7_5 := heapKeep hk7 (by omega) g6_5
  clear g6_0 g6_1 g6_2 g6_3 g6_4 g6_5 r6_1_0 r6_1_1 r6_2_0 r6_2_1
  have hz1_2_3_4_5_6_7 := Nat.lt_of_lt_of_le hz1_2_3_4_5_6 hk7.size
  have hy1_2_3_4_5_6_7 := Nat.lt_of_lt_of_le hy1_2_3_4_5_6 hk7.size
  have hx1_2_3_4_5_6_7 := Nat.lt_of_lt_of_le hx1_2_3_4_5_6 hk7.size
  have hz2_3_4_5_6_7 := Nat.lt_of_lt_of_le hz2_3_4_5_6 hk7.size
  have hz3_4_5_6_7 := Nat.lt_of_lt_of_le hz3_4_5_6 hk7.size
  have hz4_5_6_7 := Nat.lt_of_lt_of_le hz4_5_6 hk7.size
  clear hz1_2_3_4_5_6 hy1_2_3_4_5_6 hx1_2_3_4_5_6 hz2_3_4_5_6 hz3_4_5_6 hz4_5_6
  have hB7 : Below w.heap.size w w7 := hB6.trans (hk7.mono hB6.size)
  clear hb7 hk7 hB6
  obtain ⟨r7_0_0, r7_0_1⟩ := cells2h g7_0
  go_wp2_with fail
  refine (HH.out _).mono ?_
  rintro e w8 ⟨rfl, hb8⟩
  have x8 := heap1 hb8
  have hk8 : Below w7.heap.size w7 w8 := below1 hb8
  have hz8 : w7.heap.size < w8.heap.size := by have := hb8.size; simp at this; omega
  have g8_0 := heapKeep hk8 (by omega) g7_0
  have g8_1 := heapKeep hk8 (by omega) g7_1
  have g8_2 := heapKeep hk8 (by omega) g7_2
  have g8_3 := heapKeep hk8 (by omega) g7_3
  have g8_4 := heapKeep hk8 (by omega) g7_4
  have g8_5 := heapKeep hk8 (by omega) g7_5
  have g8_6 := heapKeep hk8 (by omega) x7
  clear g7_0 g7_1 g7_2 g7_3 g7_4 g7_5 x7 r7_0_0 r7_0_1
  have hz1_2_3_4_5_6_7_8 := Nat.lt_of_lt_of_le hz1_2_3_4_5_6_7 hk8.size
  have hy1_2_3_4_5_6_7_8 := Nat.lt_of_lt_of_le hy1_2_3_4_5_6_7 hk8.size
  have hx1_2_3_4_5_6_7_8 := Nat.lt_of_lt_of_le hx1_2_3_4_5_6_7 hk8.size
  have hz2_3_4_5_6_7_8 := Nat.lt_of_lt_of_le hz2_3_4_5_6_7 hk8.size
  have hz3_4_5_6_7_8 := Nat.lt_of_lt_of_le hz3_4_5_6_7 hk8.size
  have hz4_5_6_7_8 := Nat.lt_of_lt_of_le hz4_5_6_7 hk8.size
  have hz7_8 := Nat.lt_of_lt_of_le hz7 hk8.size
  clear hz1_2_3_4_5_6_7 hy1_2_3_4_5_6_7 hx1_2_3_4_5_6_7 hz2_3_4_5_6_7 hz3_4_5_6_7 hz4_5_6_7 hz7
  have hB8 : Below w.heap.size w w8 := hB7.trans (hk8.mono hB7.size)
  clear hb8 hk8 hB7
  obtain ⟨r8_0_0, r8_0_1⟩ := cells2h g8_0
  obtain ⟨r8_6_0, r8_6_1⟩ := cells2h g8_6
  go_wp2_with fail
  refine (HI.out _).mono ?_
  rintro e w9 ⟨rfl, hb9⟩
  have x9 := heap1 hb9
  have hk9 : Below w8.heap.size w8 w9 := below1 hb9
  have hz9 : w8.heap.size < w9.heap.size := by have := hb9.size; simp at this; omega
  have g9_0 := heapKeep hk9 (by omega) g8_0
  have g9_1 := heapKeep hk9 (by omega) g8_1
  have g9_2 := heapKeep hk9 (by omega) g8_2
  have g9_3 := heapKeep hk9 (by omega) g8_3
  have g9_4 := heapKeep hk9 (by omega) g8_4
  have g9_5 := heapKeep hk9 (by omega) g8_5
  have g9_6 := heapKeep hk9 (by omega) g8_6
  have g9_7 := heapKeep hk9 (by omega) x8
  clear g8_0 g8_1 g8_2 g8_3 g8_4 g8_5 g8_6 x8 r8_0_0 r8_0_1 r8_6_0 r8_6_1
  have hz1_2_3_4_5_6_7_8_9 := Nat.lt_of_lt_of_le hz1_2_3_4_5_6_7_8 hk9.size
  have hy1_2_3_4_5_6_7_8_9 := Nat.lt_of_lt_of_le hy1_2_3_4_5_6_7_8 hk9.size
  have hx1_2_3_4_5_6_7_8_9 := Nat.lt_of_lt_of_le hx1_2_3_4_5_6_7_8 hk9.size
  have hz2_3_4_5_6_7_8_9 := Nat.lt_of_lt_of_le hz2_3_4_5_6_7_8 hk9.size
  have hz3_4_5_6_7_8_9 := Nat.lt_of_lt_of_le hz3_4_5_6_7_8 hk9.size
  have hz4_5_6_7_8_9 := Nat.lt_of_lt_of_le hz4_5_6_7_8 hk9.size
  have hz7_8_9 := Nat.lt_of_lt_of_le hz7_8 hk9.size
  have hz8_9 := Nat.lt_of_lt_of_le hz8 hk9.size
  clear hz1_2_3_4_5_6_7_8 hy1_2_3_4_5_6_7_8 hx1_2_3_4_5_6_7_8 hz2_3_4_5_6_7_8 hz3_4_5_6_7_8 hz4_5_6_7_8 hz7_8 hz8
  have hB9 : Below w.heap.size w w9 := hB8.trans (hk9.mono hB8.size)
  clear hb9 hk9 hB8
  go_wp2_with fail
  refine (HJ.out _).mono ?_
  rintro e w10 ⟨rfl, hb10⟩
  have x10 := heap1 hb10
  have hk10 : Below w9.heap.size w9 w10 := below1 hb10
  have hz10 : w9.heap.size < w10.heap.size := by have := hb10.size; simp at this; omega
  have g10_0 := heapKeep hk10 (by omega) g9_0
  have g10_1 := heapKeep hk10 (by omega) g9_1
  have g10_2 := heapKeep hk10 (by omega) g9_2
  have g10_3 := heapKeep hk10 (by omega) g9_3
  have g10_4 := heapKeep hk10 (by omega) g9_4
  have g10_5 := heapKeep hk10 (by omega) g9_5
  have g10_6 := heapKeep hk10 (by omega) g9_6
  have g10_7 := heapKeep hk10 (by omega) g9_7
  have g10_8 := heapKeep hk10 (by omega) x9
  clear g9_0 g9_1 g9_2 g9_3 g9_4 g9_5 g9_6 g9_7 x9
  have hz1_2_3_4_5_6_7_8_9_10 := Nat.lt_of_lt_of_le hz1_2_3_4_5_6_7_8_9 hk10.size
  have hy1_2_3_4_5_6_7_8_9_10 := Nat.lt_of_lt_of_le hy1_2_3_4_5_6_7_8_9 hk10.size
  have hx1_2_3_4_5_6_7_8_9_10 := Nat.lt_of_lt_of_le hx1_2_3_4_5_6_7_8_9 hk10.size
  have hz2_3_4_5_6_7_8_9_10 := Nat.lt_of_lt_of_le hz2_3_4_5_6_7_8_9 hk10.size
  have hz3_4_5_6_7_8_9_10 := Nat.lt_of_lt_of_le hz3_4_5_6_7_8_9 hk10.size
  have hz4_5_6_7_8_9_10 := Nat.lt_of_lt_of_le hz4_5_6_7_8_9 hk10.size
  have hz7_8_9_10 := Nat.lt_of_lt_of_le hz7_8_9 hk10.size
  have hz8_9_10 := Nat.lt_of_lt_of_le hz8_9 hk10.size
  have hz9_10 := Nat.lt_of_lt_of_le hz9 hk10.size
  clear hz1_2_3_4_5_6_7_8_9 hy1_2_3_4_5_6_7_8_9 hx1_2_3_4_5_6_7_8_9 hz2_3_4_5_6_7_8_9 hz3_4_5_6_7_8_9 hz4_5_6_7_8_9 hz7_8_9 hz8_9 hz9
  have hB10 : Below w.heap.size w w10 := hB9.trans (hk10.mono hB9.size)
  clear hb10 hk10 hB9
  obtain ⟨r10_0_0, r10_0_1⟩ := cells2h g10_0
  obtain ⟨r10_1_0, r10_1_1⟩ := cells2h g10_1
  go_wp2_with fail
  refine (HK.out _).mono ?_
  rintro e w11 ⟨rfl, hb11⟩
  have x11 := heap1 hb11
  have hk11 : Below w10.heap.size w10 w11 := below1 hb11
  have hz11 : w10.heap.size < w11.heap.size := by have := hb11.size; simp at this; omega
  have g11_0 := heapKeep hk11 (by omega) g10_0
  have g11_1 := heapKeep hk11 (by omega) g10_1
  have g11_2 := heapKeep hk11 (by omega) g10_2
  have g11_3 := heapKeep hk11 (by omega) g10_3
  have g11_4 := heapKeep hk11 (by omega) g10_4
  have g11_5 := heapKeep hk11 (by omega) g10_5
  have g11_6 := heapKeep hk11 (by omega) g10_6
  have g11_7 := heapKeep hk11 (by omega) g10_7
  have g11_8 := heapKeep hk11 (by omega) g10_8
  have g11_9 := heapKeep hk11 (by omega) x10
  clear g10_0 g10_1 g10_2 g10_3 g10_4 g10_5 g10_6 g10_7 g10_8 x10 r10_0_0 r10_0_1 r10_1_0 r10_1_1
  have hz1_2_3_4_5_6_7_8_9_10_11 := Nat.lt_of_lt_of_le hz1_2_3_4_5_6_7_8_9_10 hk11.size
  have hy1_2_3_4_5_6_7_8_9_10_11 := Nat.lt_of_lt_of_le hy1_2_3_4_5_6_7_8_9_10 hk11.size
  have hx1_2_3_4_5_6_7_8_9_10_11 := Nat.lt_of_lt_of_le hx1_2_3_4_5_6_7_8_9_10 hk11.size
  have hz2_3_4_5_6_7_8_9_10_11 := Nat.lt_of_lt_of_le hz2_3_4_5_6_7_8_9_10 hk11.size
  have hz3_4_5_6_7_8_9_10_11 := Nat.lt_of_lt_of_le hz3_4_5_6_7_8_9_10 hk11.size
  have hz4_5_6_7_8_9_10_11 := Nat.lt_of_lt_of_le hz4_5_6_7_8_9_10 hk11.size
  have hz7_8_9_10_11 := Nat.lt_of_lt_of_le hz7_8_9_10 hk11.size
  have hz8_9_10_11 := Nat.lt_of_lt_of_le hz8_9_10 hk11.size
  have hz9_10_11 := Nat.lt_of_lt_of_le hz9_10 hk11.size
  have hz10_11 := Nat.lt_of_lt_of_le hz10 hk11.size
  clear hz1_2_3_4_5_6_7_8_9_10 hy1_2_3_4_5_6_7_8_9_10 hx1_2_3_4_5_6_7_8_9_10 hz2_3_4_5_6_7_8_9_10 hz3_4_5_6_7_8_9_10 hz4_5_6_7_8_9_10 hz7_8_9_10 hz8_9_10 hz9_10 hz10
  have hB11 : Below w.heap.size w w11 := hB10.trans (hk11.mono hB10.size)
  clear hb11 hk11 hB10
  obtain ⟨r11_1_0, r11_1_1⟩ := cells2h g11_1
  obtain ⟨r11_2_0, r11_2_1⟩ := cells2h g11_2
  go_wp2_with fail
  refine (HL.out _).mono ?_
  rintro e w12 ⟨rfl, hb12⟩
  have hk12 : Below w11.heap.size w11 w12 := hb12
  have g12_0 := heapKeep hk12 (by omega) g11_0
  have g12_1 := heapKeep hk12 (by omega) g11_1
  have g12_2 := heapKeep hk12 (by omega) g11_2
  have g12_3 := heapKeep hk12 (by omega) g11_3
  have g12_4 := heapKeep hk12 (by omega) g11_4
  have g12_5 := heapKeep hk12 (by omega) g11_5
  have g12_6 := heapKeep hk12 (by omega) g11_6
  have g12_7 := heapKeep hk12 (by omega) g11_7
  have g12_8 := heapKeep hk12 (by omega) g11_8
  have g12_9 := heapKeep hk12 (by omega) g11_9
  have g12_10 := heapKeep hk12 (by omega) x11
  clear g11_0 g11_1 g11_2 g11_3 g11_4 g11_5 g11_6 g11_7 g11_8 g11_9 x11 r11_1_0 r11_1_1 r11_2_0 r11_2_1
  have hz1_2_3_4_5_6_7_8_9_10_11_12 := Nat.lt_of_lt_of_le hz1_2_3_4_5_6_7_8_9_10_11 hk12.size
  have hy1_2_3_4_5_6_7_8_9_10_11_12 := Nat.lt_of_lt_of_le hy1_2_3_4_5_6_7_8_9_10_11 hk12.size
  have hx1_2_3_4_5_6_7_8_9_10_11_12 := Nat.lt_of_lt_of_le hx1_2_3_4_5_6_7_8_9_10_11 hk12.size
  have hz2_3_4_5_6_7_8_9_10_11_12 := Nat.lt_of_lt_of_le hz2_3_4_5_6_7_8_9_10_11 hk12.size
  have hz3_4_5_6_7_8_9_10_11_12 := Nat.lt_of_lt_of_le hz3_4_5_6_7_8_9_10_11 hk12.size
  have hz4_5_6_7_8_9_10_11_12 := Nat.lt_of_lt_of_le hz4_5_6_7_8_9_10_11 hk12.size
  have hz7_8_9_10_11_12 := Nat.lt_of_lt_of_le hz7_8_9_10_11 hk12.size
  have hz8_9_10_11_12 := Nat.lt_of_lt_of_le hz8_9_10_11 hk12.size
  have hz9_10_11_12 := Nat.lt_of_lt_of_le hz9_10_11 hk12.size
  have hz10_11_12 := Nat.lt_of_lt_of_le hz10_11 hk12.size
  have hz11_12 := Nat.lt_of_lt_of_le hz11 hk12.size
  clear hz1_2_3_4_5_6_7_8_9_10_11 hy1_2_3_4_5_6_7_8_9_10_11 hx1_2_3_4_5_6_7_8_9_10_11 hz2_3_4_5_6_7_8_9_10_11 hz3_4_5_6_7_8_9_10_11 hz4_5_6_7_8_9_10_11 hz7_8_9_10_11 hz8_9_10_11 hz9_10_11 hz10_11 hz11
  have hB12 : Below w.heap.size w w12 := hB11.trans (hk12.mono hB11.size)
  clear hb12 hk12 hB11
  obtain ⟨r12_0_0, r12_0_1⟩ := cells2h g12_0
  obtain ⟨r12_2_0, r12_2_1⟩ := cells2h g12_2
  go_wp2_with fail
  refine (HM.out _).mono ?_
  rintro e w13 ⟨rfl, hb13⟩
  have hk13 : Below w12.heap.size w12 w13 := hb13
  have g13_0 := heapKeep hk13 (by omega) g12_0
  have g13_1 := heapKeep hk13 (by omega) g12_1
  have g13_2 := heapKeep hk13 (by omega) g12_2
  have g13_3 := heapKeep hk13 (by omega) g12_3
  have g13_4 := heapKeep hk13 (by omega) g12_4
  have g13_5 := heapKeep hk13 (by omega) g12_5
  have g13_6 := heapKeep hk13 (by omega) g12_6
  have g13_7 := heapKeep hk13 (by omega) g12_7
  have g13_8 := heapKeep hk13 (by omega) g12_8
  have g13_9 := heapKeep hk13 (by omega) g12_9
  have g13_10 := heapKeep hk13 (by omega) g12_10
  clear g12_0 g12_1 g12_2 g12_3 g12_4 g12_5 g12_6 g12_7 g12_8 g12_9 g12_10 r12_0_0 r12_0_1 r12_2_0 r12_2_1
  have hz1_2_3_4_5_6_7_8_9_10_11_12_13 := Nat.lt_of_lt_of_le hz1_2_3_4_5_6_7_8_9_10_11_12 hk13.size
  have hy1_2_3_4_5_6_7_8_9_10_11_12_13 := Nat.lt_of_lt_of_le hy1_2_3_4_5_6_7_8_9_10_11_12 hk13.size
  have hx1_2_3_4_5_6_7_8_9_10_11_12_13 := Nat.lt_of_lt_of_le hx1_2_3_4_5_6_7_8_9_10_11_12 hk13.size
  have hz2_3_4_5_6_7_8_9_10_11_12_13 := Nat.lt_of_lt_of_le hz2_3_4_5_6_7_8_9_10_11_12 hk13.size
  have hz3_4_5_6_7_8_9_10_11_12_13 := Nat.lt_of_lt_of_le hz3_4_5_6_7_8_9_10_11_12 hk13.size
  have hz4_5_6_7_8_9_10_11_12_13 := Nat.lt_of_lt_of_le hz4_5_6_7_8_9_10_11_12 hk13.size
  have hz7_8_9_10_11_12_13 := Nat.lt_of_lt_of_le hz7_8_9_10_11_12 hk13.size
  have hz8_9_10_11_12_13 := Nat.lt_of_lt_of_le hz8_9_10_11_12 hk13.size
  have hz9_10_11_12_13 := Nat.lt_of_lt_of_le hz9_10_11_12 hk13.size
  have hz10_11_12_13 := Nat.lt_of_lt_of_le hz10_11_12 hk13.size
  have hz11_12_13 := Nat.lt_of_lt_of_le hz11_12 hk13.size
  clear hz1_2_3_4_5_6_7_8_9_10_11_12 hy1_2_3_4_5_6_7_8_9_10_11_12 hx1_2_3_4_5_6_7_8_9_10_11_12 hz2_3_4_5_6_7_8_9_10_11_12 hz3_4_5_6_7_8_9_10_11_12 hz4_5_6_7_8_9_10_11_12 hz7_8_9_10_11_12 hz8_9_10_11_12 hz9_10_11_12 hz10_11_12 hz11_12
  have hB13 : Below w.heap.size w w13 := hB12.trans (hk13.mono hB12.size)
  clear hb13 hk13 hB12
  obtain ⟨r13_0_0, r13_0_1⟩ := cells2h g13_0
  obtain ⟨r13_1_0, r13_1_1⟩ := cells2h g13_1
  go_wp2_with fail
  refine (HN.out _).mono ?_
  rintro e w14 ⟨rfl, hb14⟩
  have hk14 : Below w13.heap.size w13 w14 := hb14
  have g14_0 := heapKeep hk14 (by omega) g13_0
  have g14_1 := heapKeep hk14 (by omega) g13_1
  have g14_2 := heapKeep hk14 (by omega) g13_2
  have g14_3 := heapKeep hk14 (by omega) g13_3
  have g14_4 := heapKeep hk14 (by omega) g13_4
  have g14_5 := heapKeep hk14 (by omega) g13_5
  have g14_6 := heapKeep hk14 (by omega) g13_6
  have g14_7 := heapKeep hk14 (by omega) g13_7
  have g14_8 := heapKeep hk14 (by omega) g13_8
  have g14_9 := heapKeep hk14 (by omega) g13_9
  have g14_10 := heapKeep hk14 (by omega) g13_10
  clear g13_0 g13_1 g13_2 g13_3 g13_4 g13_5 g13_6 g13_7 g13_8 g13_9 g13_10 r13_0_0 r13_0_1 r13_1_0 r13_1_1
  have hz1_2_3_4_5_6_7_8_9_10_11_12_13_14 := Nat.lt_of_lt_of_le hz1_2_3_4_5_6_7_8_9_10_11_12_13 hk14.size
  have hy1_2_3_4_5_6_7_8_9_10_11_12_13_14 := Nat.lt_of_lt_of_le hy1_2_3_4_5_6_7_8_9_10_11_12_13 hk14.size
  have hx1_2_3_4_5_6_7_8_9_10_11_12_13_14 := Nat.lt_of_lt_of_le hx1_2_3_4_5_6_7_8_9_10_11_12_13 hk14.size
  have hz2_3_4_5_6_7_8_9_10_11_12_13_14 := Nat.lt_of_lt_of_le hz2_3_4_5_6_7_8_9_10_11_12_13 hk14.size
  have hz3_4_5_6_7_8_9_10_11_12_13_14 := Nat.lt_of_lt_of_le hz3_4_5_6_7_8_9_10_11_12_13 hk14.size
  have hz4_5_6_7_8_9_10_11_12_13_14 := Nat.lt_of_lt_of_le hz4_5_6_7_8_9_10_11_12_13 hk14.size
  have hz7_8_9_10_11_12_13_14 := Nat.lt_of_lt_of_le hz7_8_9_10_11_12_13 hk14.size
  have hz8_9_10_11_12_13_14 := Nat.lt_of_lt_of_le hz8_9_10_11_12_13 hk14.size
  have hz9_10_11_12_13_14 := Nat.lt_of_lt_of_le hz9_10_11_12_13 hk14.size
  have hz10_11_12_13_14 := Nat.lt_of_lt_of_le hz10_11_12_13 hk14.size
  have hz11_12_13_14 := Nat.lt_of_lt_of_le hz11_12_13 hk14.size
  clear hz1_2_3_4_5_6_7_8_9_10_11_12_13 hy1_2_3_4_5_6_7_8_9_10_11_12_13 hx1_2_3_4_5_6_7_8_9_10_11_12_13 hz2_3_4_5_6_7_8_9_10_11_12_13 hz3_4_5_6_7_8_9_10_11_12_13 hz4_5_6_7_8_9_10_11_12_13 hz7_8_9_10_11_12_13 hz8_9_10_11_12_13 hz9_10_11_12_13 hz10_11_12_13 hz11_12_13
  have hB14 : Below w.heap.size w w14 := hB13.trans (hk14.mono hB13.size)
  clear hb14 hk14 hB13
  obtain ⟨r14_0_0, r14_0_1⟩ := cells2h g14_0
  obtain ⟨r14_1_0, r14_1_1⟩ := cells2h g14_1
  go_wp2_with fail
  refine (HK.out _).mono ?_
  rintro e w15 ⟨rfl, hb15⟩
  have x15 := heap1 hb15
  have hk15 : Below w14.heap.size w14 w15 := below1 hb15
  have hz15 : w14.heap.size < w15.heap.size := by have := hb15.size; simp at this; omega
  have g15_0 := heapKeep hk15 (by omega) g14_0
  have g15_1 := heapKeep hk15 (by omega) g14_1
  have g15_2 := heapKeep hk15 (by omega) g14_2
  have g15_3 := heapKeep hk15 (by omega) g14_3
  have g15_4 := heapKeep hk15 (by omega) g14_4
  have g15_5 := heapKeep hk15 (by omega) g14_5
  have g15_6 := heapKeep hk15 (by omega) g14_6
  have g15_7 := heapKeep hk15 (by omega) g14_7
  have g15_8 := heapKeep hk15 (by omega) g14_8
  have g15_9 := heapKeep hk15 (by omega) g14_9
  have g15_10 := heapKeep hk15 (by omega) g14_10
  clear g14_0 g14_1 g14_2 g14_3 g14_4 g14_5 g14_6 g14_7 g14_8 g14_9 g14_10 r14_0_0 r14_0_1 r14_1_0 r14_1_1
  have hz1_2_3_4_5_6_7_8_9_10_11_12_13_14_15 := Nat.lt_of_lt_of_le hz1_2_3_4_5_6_7_8_9_10_11_12_13_14 hk15.size
  have hy1_2_3_4_5_6_7_8_9_10_11_12_13_14_15 := Nat.lt_of_lt_of_le hy1_2_3_4_5_6_7_8_9_10_11_12_13_14 hk15.size
  have hx1_2_3_4_5_6_7_8_9_10_11_12_13_14_15 := Nat.lt_of_lt_of_le hx1_2_3_4_5_6_7_8_9_10_11_12_13_14 hk15.size
  have hz2_3_4_5_6_7_8_9_10_11_12_13_14_15 := Nat.lt_of_lt_of_le hz2_3_4_5_6_7_8_9_10_11_12_13_14 hk15.size
  have hz3_4_5_6_7_8_9_10_11_12_13_14_15 := Nat.lt_of_lt_of_le hz3_4_5_6_7_8_9_10_11_12_13_14 hk15.size
  have hz4_5_6_7_8_9_10_11_12_13_14_15 := Nat.lt_of_lt_of_le hz4_5_6_7_8_9_10_11_12_13_14 hk15.size
  have hz7_8_9_10_11_12_13_14_15 := Nat.lt_of_lt_of_le hz7_8_9_10_11_12_13_14 hk15.size
  have hz8_9_10_11_12_13_14_15 := Nat.lt_of_lt_of_le hz8_9_10_11_12_13_14 hk15.size
  have hz9_10_11_12_13_14_15 := Nat.lt_of_lt_of_le hz9_10_11_12_13_14 hk15.size
  have hz10_11_12_13_14_15 := Nat.lt_of_lt_of_le hz10_11_12_13_14 hk15.size
  have hz11_12_13_14_15 := Nat.lt_of_lt_of_le hz11_12_13_14 hk15.size
  clear hz1_2_3_4_5_6_7_8_9_10_11_12_13_14 hy1_2_3_4_5_6_7_8_9_10_11_12_13_14 hx1_2_3_4_5_6_7_8_9_10_11_12_13_14 hz2_3_4_5_6_7_8_9_10_11_12_13_14 hz3_4_5_6_7_8_9_10_11_12_13_14 hz4_5_6_7_8_9_10_11_12_13_14 hz7_8_9_10_11_12_13_14 hz8_9_10_11_12_13_14 hz9_10_11_12_13_14 hz10_11_12_13_14 hz11_12_13_14
  have hB15 : Below w.heap.size w w15 := hB14.trans (hk15.mono hB14.size)
  clear hb15 hk15 hB14
  obtain ⟨r15_1_0, r15_1_1⟩ := cells2h g15_1
  obtain ⟨r15_11_0, r15_11_1⟩ := cells2h x15
  go_wp2_with fail
  refine (HO.out _).mono ?_
  rintro e w16 ⟨rfl, hb16⟩
  have hk16 : Below w15.heap.size w15 w16 := hb16
  have g16_0 := heapKeep hk16 (by omega) g15_0
  have g16_1 := heapKeep hk16 (by omega) g15_1
  have g16_2 := heapKeep hk16 (by omega) g15_2
  have g16_3 := heapKeep hk16 (by omega) g15_3
  have g16_4 := heapKeep hk16 (by omega) g15_4
  have g16_5 := heapKeep hk16 (by omega) g15_5
  have g16_6 := heapKeep hk16 (by omega) g15_6
  have g16_7 := heapKeep hk16 (by omega) g15_7
  have g16_8 := heapKeep hk16 (by omega) g15_8
  have g16_9 := heapKeep hk16 (by omega) g15_9
  have g16_10 := heapKeep hk16 (by omega) g15_10
  have g16_11 := heapKeep hk16 (by omega) x15
  clear g15_0 g15_1 g15_2 g15_3 g15_4 g15_5 g15_6 g15_7 g15_8 g15_9 g15_10 x15 r15_1_0 r15_1_1 r15_11_0 r15_11_1
  have hz1_2_3_4_5_6_7_8_9_10_11_12_13_14_15_16 := Nat.lt_of_lt_of_le hz1_2_3_4_5_6_7_8_9_10_11_12_13_14_15 hk16.size
  have hy1_2_3_4_5_6_7_8_9_10_11_12_13_14_15_16 := Nat.lt_of_lt_of_le hy1_2_3_4_5_6_7_8_9_10_11_12_13_14_15 hk16.size
  have hx1_2_3_4_5_6_7_8_9_10_11_12_13_14_15_16 := Nat.lt_of_lt_of_le hx1_2_3_4_5_6_7_8_9_10_11_12_13_14_15 hk16.size
  have hz2_3_4_5_6_7_8_9_10_11_12_13_14_15_16 := Nat.lt_of_lt_of_le hz2_3_4_5_6_7_8_9_10_11_12_13_14_15 hk16.size
  have hz3_4_5_6_7_8_9_10_11_12_13_14_15_16 := Nat.lt_of_lt_of_le hz3_4_5_6_7_8_9_10_11_12_13_14_15 hk16.size
  have hz4_5_6_7_8_9_10_11_12_13_14_15_16 := Nat.lt_of_lt_of_le hz4_5_6_7_8_9_10_11_12_13_14_15 hk16.size
  have hz7_8_9_10_11_12_13_14_15_16 := Nat.lt_of_lt_of_le hz7_8_9_10_11_12_13_14_15 hk16.size
  have hz8_9_10_11_12_13_14_15_16 := Nat.lt_of_lt_of_le hz8_9_10_11_12_13_14_15 hk16.size
  have hz9_10_11_12_13_14_15_16 := Nat.lt_of_lt_of_le hz9_10_11_12_13_14_15 hk16.size
  have hz10_11_12_13_14_15_16 := Nat.lt_of_lt_of_le hz10_11_12_13_14_15 hk16.size
  have hz11_12_13_14_15_16 := Nat.lt_of_lt_of_le hz11_12_13_14_15 hk16.size
  have hz15_16 := Nat.lt_of_lt_of_le hz15 hk16.size
  clear hz1_2_3_4_5_6_7_8_9_10_11_12_13_14_15 hy1_2_3_4_5_6_7_8_9_10_11_12_13_14_15 hx1_2_3_4_5_6_7_8_9_10_11_12_13_14_15 hz2_3_4_5_6_7_8_9_10_11_12_13_14_15 hz3_4_5_6_7_8_9_10_11_12_13_14_15 hz4_5_6_7_8_9_10_11_12_13_14_15 hz7_8_9_10_11_12_13_14_15 hz8_9_10_11_12_13_14_15 hz9_10_11_12_13_14_15 hz10_11_12_13_14_15 hz11_12_13_14_15 hz15
  have hB16 : Below w.heap.size w w16 := hB15.trans (hk16.mono hB15.size)
  clear hb16 hk16 hB15
  go_wp2_with fail
  refine (live1_any _).mono ?_
  rintro e w17 ⟨rfl, hb17⟩
  have hk17 : Below w16.heap.size w16 w17 := hb17
  have g17_0 := heapKeep hk17 (by omega) g16_0
  have g17_1 := heapKeep hk17 (by omega) g16_1
  have g17_2 := heapKeep hk17 (by omega) g16_2
  have g17_3 := heapKeep hk17 (by omega) g16_3
  have g17_4 := heapKeep hk17 (by omega) g16_4
  have g17_5 := heapKeep hk17 (by omega) g16_5
  have g17_6 := heapKeep hk17 (by omega) g16_6
  have g17_7 := heapKeep hk17 (by omega) g16_7
  have g17_8 := heapKeep hk17 (by omega) g16_8
  have g17_9 := heapKeep hk17 (by omega) g16_9
  have g17_10 := heapKeep hk17 (by omega) g16_10
  have g17_11 := heapKeep hk17 (by omega) g16_11
  clear g16_0 g16_1 g16_2 g16_3 g16_4 g16_5 g16_6 g16_7 g16_8 g16_9 g16_10 g16_11
  have hz1_2_3_4_5_6_7_8_9_10_11_12_13_14_15_16_17 := Nat.lt_of_lt_of_le hz1_2_3_4_5_6_7_8_9_10_11_12_13_14_15_16 hk17.size
  have hy1_2_3_4_5_6_7_8_9_10_11_12_13_14_15_16_17 := Nat.lt_of_lt_of_le hy1_2_3_4_5_6_7_8_9_10_11_12_13_14_15_16 hk17.size
  have hx1_2_3_4_5_6_7_8_9_10_11_12_13_14_15_16_17 := Nat.lt_of_lt_of_le hx1_2_3_4_5_6_7_8_9_10_11_12_13_14_15_16 hk17.size
  have hz2_3_4_5_6_7_8_9_10_11_12_13_14_15_16_17 := Nat.lt_of_lt_of_le hz2_3_4_5_6_7_8_9_10_11_12_13_14_15_16 hk17.size
  have hz3_4_5_6_7_8_9_10_11_12_13_14_15_16_17 := Nat.lt_of_lt_of_le hz3_4_5_6_7_8_9_10_11_12_13_14_15_16 hk17.size
  have hz4_5_6_7_8_9_10_11_12_13_14_15_16_17 := Nat.lt_of_lt_of_le hz4_5_6_7_8_9_10_11_12_13_14_15_16 hk17.size
  have hz7_8_9_10_11_12_13_14_15_16_17 := Nat.lt_of_lt_of_le hz7_8_9_10_11_12_13_14_15_16 hk17.size
  have hz8_9_10_11_12_13_14_15_16_17 := Nat.lt_of_lt_of_le hz8_9_10_11_12_13_14_15_16 hk17.size
  have hz9_10_11_12_13_14_15_16_17 := Nat.lt_of_lt_of_le hz9_10_11_12_13_14_15_16 hk17.size
  have hz10_11_12_13_14_15_16_17 := Nat.lt_of_lt_of_le hz10_11_12_13_14_15_16 hk17.size
  have hz11_12_13_14_15_16_17 := Nat.lt_of_lt_of_le hz11_12_13_14_15_16 hk17.size
  have hz15_16_17 := Nat.lt_of_lt_of_le hz15_16 hk17.size
  clear hz1_2_3_4_5_6_7_8_9_10_11_12_13_14_15_16 hy1_2_3_4_5_6_7_8_9_10_11_12_13_14_15_16 hx1_2_3_4_5_6_7_8_9_10_11_12_13_14_15_16 hz2_3_4_5_6_7_8_9_10_11_12_13_14_15_16 hz3_4_5_6_7_8_9_10_11_12_13_14_15_16 hz4_5_6_7_8_9_10_11_12_13_14_15_16 hz7_8_9_10_11_12_13_14_15_16 hz8_9_10_11_12_13_14_15_16 hz9_10_11_12_13_14_15_16 hz10_11_12_13_14_15_16 hz11_12_13_14_15_16 hz15_16
  have hB17 : Below w.heap.size w w17 := hB16.trans (hk17.mono hB16.size)
  clear hb17 hk17 hB16
  obtain ⟨r17_0_0, r17_0_1⟩ := cells2h g17_0
  go_wp2_with fail
  refine (HP.out _).mono ?_
  rintro e w18 ⟨rfl, hb18⟩
  have hk18 : Below w17.heap.size w17 w18 := hb18
  have g18_0 := heapKeep hk18 (by omega) g17_0
  have g18_1 := heapKeep hk18 (by omega) g17_1
  have g18_2 := heapKeep hk18 (by omega) g17_2
  have g18_3 := heapKeep hk18 (by omega) g17_3
  have g18_4 := heapKeep hk18 (by omega) g17_4
  have g18_5 := heapKeep hk18 (by omega) g17_5
  have g18_6 := heapKeep hk18 (by omega) g17_6
  have g18_7 := heapKeep hk18 (by omega) g17_7
  have g18_8 := heapKeep hk18 (by omega) g17_8
  have g18_9 := heapKeep hk18 (by omega) g17_9
  have g18_10 := heapKeep hk18 (by omega) g17_10
  have g18_11 := heapKeep hk18 (by omega) g17_11
  clear g17_0 g17_1 g17_2 g17_3 g17_4 g17_5 g17_6 g17_7 g17_8 g17_9 g17_10 g17_11 r17_0_0 r17_0_1
  have hz1_2_3_4_5_6_7_8_9_10_11_12_13_14_15_16_17_18 := Nat.lt_of_lt_of_le hz1_2_3_4_5_6_7_8_9_10_11_12_13_14_15_16_17 hk18.size
  have hy1_2_3_4_5_6_7_8_9_10_11_12_13_14_15_16_17_18 := Nat.lt_of_lt_of_le hy1_2_3_4_5_6_7_8_9_10_11_12_13_14_15_16_17 hk18.size
  have hx1_2_3_4_5_6_7_8_9_10_11_12_13_14_15_16_17_18 := Nat.lt_of_lt_of_le hx1_2_3_4_5_6_7_8_9_10_11_12_13_14_15_16_17 hk18.size
  have hz2_3_4_5_6_7_8_9_10_11_12_13_14_15_16_17_18 := Nat.lt_of_lt_of_le hz2_3_4_5_6_7_8_9_10_11_12_13_14_15_16_17 hk18.size
  have hz3_4_5_6_7_8_9_10_11_12_13_14_15_16_17_18 := Nat.lt_of_lt_of_le hz3_4_5_6_7_8_9_10_11_12_13_14_15_16_17 hk18.size
  have hz4_5_6_7_8_9_10_11_12_13_14_15_16_17_18 := Nat.lt_of_lt_of_le hz4_5_6_7_8_9_10_11_12_13_14_15_16_17 hk18.size
  have hz7_8_9_10_11_12_13_14_15_16_17_18 := Nat.lt_of_lt_of_le hz7_8_9_10_11_12_13_14_15_16_17 hk18.size
  have hz8_9_10_11_12_13_14_15_16_17_18 := Nat.lt_of_lt_of_le hz8_9_10_11_12_13_14_15_16_17 hk18.size
  have hz9_10_11_12_13_14_15_16_17_18 := Nat.lt_of_lt_of_le hz9_10_11_12_13_14_15_16_17 hk18.size
  have hz10_11_12_13_14_15_16_17_18 := Nat.lt_of_lt_of_le hz10_11_12_13_14_15_16_17 hk18.size
  have hz11_12_13_14_15_16_17_18 := Nat.lt_of_lt_of_le hz11_12_13_14_15_16_17 hk18.size
  have hz15_16_17_18 := Nat.lt_of_lt_of_le hz15_16_17 hk18.size
  clear hz1_2_3_4_5_6_7_8_9_10_11_12_13_14_15_16_17 hy1_2_3_4_5_6_7_8_9_10_11_12_13_14_15_16_17 hx1_2_3_4_5_6_7_8_9_10_11_12_13_14_15_16_17 hz2_3_4_5_6_7_8_9_10_11_12_13_14_15_16_17 hz3_4_5_6_7_8_9_10_11_12_13_14_15_16_17 hz4_5_6_7_8_9_10_11_12_13_14_15_16_17 hz7_8_9_10_11_12_13_14_15_16_17 hz8_9_10_11_12_13_14_15_16_17 hz9_10_11_12_13_14_15_16_17 hz10_11_12_13_14_15_16_17 hz11_12_13_14_15_16_17 hz15_16_17
  have hB18 : Below w.heap.size w w18 := hB17.trans (hk18.mono hB17.size)
  clear hb18 hk18 hB17
  go_wp2_with fail
  go_ret
  exact ⟨rfl, hB18⟩

end Go.Proofs.Ytnaphpgbmjpicaa
