/- The walk of AmountBack, part 3 of 4 (its cases) -/
import Derived.Test.YtnaphpgbmjpicaaQ
import Derived.Test.YtnaphpgbmjpicaaU
namespace Go.Proofs.Ytnaphpgbmjpicaa
open Go.ChangeShapes Go.WideShapes Go.ChangeAt Go.RowKit

attribute [local go_sem] eqIn26 eqG26 eqSame38 eqG38

set_option maxRecDepth 100000 in
set_option maxHeartbeats 4000000 in
theorem back_FFT0 (a0 a1 b0 b1 c0 c1 s0 s1 e t0 t1 f x0 x1 y g2 q0 q1 h2 p0 p1 p2 p3 p4 p5 p6 p7 p8 p9 p10 p11 p12 p13 : Int) (HA : Hid (∀ w, Calls Try.prog 21 #[.agg #[.int .i64 a0, .int .i64 a1], .agg #[.int .i64 b0, .int .i64 b1]] w fun e' w' => e' = .returned (.tuple #[.agg #[.int .i64 s0, .int .i64 s1], .int .i64 e]) ∧ Below w.heap.size w w')) (HB : Hid (∀ w, Calls Try.prog 21 #[.agg #[.int .i64 b0, .int .i64 b1], .agg #[.int .i64 a0, .int .i64 a1]] w fun e' w' => e' = .returned (.tuple #[.agg #[.int .i64 t0, .int .i64 t1], .int .i64 f]) ∧ Below w.heap.size w w')) (k1 : (s0 == t0) = true) (k2 : (s1 == t1) = true) (k3 : (e == 0) = false) (k4 : (f == 0) = false) (HI : Hid (∀ w, Calls Try.prog 29 #[.agg #[.int .i64 a0, .int .i64 a1]] w fun e' w' => e' = .returned (.tuple #[.agg #[.int .u8 p0, .int .u8 p1, .int .u8 p2, .int .u8 p3, .int .u8 p4, .int .u8 p5, .int .u8 p6, .int .u8 p7, .int .u8 p8, .int .u8 p9, .int .u8 p10, .int .u8 p11, .int .u8 p12, .int .u8 p13], .int .i64 g2]) ∧ Below w.heap.size w w')) (HJ : Hid (∀ w, Calls Try.prog 31 #[.agg #[.int .u8 p0, .int .u8 p1, .int .u8 p2, .int .u8 p3, .int .u8 p4, .int .u8 p5, .int .u8 p6, .int .u8 p7, .int .u8 p8, .int .u8 p9, .int .u8 p10, .int .u8 p11, .int .u8 p12, .int .u8 p13]] w fun e' w' => e' = .returned (.tuple #[.agg #[.int .i64 q0, .int .i64 q1], .int .i64 h2]) ∧ Below w.heap.size w w')) (k12 : (g2 != 0) = false) (k13 : (g2 == 0) = true) (k14 : (h2 == 0) = true) (k15 : (q0 == a0) = true) (k16 : (q1 == a1) = true) (HK : Hid (∀ w, Calls Try.prog 20 #[.agg #[.int .i64 a0, .int .i64 a1], .agg #[.int .i64 b0, .int .i64 b1]] w fun e' w' => e' = .returned (.bool false) ∧ Below w.heap.size w w')) (HN : Hid (∀ w, Calls Try.prog 23 #[.agg #[.int .i64 b0, .int .i64 b1], .agg #[.int .i64 a0, .int .i64 a1]] w fun e' w' => e' = .returned (.tuple #[.agg #[.int .i64 x0, .int .i64 x1], .int .i64 y]) ∧ Below w.heap.size w w')) (k17 : (y == 0) = false) (k18 : (y != 0) = true) (HP : Hid (∀ w, Calls Try.prog 20 #[.agg #[.int .i64 a0, .int .i64 a1], .agg #[.int .i64 a0, .int .i64 a1]] w fun e' w' => e' = .returned (.bool true) ∧ Below w.heap.size w w')) (w : World) : Calls Try.prog 9 #[.agg #[.int .i64 a0, .int .i64 a1], .agg #[.int .i64 b0, .int .i64 b1], .agg #[.int .i64 c0, .int .i64 c1]] w fun e' w' => e' = .returned (.bool true) ∧ Below w.heap.size w w' := by
  go_enter Try.func9, Try.ntmps9
  go_wp2_with fail
  refine (HA.out _).mono ?_
  rintro e w1 ⟨rfl, hb1⟩
  obtain ⟨x1, y1, z1⟩ := heap3 hb1
  have hz1 : w.heap.size + 1 + 1 < w1.heap.size := by have := hb1.size; simp at this; omega
  have hy1 : w.heap.size + 1 < w1.heap.size := by omega
  have hx1 : w.heap.size < w1.heap.size := by omega
  have hk1 : Below w.heap.size w w1 := base3 hb1
  have hB1 : Below w.heap.size w w1 := hk1
  clear hb1 hk1
  obtain ⟨r1_0_0, r1_0_1⟩ := cells2h x1
  obtain ⟨r1_1_0, r1_1_1⟩ := cells2h y1
  go_wp2_with fail
  refine (HB.out _).mono ?_
  rintro e w2 ⟨rfl, hb2⟩
  have x2 := heap1 hb2
  have hk2 : Below w1.heap.size w1 w2 := below1 hb2
  have hz2 : w1.heap.size < w2.heap.size := by have := hb2.size; simp at this; omega
  have g2_0 := heapKeep hk2 (by omega) x1
  have g2_1 := heapKeep hk2 (by omega) y1
  have g2_2 := heapKeep hk2 (by omega) z1
  clear x1 y1 z1 r1_0_0 r1_0_1 r1_1_0 r1_1_1
  have hz1_2 := Nat.lt_of_lt_of_le hz1 hk2.size
  have hy1_2 := Nat.lt_of_lt_of_le hy1 hk2.size
  have hx1_2 := Nat.lt_of_lt_of_le hx1 hk2.size
  clear hz1 hy1 hx1
  have hB2 : Below w.heap.size w w2 := hB1.trans (hk2.mono hB1.size)
  clear hb2 hk2 hB1
  obtain ⟨r2_0_0, r2_0_1⟩ := cells2h g2_0
  obtain ⟨r2_3_0, r2_3_1⟩ := cells2h x2
  go_wp2_with fail
  refine (HI.out _).mono ?_
  rintro e w3 ⟨rfl, hb3⟩
  have x3 := heap1 hb3
  have hk3 : Below w2.heap.size w2 w3 := below1 hb3
  have hz3 : w2.heap.size < w3.heap.size := by have := hb3.size; simp at this; omega
  have g3_0 := heapKeep hk3 (by omega) g2_0
  have g3_1 := heapKeep hk3 (by omega) g2_1
  have g3_2 := heapKeep hk3 (by omega) g2_2
  have g3_3 := heapKeep hk3 (by omega) x2
  clear g2_0 g2_1 g2_2 x2 r2_0_0 r2_0_1 r2_3_0 r2_3_1
  have hz1_2_3 := Nat.lt_of_lt_of_le hz1_2 hk3.size
  have hy1_2_3 := Nat.lt_of_lt_of_le hy1_2 hk3.size
  have hx1_2_3 := Nat.lt_of_lt_of_le hx1_2 hk3.size
  have hz2_3 := Nat.lt_of_lt_of_le hz2 hk3.size
  clear hz1_2 hy1_2 hx1_2 hz2
  have hB3 : Below w.heap.size w w3 := hB2.trans (hk3.mono hB2.size)
  clear hb3 hk3 hB2
  go_wp2_with fail
  refine (HJ.out _).mono ?_
  rintro e w4 ⟨rfl, hb4⟩
  have x4 := heap1 hb4
  have hk4 : Below w3.heap.size w3 w4 := below1 hb4
  have hz4 : w3.heap.size < w4.heap.size := by have := hb4.size; simp at this; omega
  have g4_0 := heapKeep hk4 (by omega) g3_0
  have g4_1 := heapKeep hk4 (by omega) g3_1
  have g4_2 := heapKeep hk4 (by omega) g3_2
  have g4_3 := heapKeep hk4 (by omega) g3_3
  have g4_4 := heapKeep hk4 (by omega) x3
  clear g3_0 g3_1 g3_2 g3_3 x3
  have hz1_2_3_4 := Nat.lt_of_lt_of_le hz1_2_3 hk4.size
  have hy1_2_3_4 := Nat.lt_of_lt_of_le hy1_2_3 hk4.size
  have hx1_2_3_4 := Nat.lt_of_lt_of_le hx1_2_3 hk4.size
  have hz2_3_4 := Nat.lt_of_lt_of_le hz2_3 hk4.size
  have hz3_4 := Nat.lt_of_lt_of_le hz3 hk4.size
  clear hz1_2_3 hy1_2_3 hx1_2_3 hz2_3 hz3
  have hB4 : Below w.heap.size w w4 := hB3.trans (hk4.mono hB3.size)
  clear hb4 hk4 hB3
  obtain ⟨r4_0_0, r4_0_1⟩ := cells2h g4_0
  obtain ⟨r4_1_0, r4_1_1⟩ := cells2h g4_1
  go_wp2_with fail
  refine (HK.out _).mono ?_
  rintro e w5 ⟨rfl, hb5⟩
  have x5 := heap1 hb5
  have hk5 : Below w4.heap.size w4 w5 := below1 hb5
  have hz5 : w4.heap.size < w5.heap.size := by have := hb5.size; simp at this; omega
  have g5_0 := heapKeep hk5 (by omega) g4_0
  have g5_1 := heapKeep hk5 (by omega) g4_1
  have g5_2 := heapKeep hk5 (by omega) g4_2
  have g5_3 := heapKeep hk5 (by omega) g4_3
  have g5_4 := heapKeep hk5 (by omega) g4_4
  have g5_5 := heapKeep hk5 (by omega) x4
  clear g4_0 g4_1 g4_2 g4_3 g4_4 x4 r4_0_0 r4_0_1 r4_1_0 r4_1_1
  have hz1_2_3_4_5 := Nat.lt_of_lt_of_le hz1_2_3_4 hk5.size
  have hy1_2_3_4_5 := Nat.lt_of_lt_of_le hy1_2_3_4 hk5.size
  have hx1_2_3_4_5 := Nat.lt_of_lt_of_le hx1_2_3_4 hk5.size
  have hz2_3_4_5 := Nat.lt_of_lt_of_le hz2_3_4 hk5.size
  have hz3_4_5 := Nat.lt_of_lt_of_le hz3_4 hk5.size
  have hz4_5 := Nat.lt_of_lt_of_le hz4 hk5.size
  clear hz1_2_3_4 hy1_2_3_4 hx1_2_3_4 hz2_3_4 hz3_4 hz4
  have hB5 : Below w.heap.size w w5 := hB4.trans (hk5.mono hB4.size)
  clear hb5 hk5 hB4
  obtain ⟨r5_0_0, r5_0_1⟩ := cells2h g5_0
  obtain ⟨r5_1_0, r5_1_1⟩ := cells2h g5_1
  go_wp2_with fail
  refine (HN.out _).mono ?_
  rintro e w6 ⟨rfl, hb6⟩
  have hk6 : Below w5.heap.size w5 w6 := hb6
  have g6_0 := heapKeep hk6 (by omega) g5_0
  have g6_1 := heapKeep hk6 (by omega) g5_1
  have g6_2 := heapKeep hk6 (by omega) g5_2
  have g6_3 := heapKeep hk6 (by omega) g5_3
  have g6_4 := heapKeep hk6 (by omega) g5_4
  have g6_5 := heapKeep hk6 (by omega) g5_5
  have g6_6 := heapKeep hk6 (by omega) x5
  clear g5_0 g5_1 g5_2 g5_3 g5_4 g5_5 x5 r5_0_0 r5_0_1 r5_1_0 r5_1_1
  have hz1_2_3_4_5_6 := Nat.lt_of_lt_of_le hz1_2_3_4_5 hk6.size
  have hy1_2_3_4_5_6 := Nat.lt_of_lt_of_le hy1_2_3_4_5 hk6.size
  have hx1_2_3_4_5_6 := Nat.lt_of_lt_of_le hx1_2_3_4_5 hk6.size
  have hz2_3_4_5_6 := Nat.lt_of_lt_of_le hz2_3_4_5 hk6.size
  have hz3_4_5_6 := Nat.lt_of_lt_of_le hz3_4_5 hk6.size
  have hz4_5_6 := Nat.lt_of_lt_of_le hz4_5 hk6.size
  have hz5_6 := Nat.lt_of_lt_of_le hz5 hk6.size
  clear hz1_2_3_4_5 hy1_2_3_4_5 hx1_2_3_4_5 hz2_3_4_5 hz3_4_5 hz4_5 hz5
  have hB6 : Below w.heap.size w w6 := hB5.trans (hk6.mono hB5.size)
  clear hb6 hk6 hB5
  obtain ⟨r6_0_0, r6_0_1⟩ := cells2h g6_0
  obtain ⟨r6_1_0, r6_1_1⟩ := cells2h g6_1
  go_wp2_with fail
  refine (HK.out _).mono ?_
  rintro e w7 ⟨rfl, hb7⟩
  have x7 := heap1 hb7
  have hk7 : Below w6.heap.size w6 w7 := below1 hb7
  have hz7 : w6.heap.size < w7.heap.size := by have := hb7.size; simp at this; omega
  have g7_0 := heapKeep hk7 (by omega) g6_0
  have g7_1 := heapKeep hk7 (by omega) g6_1
  have g7_2 := heapKeep hk7 (by omega) g6_2
  have g7_3 := heapKeep hk7 (by omega) g6_3
  have g7_4 := heapKeep hk7 (by omega) g6_4
  have g7_5 := heapKeep hk7 (by omega) g6_5
  have g7_6 := heapKeep hk7 (by omega) g6_6
  clear g6_0 g6_1 g6_2 g6_3 g6_4 g6_5 g6_6 r6_0_0 r6_0_1 r6_1_0 r6_1_1
  have hz1_2_3_4_5_6_7 := Nat.lt_of_lt_of_le hz1_2_3_4_5_6 hk7.size
  have hy1_2_3_4_5_6_7 := Nat.lt_of_lt_of_le hy1_2_3_4_5_6 hk7.size
  have hx1_2_3_4_5_6_7 := Nat.lt_of_lt_of_le hx1_2_3_4_5_6 hk7.size
  have hz2_3_4_5_6_7 := Nat.lt_of_lt_of_le hz2_3_4_5_6 hk7.size
  have hz3_4_5_6_7 := Nat.lt_of_lt_of_le hz3_4_5_6 hk7.size
  have hz4_5_6_7 := Nat.lt_of_lt_of_le hz4_5_6 hk7.size
  have hz5_6_7 := Nat.lt_of_lt_of_le hz5_6 hk7.size
  clear hz1_2_3_4_5_6 hy1_2_3_4_5_6 hx1_2_3_4_5_6 hz2_3_4_5_6 hz3_4_5_6 hz4_5_6 hz5_6
  have hB7 : Below w.heap.size w w7 := hB6.trans (hk7.mono hB6.size)
  clear hb7 hk7 hB6
  go_wp2_with fail
  refine (live1_any _).mono ?_
  rintro e w8 ⟨rfl, hb8⟩
  have hk8 : Below w7.heap.size w7 w8 := hb8
  have g8_0 := heapKeep hk8 (by omega) g7_0
  have g8_1 := heapKeep hk8 (by omega) g7_1
  have g8_2 := heapKeep hk8 (by omega) g7_2
  have g8_3 := heapKeep hk8 (by omega) g7_3
  have g8_4 := heapKeep hk8 (by omega) g7_4
  have g8_5 := heapKeep hk8 (by omega) g7_5
  have g8_6 := heapKeep hk8 (by omega) g7_6
  have g8_7 := heapKeep hk8 (by omega) x7
  clear g7_0 g7_1 g7_2 g7_3 g7_4 g7_5 g7_6 x7
  have hz1_2_3_4_5_6_7_8 := Nat.lt_of_lt_of_le hz1_2_3_4_5_6_7 hk8.size
  have hy1_2_3_4_5_6_7_8 := Nat.lt_of_lt_of_le hy1_2_3_4_5_6_7 hk8.size
  have hx1_2_3_4_5_6_7_8 := Nat.lt_of_lt_of_le hx1_2_3_4_5_6_7 hk8.size
  have hz2_3_4_5_6_7_8 := Nat.lt_of_lt_of_le hz2_3_4_5_6_7 hk8.size
  have hz3_4_5_6_7_8 := Nat.lt_of_lt_of_le hz3_4_5_6_7 hk8.size
  have hz4_5_6_7_8 := Nat.lt_of_lt_of_le hz4_5_6_7 hk8.size
  have hz5_6_7_8 := Nat.lt_of_lt_of_le hz5_6_7 hk8.size
  have hz7_8 := Nat.lt_of_lt_of_le hz7 hk8.size
  clear hz1_2_3_4_5_6_7 hy1_2_3_4_5_6_7 hx1_2_3_4_5_6_7 hz2_3_4_5_6_7 hz3_4_5_6_7 hz4_5_6_7 hz5_6_7 hz7
  have hB8 : Below w.heap.size w w8 := hB7.trans (hk8.mono hB7.size)
  clear hb8 hk8 hB7
  obtain ⟨r8_0_0, r8_0_1⟩ := cells2h g8_0
  go_wp2_with fail
  refine (HP.out _).mono ?_
  rintro e w9 ⟨rfl, hb9⟩
  have hk9 : Below w8.heap.size w8 w9 := hb9
  have g9_0 := heapKeep hk9 (by omega) g8_0
  have g9_1 := heapKeep hk9 (by omega) g8_1
  have g9_2 := heapKeep hk9 (by omega) g8_2
  have g9_3 := heapKeep hk9 (by omega) g8_3
  have g9_4 := heapKeep hk9 (by omega) g8_4
  have g9_5 := heapKeep hk9 (by omega) g8_5
  have g9_6 := heapKeep hk9 (by omega) g8_6
  have g9_7 := heapKeep hk9 (by omega) g8_7
  clear g8_0 g8_1 g8_2 g8_3 g8_4 g8_5 g8_6 g8_7 r8_0_0 r8_0_1
  have hz1_2_3_4_5_6_7_8_9 := Nat.lt_of_lt_of_le hz1_2_3_4_5_6_7_8 hk9.size
  have hy1_2_3_4_5_6_7_8_9 := Nat.lt_of_lt_of_le hy1_2_3_4_5_6_7_8 hk9.size
  have hx1_2_3_4_5_6_7_8_9 := Nat.lt_of_lt_of_le hx1_2_3_4_5_6_7_8 hk9.size
  have hz2_3_4_5_6_7_8_9 := Nat.lt_of_lt_of_le hz2_3_4_5_6_7_8 hk9.size
  have hz3_4_5_6_7_8_9 := Nat.lt_of_lt_of_le hz3_4_5_6_7_8 hk9.size
  have hz4_5_6_7_8_9 := Nat.lt_of_lt_of_le hz4_5_6_7_8 hk9.size
  have hz5_6_7_8_9 := Nat.lt_of_lt_of_le hz5_6_7_8 hk9.size
  have hz7_8_9 := Nat.lt_of_lt_of_le hz7_8 hk9.size
  clear hz1_2_3_4_5_6_7_8 hy1_2_3_4_5_6_7_8 hx1_2_3_4_5_6_7_8 hz2_3_4_5_6_7_8 hz3_4_5_6_7_8 hz4_5_6_7_8 hz5_6_7_8 hz7_8
  have hB9 : Below w.heap.size w w9 := hB8.trans (hk9.mono hB8.size)
  clear hb9 hk9 hB8
  go_wp2_with fail
  go_ret
  exact ⟨rfl, hB9⟩

set_option maxRecDepth 100000 in
set_option maxHeartbeats 4000000 in
theorem back_FFT1 (a0 a1 b0 b1 c0 c1 s0 s1 e t0 t1 f x0 x1 y g2 q0 q1 h2 p0 p1 p2 p3 p4 p5 p6 p7 p8 p9 p10 p11 p12 p13 : Int) (HA : Hid (∀ w, Calls Try.prog 21 #[.agg #[.int .i64 a0, .int .i64 a1], .agg #[.int .i64 b0, .int .i64 b1]] w fun e' w' => e' = .returned (.tuple #[.agg #[.int .i64 s0, .int .i64 s1], .int .i64 e]) ∧ Below w.heap.size w w')) (HB : Hid (∀ w, Calls Try.prog 21 #[.agg #[.int .i64 b0, .int .i64 b1], .agg #[.int .i64 a0, .int .i64 a1]] w fun e' w' => e' = .returned (.tuple #[.agg #[.int .i64 t0, .int .i64 t1], .int .i64 f]) ∧ Below w.heap.size w w')) (k1 : (s0 == t0) = true) (k2 : (s1 == t1) = true) (k3 : (e == 0) = false) (k4 : (f == 0) = false) (HI : Hid (∀ w, Calls Try.prog 29 #[.agg #[.int .i64 a0, .int .i64 a1]] w fun e' w' => e' = .returned (.tuple #[.agg #[.int .u8 p0, .int .u8 p1, .int .u8 p2, .int .u8 p3, .int .u8 p4, .int .u8 p5, .int .u8 p6, .int .u8 p7, .int .u8 p8, .int .u8 p9, .int .u8 p10, .int .u8 p11, .int .u8 p12, .int .u8 p13], .int .i64 g2]) ∧ Below w.heap.size w w')) (HJ : Hid (∀ w, Calls Try.prog 31 #[.agg #[.int .u8 p0, .int .u8 p1, .int .u8 p2, .int .u8 p3, .int .u8 p4, .int .u8 p5, .int .u8 p6, .int .u8 p7, .int .u8 p8, .int .u8 p9, .int .u8 p10, .int .u8 p11, .int .u8 p12, .int .u8 p13]] w fun e' w' => e' = .returned (.tuple #[.agg #[.int .i64 q0, .int .i64 q1], .int .i64 h2]) ∧ Below w.heap.size w w')) (k12 : (g2 != 0) = false) (k13 : (g2 == 0) = true) (k14 : (h2 == 0) = true) (k15 : (q0 == a0) = true) (k16 : (q1 == a1) = true) (HK : Hid (∀ w, Calls Try.prog 20 #[.agg #[.int .i64 a0, .int .i64 a1], .agg #[.int .i64 b0, .int .i64 b1]] w fun e' w' => e' = .returned (.bool true) ∧ Below w.heap.size w w')) (HL : Hid (∀ w, Calls Try.prog 20 #[.agg #[.int .i64 b0, .int .i64 b1], .agg #[.int .i64 c0, .int .i64 c1]] w fun e' w' => e' = .returned (.bool false) ∧ Below w.heap.size w w')) (HN : Hid (∀ w, Calls Try.prog 23 #[.agg #[.int .i64 b0, .int .i64 b1], .agg #[.int .i64 a0, .int .i64 a1]] w fun e' w' => e' = .returned (.tuple #[.agg #[.int .i64 x0, .int .i64 x1], .int .i64 y]) ∧ Below w.heap.size w w')) (k17 : (y == 0) = true) (k18 : (y != 0) = false) (HO : Hid (∀ w, Calls Try.prog 20 #[.agg #[.int .i64 x0, .int .i64 x1], .agg #[.int .i64 b0, .int .i64 b1]] w fun e' w' => e' = .returned (.bool true) ∧ Below w.heap.size w w')) (HP : Hid (∀ w, Calls Try.prog 20 #[.agg #[.int .i64 a0, .int .i64 a1], .agg #[.int .i64 a0, .int .i64 a1]] w fun e' w' => e' = .returned (.bool true) ∧ Below w.heap.size w w')) (w : World) : Calls Try.prog 9 #[.agg #[.int .i64 a0, .int .i64 a1], .agg #[.int .i64 b0, .int .i64 b1], .agg #[.int .i64 c0, .int .i64 c1]] w fun e' w' => e' = .returned (.bool true) ∧ Below w.heap.size w w' := by
  go_enter Try.func9, Try.ntmps9
  go_wp2_with fail
  refine (HA.out _).mono ?_
  rintro e w1 ⟨rfl, hb1⟩
  obtain ⟨x1, y1, z1⟩ := heap3 hb1
  have hz1 : w.heap.size + 1 + 1 < w1.heap.size := by have := hb1.size; simp at this; omega
  have hy1 : w.heap.size + 1 < w1.heap.size := by omega
  have hx1 : w.heap.size < w1.heap.size := by omega
  have hk1 : Below w.heap.size w w1 := base3 hb1
  have hB1 : Below w.heap.size w w1 := hk1
  clear hb1 hk1
  obtain ⟨r1_0_0, r1_0_1⟩ := cells2h x1
  obtain ⟨r1_1_0, r1_1_1⟩ := cells2h y1
  go_wp2_with fail
  refine (HB.out _).mono ?_
  rintro e w2 ⟨rfl, hb2⟩
  have x2 := heap1 hb2
  have hk2 : Below w1.heap.size w1 w2 := below1 hb2
  have hz2 : w1.heap.size < w2.heap.size := by have := hb2.size; simp at this; omega
  have g2_0 := heapKeep hk2 (by omega) x1
  have g2_1 := heapKeep hk2 (by omega) y1
  have g2_2 := heapKeep hk2 (by omega) z1
  clear x1 y1 z1 r1_0_0 r1_0_1 r1_1_0 r1_1_1
  have hz1_2 := Nat.lt_of_lt_of_le hz1 hk2.size
  have hy1_2 := Nat.lt_of_lt_of_le hy1 hk2.size
  have hx1_2 := Nat.lt_of_lt_of_le hx1 hk2.size
  clear hz1 hy1 hx1
  have hB2 : Below w.heap.size w w2 := hB1.trans (hk2.mono hB1.size)
  clear hb2 hk2 hB1
  obtain ⟨r2_0_0, r2_0_1⟩ := cells2h g2_0
  obtain ⟨r2_3_0, r2_3_1⟩ := cells2h x2
  go_wp2_with fail
  refine (HI.out _).mono ?_
  rintro e w3 ⟨rfl, hb3⟩
  have x3 := heap1 hb3
  have hk3 : Below w2.heap.size w2 w3 := below1 hb3
  have hz3 : w2.heap.size < w3.heap.size := by have := hb3.size; simp at this; omega
  have g3_0 := heapKeep hk3 (by omega) g2_0
  have g3_1 := heapKeep hk3 (by omega) g2_1
  have g3_2 := heapKeep hk3 (by omega) g2_2
  have g3_3 := heapKeep hk3 (by omega) x2
  clear g2_0 g2_1 g2_2 x2 r2_0_0 r2_0_1 r2_3_0 r2_3_1
  have hz1_2_3 := Nat.lt_of_lt_of_le hz1_2 hk3.size
  have hy1_2_3 := Nat.lt_of_lt_of_le hy1_2 hk3.size
  have hx1_2_3 := Nat.lt_of_lt_of_le hx1_2 hk3.size
  have hz2_3 := Nat.lt_of_lt_of_le hz2 hk3.size
  clear hz1_2 hy1_2 hx1_2 hz2
  have hB3 : Below w.heap.size w w3 := hB2.trans (hk3.mono hB2.size)
  clear hb3 hk3 hB2
  go_wp2_with fail
  refine (HJ.out _).mono ?_
  rintro e w4 ⟨rfl, hb4⟩
  have x4 := heap1 hb4
  have hk4 : Below w3.heap.size w3 w4 := below1 hb4
  have hz4 : w3.heap.size < w4.heap.size := by have := hb4.size; simp at this; omega
  have g4_0 := heapKeep hk4 (by omega) g3_0
  have g4_1 := heapKeep hk4 (by omega) g3_1
  have g4_2 := heapKeep hk4 (by omega) g3_2
  have g4_3 := heapKeep hk4 (by omega) g3_3
  have g4_4 := heapKeep hk4 (by omega) x3
  clear g3_0 g3_1 g3_2 g3_3 x3
  have hz1_2_3_4 := Nat.lt_of_lt_of_le hz1_2_3 hk4.size
  have hy1_2_3_4 := Nat.lt_of_lt_of_le hy1_2_3 hk4.size
  have hx1_2_3_4 := Nat.lt_of_lt_of_le hx1_2_3 hk4.size
  have hz2_3_4 := Nat.lt_of_lt_of_le hz2_3 hk4.size
  have hz3_4 := Nat.lt_of_lt_of_le hz3 hk4.size
  clear hz1_2_3 hy1_2_3 hx1_2_3 hz2_3 hz3
  have hB4 : Below w.heap.size w w4 := hB3.trans (hk4.mono hB3.size)
  clear hb4 hk4 hB3
  obtain ⟨r4_0_0, r4_0_1⟩ := cells2h g4_0
  obtain ⟨r4_1_0, r4_1_1⟩ := cells2h g4_1
  go_wp2_with fail
  refine (HK.out _).mono ?_
  rintro e w5 ⟨rfl, hb5⟩
  have x5 := heap1 hb5
  have hk5 : Below w4.heap.size w4 w5 := below1 hb5
  have hz5 : w4.heap.size < w5.heap.size := by have := hb5.size; simp at this; omega
  have g5_0 := heapKeep hk5 (by omega) g4_0
  have g5_1 := heapKeep hk5 (by omega) g4_1
  have g5_2 := heapKeep hk5 (by omega) g4_2
  have g5_3 := heapKeep hk5 (by omega) g4_3
  have g5_4 := heapKeep hk5 (by omega) g4_4
  have g5_5 := heapKeep hk5 (by omega) x4
  clear g4_0 g4_1 g4_2 g4_3 g4_4 x4 r4_0_0 r4_0_1 r4_1_0 r4_1_1
  have hz1_2_3_4_5 := Nat.lt_of_lt_of_le hz1_2_3_4 hk5.size
  have hy1_2_3_4_5 := Nat.lt_of_lt_of_le hy1_2_3_4 hk5.size
  have hx1_2_3_4_5 := Nat.lt_of_lt_of_le hx1_2_3_4 hk5.size
  have hz2_3_4_5 := Nat.lt_of_lt_of_le hz2_3_4 hk5.size
  have hz3_4_5 := Nat.lt_of_lt_of_le hz3_4 hk5.size
  have hz4_5 := Nat.lt_of_lt_of_le hz4 hk5.size
  clear hz1_2_3_4 hy1_2_3_4 hx1_2_3_4 hz2_3_4 hz3_4 hz4
  have hB5 : Below w.heap.size w w5 := hB4.trans (hk5.mono hB4.size)
  clear hb5 hk5 hB4
  obtain ⟨r5_1_0, r5_1_1⟩ := cells2h g5_1
  obtain ⟨r5_2_0, r5_2_1⟩ := cells2h g5_2
  go_wp2_with fail
  refine (HL.out _).mono ?_
  rintro e w6 ⟨rfl, hb6⟩
  have hk6 : Below w5.heap.size w5 w6 := hb6
  have g6_0 := heapKeep hk6 (by omega) g5_0
  have g6_1 := heapKeep hk6 (by omega) g5_1
  have g6_2 := heapKeep hk6 (by omega) g5_2
  have g6_3 := heapKeep hk6 (by omega) g5_3
  have g6_4 := heapKeep hk6 (by omega) g5_4
  have g6_5 := heapKeep hk6 (by omega) g5_5
  have g6_6 := heapKeep hk6 (by omega) x5
  clear g5_0 g5_1 g5_2 g5_3 g5_4 g5_5 x5 r5_1_0 r5_1_1 r5_2_0 r5_2_1
  have hz1_2_3_4_5_6 := Nat.lt_of_lt_of_le hz1_2_3_4_5 hk6.size
  have hy1_2_3_4_5_6 := Nat.lt_of_lt_of_le hy1_2_3_4_5 hk6.size
  have hx1_2_3_4_5_6 := Nat.lt_of_lt_of_le hx1_2_3_4_5 hk6.size
  have hz2_3_4_5_6 := Nat.lt_of_lt_of_le hz2_3_4_5 hk6.size
  have hz3_4_5_6 := Nat.lt_of_lt_of_le hz3_4_5 hk6.size
  have hz4_5_6 := Nat.lt_of_lt_of_le hz4_5 hk6.size
  have hz5_6 := Nat.lt_of_lt_of_le hz5 hk6.size
  clear hz1_2_3_4_5 hy1_2_3_4_5 hx1_2_3_4_5 hz2_3_4_5 hz3_4_5 hz4_5 hz5
  have hB6 : Below w.heap.size w w6 := hB5.trans (hk6.mono hB5.size)
  clear hb6 hk6 hB5
  obtain ⟨r6_0_0, r6_0_1⟩ := cells2h g6_0
  obtain ⟨r6_1_0, r6_1_1⟩ := cells2h g6_1
  go_wp2_with fail
  refine (HN.out _).mono ?_
  rintro e w7 ⟨rfl, hb7⟩
  have hk7 : Below w6.heap.size w6 w7 := hb7
  have g7_0 := heapKeep hk7 (by omega) g6_0
  have g7_1 := heapKeep hk7 (by omega) g6_1
  have g7_2 := heapKeep hk7 (by omega) g6_2
  have g7_3 := heapKeep hk7 (by omega) g6_3
  have g7_4 := heapKeep hk7 (by omega) g6_4
  have g7_5 := heapKeep hk7 (by omega) g6_5
  have g7_6 := heapKeep hk7 (by omega) g6_6
  clear g6_0 g6_1 g6_2 g6_3 g6_4 g6_5 g6_6 r6_0_0 r6_0_1 r6_1_0 r6_1_1
  have hz1_2_3_4_5_6_7 := Nat.lt_of_lt_of_le hz1_2_3_4_5_6 hk7.size
  have hy1_2_3_4_5_6_7 := Nat.lt_of_lt_of_le hy1_2_3_4_5_6 hk7.size
  have hx1_2_3_4_5_6_7 := Nat.lt_of_lt_of_le hx1_2_3_4_5_6 hk7.size
  have hz2_3_4_5_6_7 := Nat.lt_of_lt_of_le hz2_3_4_5_6 hk7.size
  have hz3_4_5_6_7 := Nat.lt_of_lt_of_le hz3_4_5_6 hk7.size
  have hz4_5_6_7 := Nat.lt_of_lt_of_le hz4_5_6 hk7.size
  have hz5_6_7 := Nat.lt_of_lt_of_le hz5_6 hk7.size
  clear hz1_2_3_4_5_6 hy1_2_3_4_5_6 hx1_2_3_4_5_6 hz2_3_4_5_6 hz3_4_5_6 hz4_5_6 hz5_6
  have hB7 : Below w.heap.size w w7 := hB6.trans (hk7.mono hB6.size)
  clear hb7 hk7 hB6
  obtain ⟨r7_0_0, r7_0_1⟩ := cells2h g7_0
  obtain ⟨r7_1_0, r7_1_1⟩ := cells2h g7_1
  go_wp2_with fail
  refine (HK.out _).mono ?_
  rintro e w8 ⟨rfl, hb8⟩
  have x8 := heap1 hb8
  have hk8 : Below w7.heap.size w7 w8 := below1 hb8
  have hz8 : w7.heap.size < w8.heap.size := by have := hb8.size; simp at this; omega
  have g8_0 := heapKeep hk8 (by omega) g7_0
  have g8_1 := heapKeep hk8 (by omega) g7_1
  have g8_2 := heapKeep hk8 (by omega) g7_2
  have g8_3 := heapKeep hk8 (by omega) g7_3
  have g8_4 := heapKeep hk8 (by omega) g7_4
  have g8_5 := heapKeep hk8 (by omega) g7_5
  have g8_6 := heapKeep hk8 (by omega) g7_6
  clear g7_0 g7_1 g7_2 g7_3 g7_4 g7_5 g7_6 r7_0_0 r7_0_1 r7_1_0 r7_1_1
  have hz1_2_3_4_5_6_7_8 := Nat.lt_of_lt_of_le hz1_2_3_4_5_6_7 hk8.size
  have hy1_2_3_4_5_6_7_8 := Nat.lt_of_lt_of_le hy1_2_3_4_5_6_7 hk8.size
  have hx1_2_3_4_5_6_7_8 := Nat.lt_of_lt_of_le hx1_2_3_4_5_6_7 hk8.size
  have hz2_3_4_5_6_7_8 := Nat.lt_of_lt_of_le hz2_3_4_5_6_7 hk8.size
  have hz3_4_5_6_7_8 := Nat.lt_of_lt_of_le hz3_4_5_6_7 hk8.size
  have hz4_5_6_7_8 := Nat.lt_of_lt_of_le hz4_5_6_7 hk8.size
  have hz5_6_7_8 := Nat.lt_of_lt_of_le hz5_6_7 hk8.size
  clear hz1_2_3_4_5_6_7 hy1_2_3_4_5_6_7 hx1_2_3_4_5_6_7 hz2_3_4_5_6_7 hz3_4_5_6_7 hz4_5_6_7 hz5_6_7
  have hB8 : Below w.heap.size w w8 := hB7.trans (hk8.mono hB7.size)
  clear hb8 hk8 hB7
  obtain ⟨r8_1_0, r8_1_1⟩ := cells2h g8_1
  obtain ⟨r8_7_0, r8_7_1⟩ := cells2h x8
  go_wp2_with fail
  refine (HO.out _).mono ?_
  rintro e w9 ⟨rfl, hb9⟩
  have hk9 : Below w8.heap.size w8 w9 := hb9
  have g9_0 := heapKeep hk9 (by omega) g8_0
  have g9_1 := heapKeep hk9 (by omega) g8_1
  have g9_2 := heapKeep hk9 (by omega) g8_2
  have g9_3 := heapKeep hk9 (by omega) g8_3
  have g9_4 := heapKeep hk9 (by omega) g8_4
  have g9_5 := heapKeep hk9 (by omega) g8_5
  have g9_6 := heapKeep hk9 (by omega) g8_6
  have g9_7 := heapKeep hk9 (by omega) x8
  clear g8_0 g8_1 g8_2 g8_3 g8_4 g8_5 g8_6 x8 r8_1_0 r8_1_1 r8_7_0 r8_7_1
  have hz1_2_3_4_5_6_7_8_9 := Nat.lt_of_lt_of_le hz1_2_3_4_5_6_7_8 hk9.size
  have hy1_2_3_4_5_6_7_8_9 := Nat.lt_of_lt_of_le hy1_2_3_4_5_6_7_8 hk9.size
  have hx1_2_3_4_5_6_7_8_9 := Nat.lt_of_lt_of_le hx1_2_3_4_5_6_7_8 hk9.size
  have hz2_3_4_5_6_7_8_9 := Nat.lt_of_lt_of_le hz2_3_4_5_6_7_8 hk9.size
  have hz3_4_5_6_7_8_9 := Nat.lt_of_lt_of_le hz3_4_5_6_7_8 hk9.size
  have hz4_5_6_7_8_9 := Nat.lt_of_lt_of_le hz4_5_6_7_8 hk9.size
  have hz5_6_7_8_9 := Nat.lt_of_lt_of_le hz5_6_7_8 hk9.size
  have hz8_9 := Nat.lt_of_lt_of_le hz8 hk9.size
  clear hz1_2_3_4_5_6_7_8 hy1_2_3_4_5_6_7_8 hx1_2_3_4_5_6_7_8 hz2_3_4_5_6_7_8 hz3_4_5_6_7_8 hz4_5_6_7_8 hz5_6_7_8 hz8
  have hB9 : Below w.heap.size w w9 := hB8.trans (hk9.mono hB8.size)
  clear hb9 hk9 hB8
  go_wp2_with fail
  refine (live1_any _).mono ?_
  rintro e w10 ⟨rfl, hb10⟩
  have hk10 : Below w9.heap.size w9 w10 := hb10
  have g10_0 := heapKeep hk10 (by omega) g9_0
  have g10_1 := heapKeep hk10 (by omega) g9_1
  have g10_2 := heapKeep hk10 (by omega) g9_2
  have g10_3 := heapKeep hk10 (by omega) g9_3
  have g10_4 := heapKeep hk10 (by omega) g9_4
  have g10_5 := heapKeep hk10 (by omega) g9_5
  have g10_6 := heapKeep hk10 (by omega) g9_6
  have g10_7 := heapKeep hk10 (by omega) g9_7
  clear g9_0 g9_1 g9_2 g9_3 g9_4 g9_5 g9_6 g9_7
  have hz1_2_3_4_5_6_7_8_9_10 := Nat.lt_of_lt_of_le hz1_2_3_4_5_6_7_8_9 hk10.size
  have hy1_2_3_4_5_6_7_8_9_10 := Nat.lt_of_lt_of_le hy1_2_3_4_5_6_7_8_9 hk10.size
  have hx1_2_3_4_5_6_7_8_9_10 := Nat.lt_of_lt_of_le hx1_2_3_4_5_6_7_8_9 hk10.size
  have hz2_3_4_5_6_7_8_9_10 := Nat.lt_of_lt_of_le hz2_3_4_5_6_7_8_9 hk10.size
  have hz3_4_5_6_7_8_9_10 := Nat.lt_of_lt_of_le hz3_4_5_6_7_8_9 hk10.size
  have hz4_5_6_7_8_9_10 := Nat.lt_of_lt_of_le hz4_5_6_7_8_9 hk10.size
  have hz5_6_7_8_9_10 := Nat.lt_of_lt_of_le hz5_6_7_8_9 hk10.size
  have hz8_9_10 := Nat.lt_of_lt_of_le hz8_9 hk10.size
  clear hz1_2_3_4_5_6_7_8_9 hy1_2_3_4_5_6_7_8_9 hx1_2_3_4_5_6_7_8_9 hz2_3_4_5_6_7_8_9 hz3_4_5_6_7_8_9 hz4_5_6_7_8_9 hz5_6_7_8_9 hz8_9
  have hB10 : Below w.heap.size w w10 := hB9.trans (hk10.mono hB9.size)
  clear hb10 hk10 hB9
  obtain ⟨r10_0_0, r10_0_1⟩ := cells2h g10_0
  go_wp2_with fail
  refine (HP.out _).mono ?_
  rintro e w11 ⟨rfl, hb11⟩
  have hk11 : Below w10.heap.size w10 w11 := hb11
  have g11_0 := heapKeep hk11 (by omega) g10_0
  have g11_1 := heapKeep hk11 (by omega) g10_1
  have g11_2 := heapKeep hk11 (by omega) g10_2
  have g11_3 := heapKeep hk11 (by omega) g10_3
  have g11_4 := heapKeep hk11 (by omega) g10_4
  have g11_5 := heapKeep hk11 (by omega) g10_5
  have g11_6 := heapKeep hk11 (by omega) g10_6
  have g11_7 := heapKeep hk11 (by omega) g10_7
  clear g10_0 g10_1 g10_2 g10_3 g10_4 g10_5 g10_6 g10_7 r10_0_0 r10_0_1
  have hz1_2_3_4_5_6_7_8_9_10_11 := Nat.lt_of_lt_of_le hz1_2_3_4_5_6_7_8_9_10 hk11.size
  have hy1_2_3_4_5_6_7_8_9_10_11 := Nat.lt_of_lt_of_le hy1_2_3_4_5_6_7_8_9_10 hk11.size
  have hx1_2_3_4_5_6_7_8_9_10_11 := Nat.lt_of_lt_of_le hx1_2_3_4_5_6_7_8_9_10 hk11.size
  have hz2_3_4_5_6_7_8_9_10_11 := Nat.lt_of_lt_of_le hz2_3_4_5_6_7_8_9_10 hk11.size
  have hz3_4_5_6_7_8_9_10_11 := Nat.lt_of_lt_of_le hz3_4_5_6_7_8_9_10 hk11.size
  have hz4_5_6_7_8_9_10_11 := Nat.lt_of_lt_of_le hz4_5_6_7_8_9_10 hk11.size
  have hz5_6_7_8_9_10_11 := Nat.lt_of_lt_of_le hz5_6_7_8_9_10 hk11.size
  have hz8_9_10_11 := Nat.lt_of_lt_of_le hz8_9_10 hk11.size
  clear hz1_2_3_4_5_6_7_8_9_10 hy1_2_3_4_5_6_7_8_9_10 hx1_2_3_4_5_6_7_8_9_10 hz2_3_4_5_6_7_8_9_10 hz3_4_5_6_7_8_9_10 hz4_5_6_7_8_9_10 hz5_6_7_8_9_10 hz8_9_10
  have hB11 : Below w.heap.size w w11 := hB10.trans (hk11.mono hB10.size)
  clear hb11 hk11 hB10
  go_wp2_with fail
  go_ret
  exact ⟨rfl, hB11⟩

set_option maxRecDepth 100000 in
set_option maxHeartbeats 4000000 in
theorem back_FFT2 (a0 a1 b0 b1 c0 c1 s0 s1 e t0 t1 f x0 x1 y g2 q0 q1 h2 p0 p1 p2 p3 p4 p5 p6 p7 p8 p9 p10 p11 p12 p13 : Int) (HA : Hid (∀ w, Calls Try.prog 21 #[.agg #[.int .i64 a0, .int .i64 a1], .agg #[.int .i64 b0, .int .i64 b1]] w fun e' w' => e' = .returned (.tuple #[.agg #[.int .i64 s0, .int .i64 s1], .int .i64 e]) ∧ Below w.heap.size w w')) (HB : Hid (∀ w, Calls Try.prog 21 #[.agg #[.int .i64 b0, .int .i64 b1], .agg #[.int .i64 a0, .int .i64 a1]] w fun e' w' => e' = .returned (.tuple #[.agg #[.int .i64 t0, .int .i64 t1], .int .i64 f]) ∧ Below w.heap.size w w')) (k1 : (s0 == t0) = true) (k2 : (s1 == t1) = true) (k3 : (e == 0) = false) (k4 : (f == 0) = false) (HI : Hid (∀ w, Calls Try.prog 29 #[.agg #[.int .i64 a0, .int .i64 a1]] w fun e' w' => e' = .returned (.tuple #[.agg #[.int .u8 p0, .int .u8 p1, .int .u8 p2, .int .u8 p3, .int .u8 p4, .int .u8 p5, .int .u8 p6, .int .u8 p7, .int .u8 p8, .int .u8 p9, .int .u8 p10, .int .u8 p11, .int .u8 p12, .int .u8 p13], .int .i64 g2]) ∧ Below w.heap.size w w')) (HJ : Hid (∀ w, Calls Try.prog 31 #[.agg #[.int .u8 p0, .int .u8 p1, .int .u8 p2, .int .u8 p3, .int .u8 p4, .int .u8 p5, .int .u8 p6, .int .u8 p7, .int .u8 p8, .int .u8 p9, .int .u8 p10, .int .u8 p11, .int .u8 p12, .int .u8 p13]] w fun e' w' => e' = .returned (.tuple #[.agg #[.int .i64 q0, .int .i64 q1], .int .i64 h2]) ∧ Below w.heap.size w w')) (k12 : (g2 != 0) = false) (k13 : (g2 == 0) = true) (k14 : (h2 == 0) = true) (k15 : (q0 == a0) = true) (k16 : (q1 == a1) = true) (HK : Hid (∀ w, Calls Try.prog 20 #[.agg #[.int .i64 a0, .int .i64 a1], .agg #[.int .i64 b0, .int .i64 b1]] w fun e' w' => e' = .returned (.bool true) ∧ Below w.heap.size w w')) (HL : Hid (∀ w, Calls Try.prog 20 #[.agg #[.int .i64 b0, .int .i64 b1], .agg #[.int .i64 c0, .int .i64 c1]] w fun e' w' => e' = .returned (.bool true) ∧ Below w.heap.size w w')) (HM : Hid (∀ w, Calls Try.prog 20 #[.agg #[.int .i64 a0, .int .i64 a1], .agg #[.int .i64 c0, .int .i64 c1]] w fun e' w' => e' = .returned (.bool true) ∧ Below w.heap.size w w')) (HN : Hid (∀ w, Calls Try.prog 23 #[.agg #[.int .i64 b0, .int .i64 b1], .agg #[.int .i64 a0, .int .i64 a1]] w fun e' w' => e' = .returned (.tuple #[.agg #[.int .i64 x0, .int .i64 x1], .int .i64 y]) ∧ Below w.heap.size w w')) (k17 : (y == 0) = true) (k18 : (y != 0) = false) (HO : Hid (∀ w, Calls Try.prog 20 #[.agg #[.int .i64 x0, .int .i64 x1], .agg #[.int .i64 b0, .int .i64 b1]] w fun e' w' => e' = .returned (.bool true) ∧ Below w.heap.size w w')) (HP : Hid (∀ w, Calls Try.prog 20 #[.agg #[.int .i64 a0, .int .i64 a1], .agg #[.int .i64 a0, .int .i64 a1]] w fun e' w' => e' = .returned (.bool true) ∧ Below w.heap.size w w')) (w : World) : Calls Try.prog 9 #[.agg #[.int .i64 a0, .int .i64 a1], .agg #[.int .i64 b0, .int .i64 b1], .agg #[.int .i64 c0, .int .i64 c1]] w fun e' w' => e' = .returned (.bool true) ∧ Below w.heap.size w w' := by
  go_enter Try.func9, Try.ntmps9
  go_wp2_with fail
  refine (HA.out _).mono ?_
  rintro e w1 ⟨rfl, hb1⟩
  obtain ⟨x1, y1, z1⟩ := heap3 hb1
  have hz1 : w.heap.size + 1 + 1 < w1.heap.size := by have := hb1.size; simp at this; omega
  have hy1 : w.heap.size + 1 < w1.heap.size := by omega
  have hx1 : w.heap.size < w1.heap.size := by omega
  have hk1 : Below w.heap.size w w1 := base3 hb1
  have hB1 : Below w.heap.size w w1 := hk1
  clear hb1 hk1
  obtain ⟨r1_0_0, r1_0_1⟩ := cells2h x1
  obtain ⟨r1_1_0, r1_1_1⟩ := cells2h y1
  go_wp2_with fail
  refine (HB.out _).mono ?_
  rintro e w2 ⟨rfl, hb2⟩
  have x2 := heap1 hb2
  have hk2 : Below w1.heap.size w1 w2 := below1 hb2
  have hz2 : w1.heap.size < w2.heap.size := by have := hb2.size; simp at this; omega
  have g2_0 := heapKeep hk2 (by omega) x1
  have g2_1 := heapKeep hk2 (by omega) y1
  have g2_2 := heapKeep hk2 (by omega) z1
  clear x1 y1 z1 r1_0_0 r1_0_1 r1_1_0 r1_1_1
  have hz1_2 := Nat.lt_of_lt_of_le hz1 hk2.size
  have hy1_2 := Nat.lt_of_lt_of_le hy1 hk2.size
  have hx1_2 := Nat.lt_of_lt_of_le hx1 hk2.size
  clear hz1 hy1 hx1
  have hB2 : Below w.heap.size w w2 := hB1.trans (hk2.mono hB1.size)
  clear hb2 hk2 hB1
  obtain ⟨r2_0_0, r2_0_1⟩ := cells2h g2_0
  obtain ⟨r2_3_0, r2_3_1⟩ := cells2h x2
  go_wp2_with fail
  refine (HI.out _).mono ?_
  rintro e w3 ⟨rfl, hb3⟩
  have x3 := heap1 hb3
  have hk3 : Below w2.heap.size w2 w3 := below1 hb3
  have hz3 : w2.heap.size < w3.heap.size := by have := hb3.size; simp at this; omega
  have g3_0 := heapKeep hk3 (by omega) g2_0
  have g3_1 := heapKeep hk3 (by omega) g2_1
  have g3_2 := heapKeep hk3 (by omega) g2_2
  have g3_3 := heapKeep hk3 (by omega) x2
  clear g2_0 g2_1 g2_2 x2 r2_0_0 r2_0_1 r2_3_0 r2_3_1
  have hz1_2_3 := Nat.lt_of_lt_of_le hz1_2 hk3.size
  have hy1_2_3 := Nat.lt_of_lt_of_le hy1_2 hk3.size
  have hx1_2_3 := Nat.lt_of_lt_of_le hx1_2 hk3.size
  have hz2_3 := Nat.lt_of_lt_of_le hz2 hk3.size
  clear hz1_2 hy1_2 hx1_2 hz2
  have hB3 : Below w.heap.size w w3 := hB2.trans (hk3.mono hB2.size)
  clear hb3 hk3 hB2
  go_wp2_with fail
  refine (HJ.out _).mono ?_
  rintro e w4 ⟨rfl, hb4⟩
  have x4 := heap1 hb4
  have hk4 : Below w3.heap.size w3 w4 := below1 hb4
  have hz4 : w3.heap.size < w4.heap.size := by have := hb4.size; simp at this; omega
  have g4_0 := heapKeep hk4 (by omega) g3_0
  have g4_1 := heapKeep hk4 (by omega) g3_1
  have g4_2 := heapKeep hk4 (by omega) g3_2
  have g4_3 := heapKeep hk4 (by omega) g3_3
  have g4_4 := heapKeep hk4 (by omega) x3
  clear g3_0 g3_1 g3_2 g3_3 x3
  have hz1_2_3_4 := Nat.lt_of_lt_of_le hz1_2_3 hk4.size
  have hy1_2_3_4 := Nat.lt_of_lt_of_le hy1_2_3 hk4.size
  have hx1_2_3_4 := Nat.lt_of_lt_of_le hx1_2_3 hk4.size
  have hz2_3_4 := Nat.lt_of_lt_of_le hz2_3 hk4.size
  have hz3_4 := Nat.lt_of_lt_of_le hz3 hk4.size
  clear hz1_2_3 hy1_2_3 hx1_2_3 hz2_3 hz3
  have hB4 : Below w.heap.size w w4 := hB3.trans (hk4.mono hB3.size)
  clear hb4 hk4 hB3
  obtain ⟨r4_0_0, r4_0_1⟩ := cells2h g4_0
  obtain ⟨r4_1_0, r4_1_1⟩ := cells2h g4_1
  go_wp2_with fail
  refine (HK.out _).mono ?_
  rintro e w5 ⟨rfl, hb5⟩
  have x5 := heap1 hb5
  have hk5 : Below w4.heap.size w4 w5 := below1 hb5
  have hz5 : w4.heap.size < w5.heap.size := by have := hb5.size; simp at this; omega
  have g5_0 := heapKeep hk5 (by omega) g4_0
  have g5_1 := heapKeep hk5 (by omega) g4_1
  have g5_2 := heapKeep hk5 (by omega) g4_2
  have g5_3 := heapKeep hk5 (by omega) g4_3
  have g5_4 := heapKeep hk5 (by omega) g4_4
  have g5_5 := heapKeep hk5 (by omega) x4
  clear g4_0 g4_1 g4_2 g4_3 g4_4 x4 r4_0_0 r4_0_1 r4_1_0 r4_1_1
  have hz1_2_3_4_5 := Nat.lt_of_lt_of_le hz1_2_3_4 hk5.size
  have hy1_2_3_4_5 := Nat.lt_of_lt_of_le hy1_2_3_4 hk5.size
  have hx1_2_3_4_5 := Nat.lt_of_lt_of_le hx1_2_3_4 hk5.size
  have hz2_3_4_5 := Nat.lt_of_lt_of_le hz2_3_4 hk5.size
  have hz3_4_5 := Nat.lt_of_lt_of_le hz3_4 hk5.size
  have hz4_5 := Nat.lt_of_lt_of_le hz4 hk5.size
  clear hz1_2_3_4 hy1_2_3_4 hx1_2_3_4 hz2_3_4 hz3_4 hz4
  have hB5 : Below w.heap.size w w5 := hB4.trans (hk5.mono hB4.size)
  clear hb5 hk5 hB4
  obtain ⟨r5_1_0, r5_1_1⟩ := cells2h g5_1
  obtain ⟨r5_2_0, r5_2_1⟩ := cells2h g5_2
  go_wp2_with fail
  refine (HL.out _).mono ?_
  rintro e w6 ⟨rfl, hb6⟩
  have hk6 : Below w5.heap.size w5 w6 := hb6
  have g6_0 := heapKeep hk6 (by omega) g5_0
  have g6_1 := heapKeep hk6 (by omega) g5_1
  have g6_2 := heapKeep hk6 (by omega) g5_2
  have g6_3 := heapKeep hk6 (by omega) g5_3
  have g6_4 := heapKeep hk6 (by omega) g5_4
  have g6_5 := heapKeep hk6 (by omega) g5_5
  have g6_6 := heapKeep hk6 (by omega) x5
  clear g5_0 g5_1 g5_2 g5_3 g5_4 g5_5 x5 r5_1_0 r5_1_1 r5_2_0 r5_2_1
  have hz1_2_3_4_5_6 := Nat.lt_of_lt_of_le hz1_2_3_4_5 hk6.size
  have hy1_2_3_4_5_6 := Nat.lt_of_lt_of_le hy1_2_3_4_5 hk6.size
  have hx1_2_3_4_5_6 := Nat.lt_of_lt_of_le hx1_2_3_4_5 hk6.size
  have hz2_3_4_5_6 := Nat.lt_of_lt_of_le hz2_3_4_5 hk6.size
  have hz3_4_5_6 := Nat.lt_of_lt_of_le hz3_4_5 hk6.size
  have hz4_5_6 := Nat.lt_of_lt_of_le hz4_5 hk6.size
  have hz5_6 := Nat.lt_of_lt_of_le hz5 hk6.size
  clear hz1_2_3_4_5 hy1_2_3_4_5 hx1_2_3_4_5 hz2_3_4_5 hz3_4_5 hz4_5 hz5
  have hB6 : Below w.heap.size w w6 := hB5.trans (hk6.mono hB5.size)
  clear hb6 hk6 hB5
  obtain ⟨r6_0_0, r6_0_1⟩ := cells2h g6_0
  obtain ⟨r6_2_0, r6_2_1⟩ := cells2h g6_2
  go_wp2_with fail
  refine (HM.out _).mono ?_
  rintro e w7 ⟨rfl, hb7⟩
  have hk7 : Below w6.heap.size w6 w7 := hb7
  have g7_0 := heapKeep hk7 (by omega) g6_0
  have g7_1 := heapKeep hk7 (by omega) g6_1
  have g7_2 := heapKeep hk7 (by omega) g6_2
  have g7_3 := heapKeep hk7 (by omega) g6_3
  have g7_4 := heapKeep hk7 (by omega) g6_4
  have g7_5 := heapKeep hk7 (by omega) g6_5
  have g7_6 := heapKeep hk7 (by omega) g6_6
  clear g6_0 g6_1 g6_2 g6_3 g6_4 g6_5 g6_6 r6_0_0 r6_0_1 r6_2_0 r6_2_1
  have hz1_2_3_4_5_6_7 := Nat.lt_of_lt_of_le hz1_2_3_4_5_6 hk7.size
  have hy1_2_3_4_5_6_7 := Nat.lt_of_lt_of_le hy1_2_3_4_5_6 hk7.size
  have hx1_2_3_4_5_6_7 := Nat.lt_of_lt_of_le hx1_2_3_4_5_6 hk7.size
  have hz2_3_4_5_6_7 := Nat.lt_of_lt_of_le hz2_3_4_5_6 hk7.size
  have hz3_4_5_6_7 := Nat.lt_of_lt_of_le hz3_4_5_6 hk7.size
  have hz4_5_6_7 := Nat.lt_of_lt_of_le hz4_5_6 hk7.size
  have hz5_6_7 := Nat.lt_of_lt_of_le hz5_6 hk7.size
  clear hz1_2_3_4_5_6 hy1_2_3_4_5_6 hx1_2_3_4_5_6 hz2_3_4_5_6 hz3_4_5_6 hz4_5_6 hz5_6
  have hB7 : Below w.heap.size w w7 := hB6.trans (hk7.mono hB6.size)
  clear hb7 hk7 hB6
  obtain ⟨r7_0_0, r7_0_1⟩ := cells2h g7_0
  obtain ⟨r7_1_0, r7_1_1⟩ := cells2h g7_1
  go_wp2_with fail
  refine (HN.out _).mono ?_
  rintro e w8 ⟨rfl, hb8⟩
  have hk8 : Below w7.heap.size w7 w8 := hb8
  have g8_0 := heapKeep hk8 (by omega) g7_0
  have g8_1 := heapKeep hk8 (by omega) g7_1
  have g8_2 := heapKeep hk8 (by omega) g7_2
  have g8_3 := heapKeep hk8 (by omega) g7_3
  have g8_4 := heapKeep hk8 (by omega) g7_4
  have g8_5 := heapKeep hk8 (by omega) g7_5
  have g8_6 := heapKeep hk8 (by omega) g7_6
  clear g7_0 g7_1 g7_2 g7_3 g7_4 g7_5 g7_6 r7_0_0 r7_0_1 r7_1_0 r7_1_1
  have hz1_2_3_4_5_6_7_8 := Nat.lt_of_lt_of_le hz1_2_3_4_5_6_7 hk8.size
  have hy1_2_3_4_5_6_7_8 := Nat.lt_of_lt_of_le hy1_2_3_4_5_6_7 hk8.size
  have hx1_2_3_4_5_6_7_8 := Nat.lt_of_lt_of_le hx1_2_3_4_5_6_7 hk8.size
  have hz2_3_4_5_6_7_8 := Nat.lt_of_lt_of_le hz2_3_4_5_6_7 hk8.size
  have hz3_4_5_6_7_8 := Nat.lt_of_lt_of_le hz3_4_5_6_7 hk8.size
  have hz4_5_6_7_8 := Nat.lt_of_lt_of_le hz4_5_6_7 hk8.size
  have hz5_6_7_8 := Nat.lt_of_lt_of_le hz5_6_7 hk8.size
  clear hz1_2_3_4_5_6_7 hy1_2_3_4_5_6_7 hx1_2_3_4_5_6_7 hz2_3_4_5_6_7 hz3_4_5_6_7 hz4_5_6_7 hz5_6_7
  have hB8 : Below w.heap.size w w8 := hB7.trans (hk8.mono hB7.size)
  clear hb8 hk8 hB7
  obtain ⟨r8_0_0, r8_0_1⟩ := cells2h g8_0
  obtain ⟨r8_1_0, r8_1_1⟩ := cells2h g8_1
  go_wp2_with fail
  refine (HK.out _).mono ?_
  rintro e w9 ⟨rfl, hb9⟩
  have x9 := heap1 hb9
  have hk9 : Below w8.heap.size w8 w9 := below1 hb9
  have hz9 : w8.heap.size < w9.heap.size := by have := hb9.size; simp at this; omega
  have g9_0 := heapKeep hk9 (by omega) g8_0
  have g9_1 := heapKeep hk9 (by omega) g8_1
  have g9_2 := heapKeep hk9 (by omega) g8_2
  have g9_3 := heapKeep hk9 (by omega) g8_3
  have g9_4 := heapKeep hk9 (by omega) g8_4
  have g9_5 := heapKeep hk9 (by omega) g8_5
  have g9_6 := heapKeep hk9 (by omega) g8_6
  clear g8_0 g8_1 g8_2 g8_3 g8_4 g8_5 g8_6 r8_0_0 r8_0_1 r8_1_0 r8_1_1
  have hz1_2_3_4_5_6_7_8_9 := Nat.lt_of_lt_of_le hz1_2_3_4_5_6_7_8 hk9.size
  have hy1_2_3_4_5_6_7_8_9 := Nat.lt_of_lt_of_le hy1_2_3_4_5_6_7_8 hk9.size
  have hx1_2_3_4_5_6_7_8_9 := Nat.lt_of_lt_of_le hx1_2_3_4_5_6_7_8 hk9.size
  have hz2_3_4_5_6_7_8_9 := Nat.lt_of_lt_of_le hz2_3_4_5_6_7_8 hk9.size
  have hz3_4_5_6_7_8_9 := Nat.lt_of_lt_of_le hz3_4_5_6_7_8 hk9.size
  have hz4_5_6_7_8_9 := Nat.lt_of_lt_of_le hz4_5_6_7_8 hk9.size
  have hz5_6_7_8_9 := Nat.lt_of_lt_of_le hz5_6_7_8 hk9.size
  clear hz1_2_3_4_5_6_7_8 hy1_2_3_4_5_6_7_8 hx1_2_3_4_5_6_7_8 hz2_3_4_5_6_7_8 hz3_4_5_6_7_8 hz4_5_6_7_8 hz5_6_7_8
  have hB9 : Below w.heap.size w w9 := hB8.trans (hk9.mono hB8.size)
  clear hb9 hk9 hB8
  obtain ⟨r9_1_0, r9_1_1⟩ := cells2h g9_1
  obtain ⟨r9_7_0, r9_7_1⟩ := cells2h x9
  go_wp2_with fail
  refine (HO.out _).mono ?_
  rintro e w10 ⟨rfl, hb10⟩
  have hk10 : Below w9.heap.size w9 w10 := hb10
  have g10_0 := heapKeep hk10 (by omega) g9_0
  have g10_1 := heapKeep hk10 (by omega) g9_1
  have g10_2 := heapKeep hk10 (by omega) g9_2
  have g10_3 := heapKeep hk10 (by omega) g9_3
  have g10_4 := heapKeep hk10 (by omega) g9_4
  have g10_5 := heapKeep hk10 (by omega) g9_5
  have g10_6 := heapKeep hk10 (by omega) g9_6
  have g10_7 := heapKeep hk10 (by omega) x9
  clear g9_0 g9_1 g9_2 g9_3 g9_4 g9_5 g9_6 x9 r9_1_0 r9_1_1 r9_7_0 r9_7_1
  have hz1_2_3_4_5_6_7_8_9_10 := Nat.lt_of_lt_of_le hz1_2_3_4_5_6_7_8_9 hk10.size
  have hy1_2_3_4_5_6_7_8_9_10 := Nat.lt_of_lt_of_le hy1_2_3_4_5_6_7_8_9 hk10.size
  have hx1_2_3_4_5_6_7_8_9_10 := Nat.lt_of_lt_of_le hx1_2_3_4_5_6_7_8_9 hk10.size
  have hz2_3_4_5_6_7_8_9_10 := Nat.lt_of_lt_of_le hz2_3_4_5_6_7_8_9 hk10.size
  have hz3_4_5_6_7_8_9_10 := Nat.lt_of_lt_of_le hz3_4_5_6_7_8_9 hk10.size
  have hz4_5_6_7_8_9_10 := Nat.lt_of_lt_of_le hz4_5_6_7_8_9 hk10.size
  have hz5_6_7_8_9_10 := Nat.lt_of_lt_of_le hz5_6_7_8_9 hk10.size
  have hz9_10 := Nat.lt_of_lt_of_le hz9 hk10.size
  clear hz1_2_3_4_5_6_7_8_9 hy1_2_3_4_5_6_7_8_9 hx1_2_3_4_5_6_7_8_9 hz2_3_4_5_6_7_8_9 hz3_4_5_6_7_8_9 hz4_5_6_7_8_9 hz5_6_7_8_9 hz9
  have hB10 : Below w.heap.size w w10 := hB9.trans (hk10.mono hB9.size)
  clear hb10 hk10 hB9
  go_wp2_with fail
  refine (live1_any _).mono ?_
  rintro e w11 ⟨rfl, hb11⟩
  have hk11 : Below w10.heap.size w10 w11 := hb11
  have g11_0 := heapKeep hk11 (by omega) g10_0
  have g11_1 := heapKeep hk11 (by omega) g10_1
  have g11_2 := heapKeep hk11 (by omega) g10_2
  have g11_3 := heapKeep hk11 (by omega) g10_3
  have g11_4 := heapKeep hk11 (by omega) g10_4
  have g11_5 := heapKeep hk11 (by omega) g10_5
  have g11_6 := heapKeep hk11 (by omega) g10_6
  have g11_7 := heapKeep hk11 (by omega) g10_7
  clear g10_0 g10_1 g10_2 g10_3 g10_4 g10_5 g10_6 g10_7
  have hz1_2_3_4_5_6_7_8_9_10_11 := Nat.lt_of_lt_of_le hz1_2_3_4_5_6_7_8_9_10 hk11.size
  have hy1_2_3_4_5_6_7_8_9_10_11 := Nat.lt_of_lt_of_le hy1_2_3_4_5_6_7_8_9_10 hk11.size
  have hx1_2_3_4_5_6_7_8_9_10_11 := Nat.lt_of_lt_of_le hx1_2_3_4_5_6_7_8_9_10 hk11.size
  have hz2_3_4_5_6_7_8_9_10_11 := Nat.lt_of_lt_of_le hz2_3_4_5_6_7_8_9_10 hk11.size
  have hz3_4_5_6_7_8_9_10_11 := Nat.lt_of_lt_of_le hz3_4_5_6_7_8_9_10 hk11.size
  have hz4_5_6_7_8_9_10_11 := Nat.lt_of_lt_of_le hz4_5_6_7_8_9_10 hk11.size
  have hz5_6_7_8_9_10_11 := Nat.lt_of_lt_of_le hz5_6_7_8_9_10 hk11.size
  have hz9_10_11 := Nat.lt_of_lt_of_le hz9_10 hk11.size
  clear hz1_2_3_4_5_6_7_8_9_10 hy1_2_3_4_5_6_7_8_9_10 hx1_2_3_4_5_6_7_8_9_10 hz2_3_4_5_6_7_8_9_10 hz3_4_5_6_7_8_9_10 hz4_5_6_7_8_9_10 hz5_6_7_8_9_10 hz9_10
  have hB11 : Below w.heap.size w w11 := hB10.trans (hk11.mono hB10.size)
  clear hb11 hk11 hB10
  obtain ⟨r11_0_0, r11_0_1⟩ := cells2h g11_0
  go_wp2_with fail
  refine (HP.out _).mono ?_
  rintro e w12 ⟨rfl, hb12⟩
  have hk12 : Below w11.heap.size w11 w12 := hb12
  have g12_0 := heapKeep hk12 (by omega) g11_0
  have g12_1 := heapKeep hk12 (by omega) g11_1
  have g12_2 := heapKeep hk12 (by omega) g11_2
  have g12_3 := heapKeep hk12 (by omega) g11_3
  have g12_4 := heapKeep hk12 (by omega) g11_4
  have g12_5 := heapKeep hk12 (by omega) g11_5
  have g12_6 := heapKeep hk12 (by omega) g11_6
  have g12_7 := heapKeep hk12 (by omega) g11_7
  clear g11_0 g11_1 g11_2 g11_3 g11_4 g11_5 g11_6 g11_7 r11_0_0 r11_0_1
  have hz1_2_3_4_5_6_7_8_9_10_11_12 := Nat.lt_of_lt_of_le hz1_2_3_4_5_6_7_8_9_10_11 hk12.size
  have hy1_2_3_4_5_6_7_8_9_10_11_12 := Nat.lt_of_lt_of_le hy1_2_3_4_5_6_7_8_9_10_11 hk12.size
  have hx1_2_3_4_5_6_7_8_9_10_11_12 := Nat.lt_of_lt_of_le hx1_2_3_4_5_6_7_8_9_10_11 hk12.size
  have hz2_3_4_5_6_7_8_9_10_11_12 := Nat.lt_of_lt_of_le hz2_3_4_5_6_7_8_9_10_11 hk12.size
  have hz3_4_5_6_7_8_9_10_11_12 := Nat.lt_of_lt_of_le hz3_4_5_6_7_8_9_10_11 hk12.size
  have hz4_5_6_7_8_9_10_11_12 := Nat.lt_of_lt_of_le hz4_5_6_7_8_9_10_11 hk12.size
  have hz5_6_7_8_9_10_11_12 := Nat.lt_of_lt_of_le hz5_6_7_8_9_10_11 hk12.size
  have hz9_10_11_12 := Nat.lt_of_lt_of_le hz9_10_11 hk12.size
  clear hz1_2_3_4_5_6_7_8_9_10_11 hy1_2_3_4_5_6_7_8_9_10_11 hx1_2_3_4_5_6_7_8_9_10_11 hz2_3_4_5_6_7_8_9_10_11 hz3_4_5_6_7_8_9_10_11 hz4_5_6_7_8_9_10_11 hz5_6_7_8_9_10_11 hz9_10_11
  have hB12 : Below w.heap.size w w12 := hB11.trans (hk12.mono hB11.size)
  clear hb12 hk12 hB11
  go_wp2_with fail
  go_ret
  exact ⟨rfl, hB12⟩

end Go.Proofs.Ytnaphpgbmjpicaa
