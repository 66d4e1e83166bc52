/- Contracts: the reference's Unpack; both at all bytes. -/
import Derived.Test.YtnaphpgbmjpicaaL
namespace Go.Proofs.Ytnaphpgbmjpicaa
open Go.RowKit

set_option maxRecDepth 100000 in
set_option maxHeartbeats 4000000 in
theorem runpack_core (b0 b1 b2 b3 b4 b5 b6 b7 b8 b9 b10 b11 b12 b13 m1 m2 m3 m4 m5 m6 n1 n2 n3 n4 n5 n6 : Int) (p0 : 0 ≤ b0) (q0 : b0 ≤ 255) (p1 : 0 ≤ b1) (q1 : b1 ≤ 255) (p2 : 0 ≤ b2) (q2 : b2 ≤ 255) (p3 : 0 ≤ b3) (q3 : b3 ≤ 255) (p4 : 0 ≤ b4) (q4 : b4 ≤ 255) (p5 : 0 ≤ b5) (q5 : b5 ≤ 255) (p6 : 0 ≤ b6) (q6 : b6 ≤ 255) (p7 : 0 ≤ b7) (q7 : b7 ≤ 255) (p8 : 0 ≤ b8) (q8 : b8 ≤ 255) (p9 : 0 ≤ b9) (q9 : b9 ≤ 255) (p10 : 0 ≤ b10) (q10 : b10 ≤ 255) (p11 : 0 ≤ b11) (q11 : b11 ≤ 255) (p12 : 0 ≤ b12) (q12 : b12 ≤ 255) (p13 : 0 ≤ b13) (q13 : b13 ≤ 255) (r1 : b6 * 256 + b5 = m1) (u1 : 0 ≤ m1) (v1 : m1 < 65536) (r2 : m1 * 256 + b4 = m2) (u2 : 0 ≤ m2) (v2 : m2 < 16777216) (r3 : m2 * 256 + b3 = m3) (u3 : 0 ≤ m3) (v3 : m3 < 4294967296) (r4 : m3 * 256 + b2 = m4) (u4 : 0 ≤ m4) (v4 : m4 < 1099511627776) (r5 : m4 * 256 + b1 = m5) (u5 : 0 ≤ m5) (v5 : m5 < 281474976710656) (r6 : m5 * 256 + b0 = m6) (u6 : 0 ≤ m6) (v6 : m6 < 72057594037927936) (z1 : b13 * 256 + b12 = n1) (x1 : 0 ≤ n1) (y1 : n1 < 65536) (z2 : n1 * 256 + b11 = n2) (x2 : 0 ≤ n2) (y2 : n2 < 16777216) (z3 : n2 * 256 + b10 = n3) (x3 : 0 ≤ n3) (y3 : n3 < 4294967296) (z4 : n3 * 256 + b9 = n4) (x4 : 0 ≤ n4) (y4 : n4 < 1099511627776) (z5 : n4 * 256 + b8 = n5) (x5 : 0 ≤ n5) (y5 : n5 < 281474976710656) (z6 : n5 * 256 + b7 = n6) (x6 : 0 ≤ n6) (y6 : n6 < 72057594037927936)  (w : World) : Calls Try.prog 32 #[.agg #[.int .u8 b0, .int .u8 b1, .int .u8 b2, .int .u8 b3, .int .u8 b4, .int .u8 b5, .int .u8 b6, .int .u8 b7, .int .u8 b8, .int .u8 b9, .int .u8 b10, .int .u8 b11, .int .u8 b12, .int .u8 b13]] w fun e w' => e = .returned (.tuple #[.agg #[.int .i64 (pairV m6 n6 m6), .int .i64 (pairV m6 n6 n6)], .int .i64 (chkAll m6 n6)]) ∧ Below w.heap.size w w' := by
  rcases h : (chkAll m6 n6 != 0) with _ | _
  · have H := Lib.hid (pairV_ok h)
    have H0 := Lib.hid (show chkAll m6 n6 = 0 by simpa using h)
    go_enter Try.func32, Try.ntmps32
    go_wp2
    refine wp_loop_rounds 3 ?_
    rw [rounds_succ]
    go_wp2
    refine wp_loop_rounds 8 ?_
    iterate 8 (rw [rounds_succ]; go_wp2)
    rw [rounds_succ]
    go_wp2
    refine wp_loop_rounds 8 ?_
    iterate 8 (rw [rounds_succ]; go_wp2)
    rw [rounds_succ]
    go_wp2_with fail
    refine (rcheckAll_any _ _ _).mono ?_
    rintro e w1 ⟨rfl, hb⟩
    have hB : Below w.heap.size w w1 := base3 hb
    obtain ⟨g1, g2, g3⟩ := heap3 hb
    have c0 : w1.cell? ⟨w.heap.size + 1, 0, none⟩ = some (.int .i64 0) := by simp [World.cell?, g2]
    have c1 : w1.cell? ⟨w.heap.size + 1, 1, none⟩ = some (.int .i64 0) := by simp [World.cell?, g2]
    have c2 : ∀ i, w1.frozen? ⟨w.heap.size + 1, i, none⟩ = false := fun i => by simp [World.frozen?, g2]
    have d0 : w1.cell? ⟨w.heap.size + 1 + 1, 0, none⟩ = some (.int .i64 m6) := by simp [World.cell?, g3]
    have d1 : w1.cell? ⟨w.heap.size + 1 + 1, 1, none⟩ = some (.int .i64 n6) := by simp [World.cell?, g3]
    clear g1 g2 g3 hb
    go_wp2
    refine bodyPost_ret (v := .tuple #[.agg #[.int .i64 (pairV m6 n6 m6), .int .i64 (pairV m6 n6 n6)], .int .i64 (chkAll m6 n6)]) (by rw [H.out, H.out, H0.out]; simp [results, Try.results32, go_sem, c0, c1]) rfl ⟨rfl, ?_⟩
    repeat (with_reducible refine Below.setCell ?_ (by first | omega | (simp; done) | (simp; omega)) _)
    exact hB
  · have H := Lib.hid (pairV_bad h)
    go_enter Try.func32, Try.ntmps32
    go_wp2
    refine wp_loop_rounds 3 ?_
    rw [rounds_succ]
    go_wp2
    refine wp_loop_rounds 8 ?_
    iterate 8 (rw [rounds_succ]; go_wp2)
    rw [rounds_succ]
    go_wp2
    refine wp_loop_rounds 8 ?_
    iterate 8 (rw [rounds_succ]; go_wp2)
    rw [rounds_succ]
    go_wp2_with fail
    refine (rcheckAll_any _ _ _).mono ?_
    rintro e w1 ⟨rfl, hb⟩
    have hB : Below w.heap.size w w1 := base3 hb
    obtain ⟨g1, g2, g3⟩ := heap3 hb
    have c0 : w1.cell? ⟨w.heap.size + 1, 0, none⟩ = some (.int .i64 0) := by simp [World.cell?, g2]
    have c1 : w1.cell? ⟨w.heap.size + 1, 1, none⟩ = some (.int .i64 0) := by simp [World.cell?, g2]
    have c2 : ∀ i, w1.frozen? ⟨w.heap.size + 1, i, none⟩ = false := fun i => by simp [World.frozen?, g2]
    have d0 : w1.cell? ⟨w.heap.size + 1 + 1, 0, none⟩ = some (.int .i64 m6) := by simp [World.cell?, g3]
    have d1 : w1.cell? ⟨w.heap.size + 1 + 1, 1, none⟩ = some (.int .i64 n6) := by simp [World.cell?, g3]
    clear g1 g2 g3 hb
    go_wp2
    refine bodyPost_ret (v := .tuple #[.agg #[.int .i64 (pairV m6 n6 m6), .int .i64 (pairV m6 n6 n6)], .int .i64 (chkAll m6 n6)]) (by rw [H.out, H.out]; simp [results, Try.results32, go_sem, c0, c1]) rfl ⟨rfl, ?_⟩
    repeat (with_reducible refine Below.setCell ?_ (by first | omega | (simp; done) | (simp; omega)) _)
    exact hB


/-- Seven bytes as a number, the least first. -/
def le7 (b0 b1 b2 b3 b4 b5 b6 : Int) : Int := b0 + b1 * 256 + b2 * 65536 + b3 * 16777216 + b4 * 4294967296 + b5 * 1099511627776 + b6 * 281474976710656

theorem or_nat (a b k : Nat) (ha : a < 2 ^ k) (hb : 2 ^ k * b + a < 9223372036854775808) : bits .or .i64 (a : Int) ((2 ^ k * b : Nat) : Int) = ((2 ^ k * b + a : Nat) : Int) := by
  have h1 : 2 ^ k * b < 9223372036854775808 := by omega
  have h2 : a < 9223372036854775808 := by omega
  have e1 : (BitVec.ofInt 64 (a : Int)) = BitVec.ofNat 64 a := BitVec.ofInt_natCast 64 a
  have e2 : (BitVec.ofInt 64 ((2 ^ k * b : Nat) : Int)) = BitVec.ofNat 64 (2 ^ k * b) := BitVec.ofInt_natCast 64 (2 ^ k * b)
  show IntKind.i64.wrap ((BitVec.ofInt 64 (a : Int) ||| BitVec.ofInt 64 ((2 ^ k * b : Nat) : Int)).toNat : Int) = _
  rw [e1, e2, BitVec.toNat_or, BitVec.toNat_ofNat, BitVec.toNat_ofNat, Nat.mod_eq_of_lt (by omega), Nat.mod_eq_of_lt (by omega), Nat.or_comm, ← Nat.two_pow_add_eq_or_of_lt ha]
  exact IntWalk.i64_in _ (by omega)
theorem or_int (a b : Int) (k : Nat) (P : Int) (hP : P = ((2 ^ k : Nat) : Int)) (h0 : 0 ≤ a) (ha : a < P) (hb0 : 0 ≤ b) (hb : b * P + a < 9223372036854775808) : bits .or .i64 a (b * P) = a + b * P := by
  subst hP
  obtain ⟨m, rfl⟩ := Int.eq_ofNat_of_zero_le h0
  obtain ⟨n, rfl⟩ := Int.eq_ofNat_of_zero_le hb0
  have e : (n : Int) * ((2 ^ k : Nat) : Int) = ((2 ^ k * n : Nat) : Int) := by rw [Int.mul_comm]; exact (Int.natCast_mul _ _).symm
  rw [e] at hb ⊢
  have := or_nat m n k (by omega) (by omega)
  rw [this, Int.natCast_add]
  exact Int.add_comm _ _

set_option maxHeartbeats 4000000 in
theorem unpack_any (b0 b1 b2 b3 b4 b5 b6 b7 b8 b9 b10 b11 b12 b13 : Int) (p0 : 0 ≤ b0) (q0 : b0 ≤ 255) (p1 : 0 ≤ b1) (q1 : b1 ≤ 255) (p2 : 0 ≤ b2) (q2 : b2 ≤ 255) (p3 : 0 ≤ b3) (q3 : b3 ≤ 255) (p4 : 0 ≤ b4) (q4 : b4 ≤ 255) (p5 : 0 ≤ b5) (q5 : b5 ≤ 255) (p6 : 0 ≤ b6) (q6 : b6 ≤ 255) (p7 : 0 ≤ b7) (q7 : b7 ≤ 255) (p8 : 0 ≤ b8) (q8 : b8 ≤ 255) (p9 : 0 ≤ b9) (q9 : b9 ≤ 255) (p10 : 0 ≤ b10) (q10 : b10 ≤ 255) (p11 : 0 ≤ b11) (q11 : b11 ≤ 255) (p12 : 0 ≤ b12) (q12 : b12 ≤ 255) (p13 : 0 ≤ b13) (q13 : b13 ≤ 255) (w : World) : Calls Try.prog 31 #[.agg #[.int .u8 b0, .int .u8 b1, .int .u8 b2, .int .u8 b3, .int .u8 b4, .int .u8 b5, .int .u8 b6, .int .u8 b7, .int .u8 b8, .int .u8 b9, .int .u8 b10, .int .u8 b11, .int .u8 b12, .int .u8 b13]] w fun e w' => e = .returned (.tuple #[.agg #[.int .i64 (pairV (le7 b0 b1 b2 b3 b4 b5 b6) (le7 b7 b8 b9 b10 b11 b12 b13) (le7 b0 b1 b2 b3 b4 b5 b6)), .int .i64 (pairV (le7 b0 b1 b2 b3 b4 b5 b6) (le7 b7 b8 b9 b10 b11 b12 b13) (le7 b7 b8 b9 b10 b11 b12 b13))], .int .i64 (chkAll (le7 b0 b1 b2 b3 b4 b5 b6) (le7 b7 b8 b9 b10 b11 b12 b13))]) ∧ Below w.heap.size w w' := by
  have hz : ∀ b : Int, 0 ≤ b → b ≤ 255 → bits .or .i64 0 b = b := fun b h1 h2 => by
    have := or_int 0 b 0 1 rfl (by omega) (by omega) h1 (by omega)
    rw [Int.mul_one, Int.zero_add] at this
    exact this
  exact unpack_core b0 b1 b2 b3 b4 b5 b6 b7 b8 b9 b10 b11 b12 b13 (b0 + b1 * 256) (b0 + b1 * 256 + b2 * 65536) (b0 + b1 * 256 + b2 * 65536 + b3 * 16777216) (b0 + b1 * 256 + b2 * 65536 + b3 * 16777216 + b4 * 4294967296) (b0 + b1 * 256 + b2 * 65536 + b3 * 16777216 + b4 * 4294967296 + b5 * 1099511627776) (b0 + b1 * 256 + b2 * 65536 + b3 * 16777216 + b4 * 4294967296 + b5 * 1099511627776 + b6 * 281474976710656) (b7 + b8 * 256) (b7 + b8 * 256 + b9 * 65536) (b7 + b8 * 256 + b9 * 65536 + b10 * 16777216) (b7 + b8 * 256 + b9 * 65536 + b10 * 16777216 + b11 * 4294967296) (b7 + b8 * 256 + b9 * 65536 + b10 * 16777216 + b11 * 4294967296 + b12 * 1099511627776) (b7 + b8 * 256 + b9 * 65536 + b10 * 16777216 + b11 * 4294967296 + b12 * 1099511627776 + b13 * 281474976710656) p0 q0 p1 q1 p2 q2 p3 q3 p4 q4 p5 q5 p6 q6 p7 q7 p8 q8 p9 q9 p10 q10 p11 q11 p12 q12 p13 q13
    (hz _ p0 q0) (or_int _ _ 8 _ rfl (by omega) (by omega) (by omega) (by omega)) (or_int _ _ 16 _ rfl (by omega) (by omega) (by omega) (by omega)) (or_int _ _ 24 _ rfl (by omega) (by omega) (by omega) (by omega)) (or_int _ _ 32 _ rfl (by omega) (by omega) (by omega) (by omega)) (or_int _ _ 40 _ rfl (by omega) (by omega) (by omega) (by omega)) (or_int _ _ 48 _ rfl (by omega) (by omega) (by omega) (by omega)) (hz _ p7 q7) (or_int _ _ 8 _ rfl (by omega) (by omega) (by omega) (by omega)) (or_int _ _ 16 _ rfl (by omega) (by omega) (by omega) (by omega)) (or_int _ _ 24 _ rfl (by omega) (by omega) (by omega) (by omega)) (or_int _ _ 32 _ rfl (by omega) (by omega) (by omega) (by omega)) (or_int _ _ 40 _ rfl (by omega) (by omega) (by omega) (by omega)) (or_int _ _ 48 _ rfl (by omega) (by omega) (by omega) (by omega)) w

set_option maxHeartbeats 4000000 in
theorem runpack_any (b0 b1 b2 b3 b4 b5 b6 b7 b8 b9 b10 b11 b12 b13 : Int) (p0 : 0 ≤ b0) (q0 : b0 ≤ 255) (p1 : 0 ≤ b1) (q1 : b1 ≤ 255) (p2 : 0 ≤ b2) (q2 : b2 ≤ 255) (p3 : 0 ≤ b3) (q3 : b3 ≤ 255) (p4 : 0 ≤ b4) (q4 : b4 ≤ 255) (p5 : 0 ≤ b5) (q5 : b5 ≤ 255) (p6 : 0 ≤ b6) (q6 : b6 ≤ 255) (p7 : 0 ≤ b7) (q7 : b7 ≤ 255) (p8 : 0 ≤ b8) (q8 : b8 ≤ 255) (p9 : 0 ≤ b9) (q9 : b9 ≤ 255) (p10 : 0 ≤ b10) (q10 : b10 ≤ 255) (p11 : 0 ≤ b11) (q11 : b11 ≤ 255) (p12 : 0 ≤ b12) (q12 : b12 ≤ 255) (p13 : 0 ≤ b13) (q13 : b13 ≤ 255) (w : World) : Calls Try.prog 32 #[.agg #[.int .u8 b0, .int .u8 b1, .int .u8 b2, .int .u8 b3, .int .u8 b4, .int .u8 b5, .int .u8 b6, .int .u8 b7, .int .u8 b8, .int .u8 b9, .int .u8 b10, .int .u8 b11, .int .u8 b12, .int .u8 b13]] w fun e w' => e = .returned (.tuple #[.agg #[.int .i64 (pairV (le7 b0 b1 b2 b3 b4 b5 b6) (le7 b7 b8 b9 b10 b11 b12 b13) (le7 b0 b1 b2 b3 b4 b5 b6)), .int .i64 (pairV (le7 b0 b1 b2 b3 b4 b5 b6) (le7 b7 b8 b9 b10 b11 b12 b13) (le7 b7 b8 b9 b10 b11 b12 b13))], .int .i64 (chkAll (le7 b0 b1 b2 b3 b4 b5 b6) (le7 b7 b8 b9 b10 b11 b12 b13))]) ∧ Below w.heap.size w w' := by
  have hA : (((((b6 * 256 + b5) * 256 + b4) * 256 + b3) * 256 + b2) * 256 + b1) * 256 + b0 = le7 b0 b1 b2 b3 b4 b5 b6 := by unfold le7; omega
  have hB : (((((b13 * 256 + b12) * 256 + b11) * 256 + b10) * 256 + b9) * 256 + b8) * 256 + b7 = le7 b7 b8 b9 b10 b11 b12 b13 := by unfold le7; omega
  rw [← hA, ← hB]
  exact runpack_core b0 b1 b2 b3 b4 b5 b6 b7 b8 b9 b10 b11 b12 b13 (b6 * 256 + b5) ((b6 * 256 + b5) * 256 + b4) (((b6 * 256 + b5) * 256 + b4) * 256 + b3) ((((b6 * 256 + b5) * 256 + b4) * 256 + b3) * 256 + b2) (((((b6 * 256 + b5) * 256 + b4) * 256 + b3) * 256 + b2) * 256 + b1) ((((((b6 * 256 + b5) * 256 + b4) * 256 + b3) * 256 + b2) * 256 + b1) * 256 + b0) (b13 * 256 + b12) ((b13 * 256 + b12) * 256 + b11) (((b13 * 256 + b12) * 256 + b11) * 256 + b10) ((((b13 * 256 + b12) * 256 + b11) * 256 + b10) * 256 + b9) (((((b13 * 256 + b12) * 256 + b11) * 256 + b10) * 256 + b9) * 256 + b8) ((((((b13 * 256 + b12) * 256 + b11) * 256 + b10) * 256 + b9) * 256 + b8) * 256 + b7) p0 q0 p1 q1 p2 q2 p3 q3 p4 q4 p5 q5 p6 q6 p7 q7 p8 q8 p9 q9 p10 q10 p11 q11 p12 q12 p13 q13
    rfl (by omega) (by omega) rfl (by omega) (by omega) rfl (by omega) (by omega) rfl (by omega) (by omega) rfl (by omega) (by omega) rfl (by omega) (by omega) rfl (by omega) (by omega) rfl (by omega) (by omega) rfl (by omega) (by omega) rfl (by omega) (by omega) rfl (by omega) (by omega) rfl (by omega) (by omega) w

end Go.Proofs.Ytnaphpgbmjpicaa
