/- Contracts: Unpack. -/
import Derived.Test.YtnaphpgbmjpicaaK
namespace Go.Proofs.Ytnaphpgbmjpicaa
open Go.RowKit

theorem idx38_0 (x0 x1 x2 x3 x4 x5 x6 x7 x8 x9 x10 x11 x12 x13 : Value) (w : World) : (Instr.index 38 (.agg #[x0, x1, x2, x3, x4, x5, x6, x7, x8, x9, x10, x11, x12, x13]) (.int .i64 0)).run Try.prog w = .ok x0 w := by kernel_rfl
theorem idx38_1 (x0 x1 x2 x3 x4 x5 x6 x7 x8 x9 x10 x11 x12 x13 : Value) (w : World) : (Instr.index 38 (.agg #[x0, x1, x2, x3, x4, x5, x6, x7, x8, x9, x10, x11, x12, x13]) (.int .i64 1)).run Try.prog w = .ok x1 w := by kernel_rfl
theorem idx38_2 (x0 x1 x2 x3 x4 x5 x6 x7 x8 x9 x10 x11 x12 x13 : Value) (w : World) : (Instr.index 38 (.agg #[x0, x1, x2, x3, x4, x5, x6, x7, x8, x9, x10, x11, x12, x13]) (.int .i64 2)).run Try.prog w = .ok x2 w := by kernel_rfl
theorem idx38_3 (x0 x1 x2 x3 x4 x5 x6 x7 x8 x9 x10 x11 x12 x13 : Value) (w : World) : (Instr.index 38 (.agg #[x0, x1, x2, x3, x4, x5, x6, x7, x8, x9, x10, x11, x12, x13]) (.int .i64 3)).run Try.prog w = .ok x3 w := by kernel_rfl
theorem idx38_4 (x0 x1 x2 x3 x4 x5 x6 x7 x8 x9 x10 x11 x12 x13 : Value) (w : World) : (Instr.index 38 (.agg #[x0, x1, x2, x3, x4, x5, x6, x7, x8, x9, x10, x11, x12, x13]) (.int .i64 4)).run Try.prog w = .ok x4 w := by kernel_rfl
theorem idx38_5 (x0 x1 x2 x3 x4 x5 x6 x7 x8 x9 x10 x11 x12 x13 : Value) (w : World) : (Instr.index 38 (.agg #[x0, x1, x2, x3, x4, x5, x6, x7, x8, x9, x10, x11, x12, x13]) (.int .i64 5)).run Try.prog w = .ok x5 w := by kernel_rfl
theorem idx38_6 (x0 x1 x2 x3 x4 x5 x6 x7 x8 x9 x10 x11 x12 x13 : Value) (w : World) : (Instr.index 38 (.agg #[x0, x1, x2, x3, x4, x5, x6, x7, x8, x9, x10, x11, x12, x13]) (.int .i64 6)).run Try.prog w = .ok x6 w := by kernel_rfl
theorem idx38_7 (x0 x1 x2 x3 x4 x5 x6 x7 x8 x9 x10 x11 x12 x13 : Value) (w : World) : (Instr.index 38 (.agg #[x0, x1, x2, x3, x4, x5, x6, x7, x8, x9, x10, x11, x12, x13]) (.int .i64 7)).run Try.prog w = .ok x7 w := by kernel_rfl
theorem idx38_8 (x0 x1 x2 x3 x4 x5 x6 x7 x8 x9 x10 x11 x12 x13 : Value) (w : World) : (Instr.index 38 (.agg #[x0, x1, x2, x3, x4, x5, x6, x7, x8, x9, x10, x11, x12, x13]) (.int .i64 8)).run Try.prog w = .ok x8 w := by kernel_rfl
theorem idx38_9 (x0 x1 x2 x3 x4 x5 x6 x7 x8 x9 x10 x11 x12 x13 : Value) (w : World) : (Instr.index 38 (.agg #[x0, x1, x2, x3, x4, x5, x6, x7, x8, x9, x10, x11, x12, x13]) (.int .i64 9)).run Try.prog w = .ok x9 w := by kernel_rfl
theorem idx38_10 (x0 x1 x2 x3 x4 x5 x6 x7 x8 x9 x10 x11 x12 x13 : Value) (w : World) : (Instr.index 38 (.agg #[x0, x1, x2, x3, x4, x5, x6, x7, x8, x9, x10, x11, x12, x13]) (.int .i64 10)).run Try.prog w = .ok x10 w := by kernel_rfl
theorem idx38_11 (x0 x1 x2 x3 x4 x5 x6 x7 x8 x9 x10 x11 x12 x13 : Value) (w : World) : (Instr.index 38 (.agg #[x0, x1, x2, x3, x4, x5, x6, x7, x8, x9, x10, x11, x12, x13]) (.int .i64 11)).run Try.prog w = .ok x11 w := by kernel_rfl
theorem idx38_12 (x0 x1 x2 x3 x4 x5 x6 x7 x8 x9 x10 x11 x12 x13 : Value) (w : World) : (Instr.index 38 (.agg #[x0, x1, x2, x3, x4, x5, x6, x7, x8, x9, x10, x11, x12, x13]) (.int .i64 12)).run Try.prog w = .ok x12 w := by kernel_rfl
theorem idx38_13 (x0 x1 x2 x3 x4 x5 x6 x7 x8 x9 x10 x11 x12 x13 : Value) (w : World) : (Instr.index 38 (.agg #[x0, x1, x2, x3, x4, x5, x6, x7, x8, x9, x10, x11, x12, x13]) (.int .i64 13)).run Try.prog w = .ok x13 w := by kernel_rfl
attribute [local go_sem] idx38_0 idx38_1 idx38_2 idx38_3 idx38_4 idx38_5 idx38_6 idx38_7 idx38_8 idx38_9 idx38_10 idx38_11 idx38_12 idx38_13

/-- A part of a pair, nought where the pair is none of amounts. -/
def pairV (s t v : Int) : Int := if chkAll s t = 0 then v else 0
theorem pairV_ok {s t : Int} (h : (chkAll s t != 0) = false) (v : Int) : pairV s t v = v := by unfold pairV; rw [if_pos (by simpa using h)]
theorem pairV_bad {s t : Int} (h : (chkAll s t != 0) = true) (v : Int) : pairV s t v = 0 := by unfold pairV; rw [if_neg (by simpa using h)]

set_option maxRecDepth 100000 in
set_option maxHeartbeats 4000000 in
theorem unpack_core (b0 b1 b2 b3 b4 b5 b6 b7 b8 b9 b10 b11 b12 b13 s1 s2 s3 s4 s5 s6 t1 t2 t3 t4 t5 t6 : Int) (p0 : 0 ≤ b0) (q0 : b0 ≤ 255) (p1 : 0 ≤ b1) (q1 : b1 ≤ 255) (p2 : 0 ≤ b2) (q2 : b2 ≤ 255) (p3 : 0 ≤ b3) (q3 : b3 ≤ 255) (p4 : 0 ≤ b4) (q4 : b4 ≤ 255) (p5 : 0 ≤ b5) (q5 : b5 ≤ 255) (p6 : 0 ≤ b6) (q6 : b6 ≤ 255) (p7 : 0 ≤ b7) (q7 : b7 ≤ 255) (p8 : 0 ≤ b8) (q8 : b8 ≤ 255) (p9 : 0 ≤ b9) (q9 : b9 ≤ 255) (p10 : 0 ≤ b10) (q10 : b10 ≤ 255) (p11 : 0 ≤ b11) (q11 : b11 ≤ 255) (p12 : 0 ≤ b12) (q12 : b12 ≤ 255) (p13 : 0 ≤ b13) (q13 : b13 ≤ 255) (r0 : bits .or .i64 0 b0 = b0) (r1 : bits .or .i64 b0 (b1 * 256) = s1) (r2 : bits .or .i64 s1 (b2 * 65536) = s2) (r3 : bits .or .i64 s2 (b3 * 16777216) = s3) (r4 : bits .or .i64 s3 (b4 * 4294967296) = s4) (r5 : bits .or .i64 s4 (b5 * 1099511627776) = s5) (r6 : bits .or .i64 s5 (b6 * 281474976710656) = s6) (z0 : bits .or .i64 0 b7 = b7) (z1 : bits .or .i64 b7 (b8 * 256) = t1) (z2 : bits .or .i64 t1 (b9 * 65536) = t2) (z3 : bits .or .i64 t2 (b10 * 16777216) = t3) (z4 : bits .or .i64 t3 (b11 * 4294967296) = t4) (z5 : bits .or .i64 t4 (b12 * 1099511627776) = t5) (z6 : bits .or .i64 t5 (b13 * 281474976710656) = t6) (w : World) : Calls Try.prog 31 #[.agg #[.int .u8 b0, .int .u8 b1, .int .u8 b2, .int .u8 b3, .int .u8 b4, .int .u8 b5, .int .u8 b6, .int .u8 b7, .int .u8 b8, .int .u8 b9, .int .u8 b10, .int .u8 b11, .int .u8 b12, .int .u8 b13]] w fun e w' => e = .returned (.tuple #[.agg #[.int .i64 (pairV s6 t6 s6), .int .i64 (pairV s6 t6 t6)], .int .i64 (chkAll s6 t6)]) ∧ Below w.heap.size w w' := by
  rcases h : (chkAll s6 t6 != 0) with _ | _
  · have H := Lib.hid (pairV_ok h)
    have H0 := Lib.hid (show chkAll s6 t6 = 0 by simpa using h)
    go_enter Try.func31, Try.ntmps31
    go_wp2
    refine wp_loop_rounds 15 ?_
    iterate 15 (rw [rounds_succ]; go_wp2_with fail)
    refine (checkAll_any _ _ _).mono ?_
    rintro e w1 ⟨rfl, hb⟩
    have hB : Below w.heap.size w w1 := base3 hb
    obtain ⟨g1, g2, g3⟩ := heap3 hb
    have c0 : w1.cell? ⟨w.heap.size + 1, 0, none⟩ = some (.int .i64 0) := by simp [World.cell?, g2]
    have c1 : w1.cell? ⟨w.heap.size + 1, 1, none⟩ = some (.int .i64 0) := by simp [World.cell?, g2]
    have c2 : ∀ i, w1.frozen? ⟨w.heap.size + 1, i, none⟩ = false := fun i => by simp [World.frozen?, g2]
    have d0 : w1.cell? ⟨w.heap.size + 1 + 1, 0, none⟩ = some (.int .i64 s6) := by simp [World.cell?, g3]
    have d1 : w1.cell? ⟨w.heap.size + 1 + 1, 1, none⟩ = some (.int .i64 t6) := by simp [World.cell?, g3]
    clear g1 g2 g3 hb
    go_wp2
    refine bodyPost_ret (v := .tuple #[.agg #[.int .i64 (pairV s6 t6 s6), .int .i64 (pairV s6 t6 t6)], .int .i64 (chkAll s6 t6)]) (by rw [H.out, H.out, H0.out]; simp [results, Try.results31, go_sem, c0, c1]) rfl ⟨rfl, ?_⟩
    repeat (with_reducible refine Below.setCell ?_ (by first | omega | (simp; done) | (simp; omega)) _)
    exact hB
  · have H := Lib.hid (pairV_bad h)
    go_enter Try.func31, Try.ntmps31
    go_wp2
    refine wp_loop_rounds 15 ?_
    iterate 15 (rw [rounds_succ]; go_wp2_with fail)
    refine (checkAll_any _ _ _).mono ?_
    rintro e w1 ⟨rfl, hb⟩
    have hB : Below w.heap.size w w1 := base3 hb
    obtain ⟨g1, g2, g3⟩ := heap3 hb
    have c0 : w1.cell? ⟨w.heap.size + 1, 0, none⟩ = some (.int .i64 0) := by simp [World.cell?, g2]
    have c1 : w1.cell? ⟨w.heap.size + 1, 1, none⟩ = some (.int .i64 0) := by simp [World.cell?, g2]
    have c2 : ∀ i, w1.frozen? ⟨w.heap.size + 1, i, none⟩ = false := fun i => by simp [World.frozen?, g2]
    have d0 : w1.cell? ⟨w.heap.size + 1 + 1, 0, none⟩ = some (.int .i64 s6) := by simp [World.cell?, g3]
    have d1 : w1.cell? ⟨w.heap.size + 1 + 1, 1, none⟩ = some (.int .i64 t6) := by simp [World.cell?, g3]
    clear g1 g2 g3 hb
    go_wp2
    refine bodyPost_ret (v := .tuple #[.agg #[.int .i64 (pairV s6 t6 s6), .int .i64 (pairV s6 t6 t6)], .int .i64 (chkAll s6 t6)]) (by rw [H.out, H.out]; simp [results, Try.results31, go_sem, c0, c1]) rfl ⟨rfl, ?_⟩
    repeat (with_reducible refine Below.setCell ?_ (by first | omega | (simp; done) | (simp; omega)) _)
    exact hB

end Go.Proofs.Ytnaphpgbmjpicaa
