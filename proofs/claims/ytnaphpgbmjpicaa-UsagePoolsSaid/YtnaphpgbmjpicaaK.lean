/- Contracts: the reference's Pack. -/
import Derived.Test.YtnaphpgbmjpicaaJ
namespace Go.Proofs.Ytnaphpgbmjpicaa
open Go.RowKit

set_option maxRecDepth 100000 in
set_option maxHeartbeats 4000000 in
theorem rpack_any (x y : Int) (w : World) : Calls Try.prog 30 #[.agg #[.int .i64 x, .int .i64 y]] w fun e w' => e = .returned (.tuple #[packV x y, .int .i64 (chkAll x y)]) ∧ Below w.heap.size w w' := by
  rcases h : (chkAll x y != 0) with _ | _
  · obtain ⟨⟨a1, a2⟩, a3, a4⟩ := chkAll_zero_iff.1 (show chkAll x y = 0 by simpa using h)
    have H := Lib.hid (packV_ok h)
    have H0 := Lib.hid (show chkAll x y = 0 by simpa using h)
    go_enter Try.func30, Try.ntmps30
    go_wp2_with fail
    refine (rcheckAll_any _ _ _).mono ?_
    rintro e w1 ⟨rfl, hb⟩
    have hB : Below w.heap.size w w1 := base3 hb
    obtain ⟨g1, g2, g3⟩ := heap3 hb
    obtain ⟨⟨c0, c1, c2, c3, c4, c5, c6, c7, c8, c9, c10, c11, c12, c13⟩, cf⟩ := block14 g2
    obtain ⟨⟨d0, d1, d2, d3, d4, d5, d6, d7, d8, d9, d10, d11, d12, d13⟩, df⟩ := block14 g3
    have e0 : w1.cell? ⟨w.heap.size, 0, none⟩ = some (.int .i64 x) := by simp [World.cell?, g1]
    have e1 : w1.cell? ⟨w.heap.size, 1, none⟩ = some (.int .i64 y) := by simp [World.cell?, g1]
    clear g1 g2 g3 hb
    go_wp2
    refine wp_loop_rounds 3 ?_
    rw [rounds_succ]
    go_wp2
    refine wp_loop_rounds 8 ?_
    iterate 8 (rw [rounds_succ]; go_wp2)
    rw [rounds_succ]
    go_wp2
    refine wp_loop_rounds 8 ?_
    iterate 8 (rw [rounds_succ]; go_wp2)
    rw [rounds_succ]
    go_wp2
    refine bodyPost_ret (v := .tuple #[packV x y, .int .i64 (chkAll x y)]) (by rw [H.out, H0.out]; simp [results, Try.results30, go_sem, bytes14, c0, c1, c2, c3, c4, c5, c6, c7, c8, c9, c10, c11, c12, c13]; repeat' apply And.intro; all_goals omega) rfl ⟨rfl, ?_⟩
    repeat (with_reducible refine Below.setCell ?_ (by first | omega | (simp; done) | (simp; omega)) _)
    exact hB
  · have H := Lib.hid (packV_bad h)
    go_enter Try.func30, Try.ntmps30
    go_wp2_with fail
    refine (rcheckAll_any _ _ _).mono ?_
    rintro e w1 ⟨rfl, hb⟩
    have hB : Below w.heap.size w w1 := base3 hb
    obtain ⟨g1, g2, g3⟩ := heap3 hb
    obtain ⟨⟨c0, c1, c2, c3, c4, c5, c6, c7, c8, c9, c10, c11, c12, c13⟩, cf⟩ := block14 g2
    obtain ⟨⟨d0, d1, d2, d3, d4, d5, d6, d7, d8, d9, d10, d11, d12, d13⟩, df⟩ := block14 g3
    clear g1 g2 g3 hb
    go_wp2
    refine bodyPost_ret (v := .tuple #[packV x y, .int .i64 (chkAll x y)]) (by rw [H.out]; simp [results, Try.results30, go_sem, zero14, c0, c1, c2, c3, c4, c5, c6, c7, c8, c9, c10, c11, c12, c13]) rfl ⟨rfl, ?_⟩
    repeat (with_reducible refine Below.setCell ?_ (by first | omega | (simp; done) | (simp; omega)) _)
    exact hB

end Go.Proofs.Ytnaphpgbmjpicaa
