/- Contracts: least. -/
import Derived.Test.YtnaphpgbmjpicaaA
namespace Go.Proofs.Ytnaphpgbmjpicaa
open Go.RowKit

theorem ret_two {a b c d : Int} (h1 : a = c) (h2 : b = d) : Ending.returned (.agg #[.int .i64 a, .int .i64 b]) = .returned (.agg #[.int .i64 c, .int .i64 d]) := by rw [h1, h2]

set_option maxRecDepth 100000 in
theorem least_any (x y z u : Int) (w : World) : Calls Try.prog 42 #[.agg #[.int .i64 x, .int .i64 y], .agg #[.int .i64 z, .int .i64 u]] w fun e w' => e = .returned (.agg #[.int .i64 (min x z), .int .i64 (min y u)]) ∧ Below w.heap.size w w' := by
  rcases (show z < x ∨ x ≤ z by omega) with h1 | h1 <;> rcases (show u < y ∨ y ≤ u by omega) with h2 | h2
  all_goals
    go_enter Try.func42, Try.ntmps42
    go_wp2
    refine wp_loop_rounds 3 ?_
    rw [rounds_succ]
    go_wp2
    go_region
    go_wp2
    rw [rounds_succ]
    go_wp2
    go_region
    go_wp2
    rw [rounds_succ]
    go_wp2
    refine bodyPost_ret (v := .agg #[.int .i64 (min x z), .int .i64 (min y u)]) (by simp [results, Try.results42, go_sem]; omega) rfl ⟨rfl, ?_⟩
    exact ((((Below.refl _ _).alloc (Nat.le_refl _) _).alloc (by simp) _).alloc (by simp; omega) _).drew.drew

end Go.Proofs.Ytnaphpgbmjpicaa
