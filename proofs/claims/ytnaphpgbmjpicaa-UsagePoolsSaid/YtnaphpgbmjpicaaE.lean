/- The equality of two pairs of amounts, as the model runs it. -/
import Derived.Test.YtnaphpgbmjpicaaA
import Derived.Laws.StructEq
namespace Go.Proofs.Ytnaphpgbmjpicaa
open Go.RowKit

theorem eqIn26' (k : Nat) (a b c d : Int) (w : World) : (Op.equalIn (k + 2) 26 (.agg #[.int .i64 a, .int .i64 b]) (.agg #[.int .i64 c, .int .i64 d])).run Try.prog w = .ok (a == c && b == d) w := by
  rw [Op.equalIn]
  simp only [Sem.run_bind, run_underlying Try.underlying26, Result.andThen_ok]
  have hs : ∀ w, Sem.run Try.prog (sizeOf 2) w = .ok 1 w := fun w => by kernel_rfl
  have p0 : ∀ (x y : Value) (w : World), (part 2 #[x, y] 0).run Try.prog w = .ok x w := fun x y w => by kernel_rfl
  have p1 : ∀ (x y : Value) (w : World), (part 2 #[x, y] 1).run Try.prog w = .ok y w := fun x y w => by kernel_rfl
  have hq : ∀ (x y : Int) (w : World), (Op.equalIn (k + 1) 2 (.int .i64 x) (.int .i64 y)).run Try.prog w = .ok (x == y) w := fun x y w => run_equalIn_int w k 2 .i64 .i64 x y Try.underlying2
  rw [hs]
  simp only [Result.andThen_ok, Std.Legacy.Range.forIn_eq_forIn_range', Std.Legacy.Range.size]
  simp only [show (2 - 0 + 1 - 1) / 1 = 2 from rfl, show List.range' 0 2 1 = [0, 1] from rfl, List.forIn_cons, List.forIn_nil, Sem.run_bind, p0, hq, Nat.zero_mul, Result.andThen_ok]
  rcases h1 : (a == c) with _ | _ <;> rcases h2 : (b == d) with _ | _ <;> simp [p1, hq, h2]
theorem eqIn26 (a b c d : Int) (w : World) : (Op.equalIn 10000 26 (.agg #[.int .i64 a, .int .i64 b]) (.agg #[.int .i64 c, .int .i64 d])).run Try.prog w = .ok (a == c && b == d) w := eqIn26' 9998 a b c d w
theorem eqG26 (op : BinOp) (x y : Operand) (xs ys : Array Value) (w : World) : (eqGuard op 26 x y (.agg xs) (.agg ys)).run Try.prog w = .ok () w := 
  run_eqGuard_agg w op 26 x y xs ys (by kernel_rfl)

end Go.Proofs.Ytnaphpgbmjpicaa
