/- The equality of fourteen bytes with themselves; blocks carried whole; what Pack hands back, byte by byte. -/
import Derived.Test.YtnaphpgbmjpicaaO
namespace Go.Proofs.Ytnaphpgbmjpicaa
open Go.RowKit

set_option maxRecDepth 100000 in
theorem eqSame38' (k : Nat) (c0 c1 c2 c3 c4 c5 c6 c7 c8 c9 c10 c11 c12 c13 : Int) (w : World) : (Op.equalIn (k + 2) 38 (.agg #[.int .u8 c0, .int .u8 c1, .int .u8 c2, .int .u8 c3, .int .u8 c4, .int .u8 c5, .int .u8 c6, .int .u8 c7, .int .u8 c8, .int .u8 c9, .int .u8 c10, .int .u8 c11, .int .u8 c12, .int .u8 c13]) (.agg #[.int .u8 c0, .int .u8 c1, .int .u8 c2, .int .u8 c3, .int .u8 c4, .int .u8 c5, .int .u8 c6, .int .u8 c7, .int .u8 c8, .int .u8 c9, .int .u8 c10, .int .u8 c11, .int .u8 c12, .int .u8 c13])).run Try.prog w = .ok true w := by
  rw [Op.equalIn]
  simp only [Sem.run_bind, run_underlying Try.underlying38, Result.andThen_ok]
  have hs : ∀ w, Sem.run Try.prog (sizeOf 5) w = .ok 1 w := fun w => by kernel_rfl
  have p0 : ∀ (x0 x1 x2 x3 x4 x5 x6 x7 x8 x9 x10 x11 x12 x13 : Value) (w : World), (part 5 #[x0, x1, x2, x3, x4, x5, x6, x7, x8, x9, x10, x11, x12, x13] 0).run Try.prog w = .ok x0 w := fun x0 x1 x2 x3 x4 x5 x6 x7 x8 x9 x10 x11 x12 x13 w => by kernel_rfl
  have p1 : ∀ (x0 x1 x2 x3 x4 x5 x6 x7 x8 x9 x10 x11 x12 x13 : Value) (w : World), (part 5 #[x0, x1, x2, x3, x4, x5, x6, x7, x8, x9, x10, x11, x12, x13] 1).run Try.prog w = .ok x1 w := fun x0 x1 x2 x3 x4 x5 x6 x7 x8 x9 x10 x11 x12 x13 w => by kernel_rfl
  have p2 : ∀ (x0 x1 x2 x3 x4 x5 x6 x7 x8 x9 x10 x11 x12 x13 : Value) (w : World), (part 5 #[x0, x1, x2, x3, x4, x5, x6, x7, x8, x9, x10, x11, x12, x13] 2).run Try.prog w = .ok x2 w := fun x0 x1 x2 x3 x4 x5 x6 x7 x8 x9 x10 x11 x12 x13 w => by kernel_rfl
  have p3 : ∀ (x0 x1 x2 x3 x4 x5 x6 x7 x8 x9 x10 x11 x12 x13 : Value) (w : World), (part 5 #[x0, x1, x2, x3, x4, x5, x6, x7, x8, x9, x10, x11, x12, x13] 3).run Try.prog w = .ok x3 w := fun x0 x1 x2 x3 x4 x5 x6 x7 x8 x9 x10 x11 x12 x13 w => by kernel_rfl
  have p4 : ∀ (x0 x1 x2 x3 x4 x5 x6 x7 x8 x9 x10 x11 x12 x13 : Value) (w : World), (part 5 #[x0, x1, x2, x3, x4, x5, x6, x7, x8, x9, x10, x11, x12, x13] 4).run Try.prog w = .ok x4 w := fun x0 x1 x2 x3 x4 x5 x6 x7 x8 x9 x10 x11 x12 x13 w => by kernel_rfl
  have p5 : ∀ (x0 x1 x2 x3 x4 x5 x6 x7 x8 x9 x10 x11 x12 x13 : Value) (w : World), (part 5 #[x0, x1, x2, x3, x4, x5, x6, x7, x8, x9, x10, x11, x12, x13] 5).run Try.prog w = .ok x5 w := fun x0 x1 x2 x3 x4 x5 x6 x7 x8 x9 x10 x11 x12 x13 w => by kernel_rfl
  have p6 : ∀ (x0 x1 x2 x3 x4 x5 x6 x7 x8 x9 x10 x11 x12 x13 : Value) (w : World), (part 5 #[x0, x1, x2, x3, x4, x5, x6, x7, x8, x9, x10, x11, x12, x13] 6).run Try.prog w = .ok x6 w := fun x0 x1 x2 x3 x4 x5 x6 x7 x8 x9 x10 x11 x12 x13 w => by kernel_rfl
  have p7 : ∀ (x0 x1 x2 x3 x4 x5 x6 x7 x8 x9 x10 x11 x12 x13 : Value) (w : World), (part 5 #[x0, x1, x2, x3, x4, x5, x6, x7, x8, x9, x10, x11, x12, x13] 7).run Try.prog w = .ok x7 w := fun x0 x1 x2 x3 x4 x5 x6 x7 x8 x9 x10 x11 x12 x13 w => by kernel_rfl
  have p8 : ∀ (x0 x1 x2 x3 x4 x5 x6 x7 x8 x9 x10 x11 x12 x13 : Value) (w : World), (part 5 #[x0, x1, x2, x3, x4, x5, x6, x7, x8, x9, x10, x11, x12, x13] 8).run Try.prog w = .ok x8 w := fun x0 x1 x2 x3 x4 x5 x6 x7 x8 x9 x10 x11 x12 x13 w => by kernel_rfl
  have p9 : ∀ (x0 x1 x2 x3 x4 x5 x6 x7 x8 x9 x10 x11 x12 x13 : Value) (w : World), (part 5 #[x0, x1, x2, x3, x4, x5, x6, x7, x8, x9, x10, x11, x12, x13] 9).run Try.prog w = .ok x9 w := fun x0 x1 x2 x3 x4 x5 x6 x7 x8 x9 x10 x11 x12 x13 w => by kernel_rfl
  have p10 : ∀ (x0 x1 x2 x3 x4 x5 x6 x7 x8 x9 x10 x11 x12 x13 : Value) (w : World), (part 5 #[x0, x1, x2, x3, x4, x5, x6, x7, x8, x9, x10, x11, x12, x13] 10).run Try.prog w = .ok x10 w := fun x0 x1 x2 x3 x4 x5 x6 x7 x8 x9 x10 x11 x12 x13 w => by kernel_rfl
  have p11 : ∀ (x0 x1 x2 x3 x4 x5 x6 x7 x8 x9 x10 x11 x12 x13 : Value) (w : World), (part 5 #[x0, x1, x2, x3, x4, x5, x6, x7, x8, x9, x10, x11, x12, x13] 11).run Try.prog w = .ok x11 w := fun x0 x1 x2 x3 x4 x5 x6 x7 x8 x9 x10 x11 x12 x13 w => by kernel_rfl
  have p12 : ∀ (x0 x1 x2 x3 x4 x5 x6 x7 x8 x9 x10 x11 x12 x13 : Value) (w : World), (part 5 #[x0, x1, x2, x3, x4, x5, x6, x7, x8, x9, x10, x11, x12, x13] 12).run Try.prog w = .ok x12 w := fun x0 x1 x2 x3 x4 x5 x6 x7 x8 x9 x10 x11 x12 x13 w => by kernel_rfl
  have p13 : ∀ (x0 x1 x2 x3 x4 x5 x6 x7 x8 x9 x10 x11 x12 x13 : Value) (w : World), (part 5 #[x0, x1, x2, x3, x4, x5, x6, x7, x8, x9, x10, x11, x12, x13] 13).run Try.prog w = .ok x13 w := fun x0 x1 x2 x3 x4 x5 x6 x7 x8 x9 x10 x11 x12 x13 w => by kernel_rfl
  have hq : ∀ (x : Int) (w : World), (Op.equalIn (k + 1) 5 (.int .u8 x) (.int .u8 x)).run Try.prog w = .ok true w := fun x w => by
    rw [run_equalIn_int w k 5 .u8 .u8 x x Try.underlying5]; simp
  rw [hs]
  simp only [Result.andThen_ok, Std.Legacy.Range.forIn_eq_forIn_range', Std.Legacy.Range.size]
  simp only [show (14 - 0 + 1 - 1) / 1 = 14 from rfl, show List.range' 0 14 1 = [0, 1, 2, 3, 4, 5, 6, 7, 8, 9, 10, 11, 12, 13] from rfl, List.forIn_cons, List.forIn_nil, Sem.run_bind, Sem.run_pure, Sem.run_ite, Nat.mul_one, Result.andThen_ok, Bool.not_true, Bool.false_eq_true, if_false, hq, p0, p1, p2, p3, p4, p5, p6, p7, p8, p9, p10, p11, p12, p13]
theorem eqSame38 (c0 c1 c2 c3 c4 c5 c6 c7 c8 c9 c10 c11 c12 c13 : Int) (w : World) : (Op.equalIn 10000 38 (.agg #[.int .u8 c0, .int .u8 c1, .int .u8 c2, .int .u8 c3, .int .u8 c4, .int .u8 c5, .int .u8 c6, .int .u8 c7, .int .u8 c8, .int .u8 c9, .int .u8 c10, .int .u8 c11, .int .u8 c12, .int .u8 c13]) (.agg #[.int .u8 c0, .int .u8 c1, .int .u8 c2, .int .u8 c3, .int .u8 c4, .int .u8 c5, .int .u8 c6, .int .u8 c7, .int .u8 c8, .int .u8 c9, .int .u8 c10, .int .u8 c11, .int .u8 c12, .int .u8 c13])).run Try.prog w = .ok true w := eqSame38' 9998 c0 c1 c2 c3 c4 c5 c6 c7 c8 c9 c10 c11 c12 c13 w
theorem eqG38 (op : BinOp) (x y : Operand) (xs ys : Array Value) (w : World) : (eqGuard op 38 x y (.agg xs) (.agg ys)).run Try.prog w = .ok () w :=
  run_eqGuard_agg w op 38 x y xs ys (by kernel_rfl)

theorem packV_eq (x y : Int) : packV x y = .agg #[.int .u8 (pairV x y (x % 256)), .int .u8 (pairV x y (x / 256 % 256)), .int .u8 (pairV x y (x / 65536 % 256)), .int .u8 (pairV x y (x / 16777216 % 256)), .int .u8 (pairV x y (x / 4294967296 % 256)), .int .u8 (pairV x y (x / 1099511627776 % 256)), .int .u8 (pairV x y (x / 281474976710656)), .int .u8 (pairV x y (y % 256)), .int .u8 (pairV x y (y / 256 % 256)), .int .u8 (pairV x y (y / 65536 % 256)), .int .u8 (pairV x y (y / 16777216 % 256)), .int .u8 (pairV x y (y / 4294967296 % 256)), .int .u8 (pairV x y (y / 1099511627776 % 256)), .int .u8 (pairV x y (y / 281474976710656))] := by
  rcases h : (chkAll x y != 0) with _ | _
  · rw [packV_ok h]; simp only [pairV_ok h]; rfl
  · rw [packV_bad h]; simp only [pairV_bad h]; rfl

theorem cells14 {w1 : World} {n : Nat} {t : TypeId} {x0 x1 x2 x3 x4 x5 x6 x7 x8 x9 x10 x11 x12 x13 : Value} (h : w1.heap[n]? = some (Obj.cells #[x0, x1, x2, x3, x4, x5, x6, x7, x8, x9, x10, x11, x12, x13] t (0, 0))) : w1.cell? ⟨n, 0, none⟩ = some x0 ∧ w1.cell? ⟨n, 1, none⟩ = some x1 ∧ w1.cell? ⟨n, 2, none⟩ = some x2 ∧ w1.cell? ⟨n, 3, none⟩ = some x3 ∧ w1.cell? ⟨n, 4, none⟩ = some x4 ∧ w1.cell? ⟨n, 5, none⟩ = some x5 ∧ w1.cell? ⟨n, 6, none⟩ = some x6 ∧ w1.cell? ⟨n, 7, none⟩ = some x7 ∧ w1.cell? ⟨n, 8, none⟩ = some x8 ∧ w1.cell? ⟨n, 9, none⟩ = some x9 ∧ w1.cell? ⟨n, 10, none⟩ = some x10 ∧ w1.cell? ⟨n, 11, none⟩ = some x11 ∧ w1.cell? ⟨n, 12, none⟩ = some x12 ∧ w1.cell? ⟨n, 13, none⟩ = some x13 := by simp [World.cell?, h]
theorem cells2h {w1 : World} {n : Nat} {t : TypeId} {x0 x1 : Value} (h : w1.heap[n]? = some (Obj.cells #[x0, x1] t (0, 0))) : w1.cell? ⟨n, 0, none⟩ = some x0 ∧ w1.cell? ⟨n, 1, none⟩ = some x1 := by simp [World.cell?, h]
theorem heap1 {w w1 : World} {o1 : Obj} {B : Nat} (hb : Below B (w.alloc o1) w1) (hB : B = (w.alloc o1).heap.size := by rfl) : w1.heap[w.heap.size]? = some o1 := by
  subst hB
  rw [hb.block _ (by simp)]
  show (w.heap.push o1)[w.heap.size]? = _
  simp
theorem heap2 {w w1 : World} {o1 o2 : Obj} {B : Nat} (hb : Below B ((w.alloc o1).alloc o2) w1) (hB : B = ((w.alloc o1).alloc o2).heap.size := by rfl) :
    w1.heap[w.heap.size]? = some o1 ∧ w1.heap[w.heap.size + 1]? = some o2 ∧ w.heap.size + 1 < w1.heap.size := by
  subst hB
  have key : ∀ (w : World) (o : Obj), (w.alloc o).heap[w.heap.size]? = some o := fun w o => by
    show (w.heap.push o)[w.heap.size]? = _
    simp
  refine ⟨?_, ?_, by have := hb.size; simp at this; omega⟩
  · rw [hb.block _ (by simp; omega), Below.heap_alloc _ _ _ (by simp)]
    exact key _ _
  · rw [hb.block _ (by simp), show w.heap.size + 1 = (w.alloc o1).heap.size by simp]
    exact key _ _
theorem heapKeep {w w1 : World} {n : Nat} {o : Obj} (hb : Below w.heap.size w w1) (hn : n < w.heap.size) (h : w.heap[n]? = some o) : w1.heap[n]? = some o := (hb.block n hn).trans h

end Go.Proofs.Ytnaphpgbmjpicaa
