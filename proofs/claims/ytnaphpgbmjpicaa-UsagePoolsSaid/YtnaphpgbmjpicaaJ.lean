/- Contracts: Pack. -/
import Derived.Test.YtnaphpgbmjpicaaI
namespace Go.Proofs.Ytnaphpgbmjpicaa
open Go.RowKit

/-- Fourteen bytes, each nought. -/
def zero14 : Value := .agg #[.int .u8 0, .int .u8 0, .int .u8 0, .int .u8 0, .int .u8 0, .int .u8 0, .int .u8 0, .int .u8 0, .int .u8 0, .int .u8 0, .int .u8 0, .int .u8 0, .int .u8 0, .int .u8 0]
/-- The bytes of a pair. -/
def bytes14 (x y : Int) : Value := .agg #[.int .u8 (x % 256), .int .u8 (x / 256 % 256), .int .u8 (x / 65536 % 256), .int .u8 (x / 16777216 % 256), .int .u8 (x / 4294967296 % 256), .int .u8 (x / 1099511627776 % 256), .int .u8 (x / 281474976710656), .int .u8 (y % 256), .int .u8 (y / 256 % 256), .int .u8 (y / 65536 % 256), .int .u8 (y / 16777216 % 256), .int .u8 (y / 4294967296 % 256), .int .u8 (y / 1099511627776 % 256), .int .u8 (y / 281474976710656)]
/-- What Pack hands back. -/
def packV (x y : Int) : Value := if chkAll x y = 0 then bytes14 x y else zero14
theorem packV_ok {x y : Int} (h : (chkAll x y != 0) = false) : packV x y = bytes14 x y := by
  unfold packV; rw [if_pos (by simpa using h)]
theorem packV_bad {x y : Int} (h : (chkAll x y != 0) = true) : packV x y = zero14 := by
  unfold packV; rw [if_neg (by simpa using h)]

theorem block14 {w1 : World} {n : Nat} {t : TypeId} (h : w1.heap[n]? = some (Obj.cells #[.int .u8 0, .int .u8 0, .int .u8 0, .int .u8 0, .int .u8 0, .int .u8 0, .int .u8 0, .int .u8 0, .int .u8 0, .int .u8 0, .int .u8 0, .int .u8 0, .int .u8 0, .int .u8 0] t (0, 0))) :
    (w1.cell? ⟨n, 0, none⟩ = some (.int .u8 0) ∧ w1.cell? ⟨n, 1, none⟩ = some (.int .u8 0) ∧ w1.cell? ⟨n, 2, none⟩ = some (.int .u8 0) ∧ w1.cell? ⟨n, 3, none⟩ = some (.int .u8 0) ∧ w1.cell? ⟨n, 4, none⟩ = some (.int .u8 0) ∧ w1.cell? ⟨n, 5, none⟩ = some (.int .u8 0) ∧ w1.cell? ⟨n, 6, none⟩ = some (.int .u8 0) ∧ w1.cell? ⟨n, 7, none⟩ = some (.int .u8 0) ∧ w1.cell? ⟨n, 8, none⟩ = some (.int .u8 0) ∧ w1.cell? ⟨n, 9, none⟩ = some (.int .u8 0) ∧ w1.cell? ⟨n, 10, none⟩ = some (.int .u8 0) ∧ w1.cell? ⟨n, 11, none⟩ = some (.int .u8 0) ∧ w1.cell? ⟨n, 12, none⟩ = some (.int .u8 0) ∧ w1.cell? ⟨n, 13, none⟩ = some (.int .u8 0)) ∧ ∀ i, w1.frozen? ⟨n, i, none⟩ = false :=
  ⟨by simp [World.cell?, h], fun i => by simp [World.frozen?, h]⟩

theorem heap3 {w w1 : World} {o1 o2 o3 : Obj} {B : Nat} (hb : Below B (((w.alloc o1).alloc o2).alloc o3) w1) (hB : B = (((w.alloc o1).alloc o2).alloc o3).heap.size := by rfl) :
    w1.heap[w.heap.size]? = some o1 ∧ w1.heap[w.heap.size + 1]? = some o2 ∧ w1.heap[w.heap.size + 1 + 1]? = some o3 := by
  subst hB
  have key : ∀ (w : World) (o : Obj), (w.alloc o).heap[w.heap.size]? = some o := fun w o => by
    show (w.heap.push o)[w.heap.size]? = _
    simp
  refine ⟨?_, ?_, ?_⟩
  · rw [hb.block _ (by simp; omega), Below.heap_alloc _ _ _ (by simp; omega), Below.heap_alloc _ _ _ (by simp)]
    exact key _ _
  · rw [hb.block _ (by simp), Below.heap_alloc _ _ _ (by simp), show w.heap.size + 1 = (w.alloc o1).heap.size by simp]
    exact key _ _
  · rw [hb.block _ (by simp), show w.heap.size + 1 + 1 = ((w.alloc o1).alloc o2).heap.size by simp]
    exact key _ _

set_option maxRecDepth 100000 in
set_option maxHeartbeats 4000000 in
theorem pack_any (x y : Int) (w : World) : Calls Try.prog 29 #[.agg #[.int .i64 x, .int .i64 y]] w fun e w' => e = .returned (.tuple #[packV x y, .int .i64 (chkAll x y)]) ∧ Below w.heap.size w w' := by
  rcases h : (chkAll x y != 0) with _ | _
  · obtain ⟨⟨a1, a2⟩, a3, a4⟩ := chkAll_zero_iff.1 (show chkAll x y = 0 by simpa using h)
    have H := Lib.hid (packV_ok h)
    have H0 := Lib.hid (show chkAll x y = 0 by simpa using h)
    go_enter Try.func29, Try.ntmps29
    go_wp2_with fail
    refine (checkAll_any _ _ _).mono ?_
    rintro e w1 ⟨rfl, hb⟩
    have hB : Below w.heap.size w w1 := base3 hb
    obtain ⟨g1, g2, g3⟩ := heap3 hb
    obtain ⟨⟨c0, c1, c2, c3, c4, c5, c6, c7, c8, c9, c10, c11, c12, c13⟩, cf⟩ := block14 g2
    obtain ⟨⟨d0, d1, d2, d3, d4, d5, d6, d7, d8, d9, d10, d11, d12, d13⟩, df⟩ := block14 g3
    have e0 : w1.cell? ⟨w.heap.size, 0, none⟩ = some (.int .i64 x) := by simp [World.cell?, g1]
    have e1 : w1.cell? ⟨w.heap.size, 1, none⟩ = some (.int .i64 y) := by simp [World.cell?, g1]
    clear g1 g2 g3 hb
    go_wp2
    refine wp_loop_rounds 15 ?_
    iterate 14 (rw [rounds_succ]; go_wp2)
    rw [rounds_succ]
    go_wp2
    refine bodyPost_ret (v := .tuple #[packV x y, .int .i64 (chkAll x y)]) (by rw [H.out, H0.out]; simp [results, Try.results29, go_sem, bytes14, c0, c1, c2, c3, c4, c5, c6, c7, c8, c9, c10, c11, c12, c13]) rfl ⟨rfl, ?_⟩
    repeat (with_reducible refine Below.setCell ?_ (by first | omega | (simp; done) | (simp; omega)) _)
    exact hB
  · have H := Lib.hid (packV_bad h)
    go_enter Try.func29, Try.ntmps29
    go_wp2_with fail
    refine (checkAll_any _ _ _).mono ?_
    rintro e w1 ⟨rfl, hb⟩
    have hB : Below w.heap.size w w1 := base3 hb
    obtain ⟨g1, g2, g3⟩ := heap3 hb
    obtain ⟨⟨c0, c1, c2, c3, c4, c5, c6, c7, c8, c9, c10, c11, c12, c13⟩, cf⟩ := block14 g2
    obtain ⟨⟨d0, d1, d2, d3, d4, d5, d6, d7, d8, d9, d10, d11, d12, d13⟩, df⟩ := block14 g3
    clear g1 g2 g3 hb
    go_wp2
    refine bodyPost_ret (v := .tuple #[packV x y, .int .i64 (chkAll x y)]) (by rw [H.out]; simp [results, Try.results29, go_sem, zero14, c0, c1, c2, c3, c4, c5, c6, c7, c8, c9, c10, c11, c12, c13]) rfl ⟨rfl, ?_⟩
    repeat (with_reducible refine Below.setCell ?_ (by first | omega | (simp; done) | (simp; omega)) _)
    exact hB

end Go.Proofs.Ytnaphpgbmjpicaa
