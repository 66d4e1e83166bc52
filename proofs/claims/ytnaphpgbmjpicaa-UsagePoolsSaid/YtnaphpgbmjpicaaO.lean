/- Contracts: live of layer 1: it holds. -/
import Derived.Test.YtnaphpgbmjpicaaM
import Derived.Test.YtnaphpgbmjpicaaN
namespace Go.Proofs.Ytnaphpgbmjpicaa
open Go.RowKit

theorem live_add (w : World) : Calls Try.prog 21 #[.agg #[.int .i64 1, .int .i64 2], .agg #[.int .i64 3, .int .i64 4]] w fun e w' => e = .returned (.tuple #[.agg #[.int .i64 4, .int .i64 6], .int .i64 0]) ∧ Below w.heap.size w w' := add_any 1 2 3 4 w
theorem live_sub (w : World) : Calls Try.prog 23 #[.agg #[.int .i64 3, .int .i64 4], .agg #[.int .i64 1, .int .i64 4]] w fun e w' => e = .returned (.tuple #[.agg #[.int .i64 2, .int .i64 0], .int .i64 0]) ∧ Below w.heap.size w w' := sub_any 3 4 1 4 w
theorem live_sum (W w : World) (b : Nat) (hW : W = w.alloc (.cells #[.int .i64 1, .int .i64 1, .int .i64 2, .int .i64 3, .int .i64 4, .int .i64 5] 26)) (hb : b = w.heap.size) : Calls Try.prog 25 #[.slice (some ⟨b, 0, none⟩) 3 3] W fun e w' => e = .returned (.tuple #[.agg #[.int .i64 7, .int .i64 9], .int .i64 0]) ∧ Below W.heap.size W w' := by
  subst hW; subst hb
  refine sum_any [(1, 1), (2, 3), (4, 5)] (some ⟨w.heap.size, 0, none⟩) 3 _ ?_ (by decide)
  intro i hi
  refine ⟨w.heap.size, 0, rfl, by simp, ?_⟩
  rw [World.cell?_alloc_new, World.cell?_alloc_new]
  match i, hi with
  | 0, _ => exact ⟨rfl, rfl⟩
  | 1, _ => exact ⟨rfl, rfl⟩
  | 2, _ => exact ⟨rfl, rfl⟩
theorem live_total (W w : World) (b : Nat) (hW : W = w.alloc (.cells #[.int .i64 1, .int .i64 2, .int .i64 3] 2)) (hb : b = w.heap.size) : Calls Try.prog 27 #[.slice (some ⟨b, 0, none⟩) 3 3] W fun e w' => e = .returned (.tuple #[.int .i64 6, .int .i64 0]) ∧ Below W.heap.size W w' := by
  subst hW; subst hb
  refine total_any [1, 2, 3] (some ⟨w.heap.size, 0, none⟩) 3 _ ?_ (by decide)
  intro i hi
  refine ⟨w.heap.size, 0, rfl, by simp, ?_⟩
  rw [World.cell?_alloc_new]
  match i, hi with
  | 0, _ => rfl
  | 1, _ => rfl
  | 2, _ => rfl
def livePack : Value := .agg #[.int .u8 2, .int .u8 1, .int .u8 0, .int .u8 0, .int .u8 0, .int .u8 0, .int .u8 0, .int .u8 0, .int .u8 0, .int .u8 0, .int .u8 0, .int .u8 0, .int .u8 0, .int .u8 4]
theorem live_packV : packV 258 1125899906842624 = livePack := by
  rw [packV_ok (by decide)]; kernel_rfl
theorem live_pack (w : World) : Calls Try.prog 29 #[.agg #[.int .i64 258, .int .i64 1125899906842624]] w fun e w' => e = .returned (.tuple #[.agg #[.int .u8 2, .int .u8 1, .int .u8 0, .int .u8 0, .int .u8 0, .int .u8 0, .int .u8 0, .int .u8 0, .int .u8 0, .int .u8 0, .int .u8 0, .int .u8 0, .int .u8 0, .int .u8 4], .int .i64 0]) ∧ Below w.heap.size w w' := by
  refine (pack_any 258 1125899906842624 w).mono fun e w' ⟨he, hb⟩ => ⟨?_, hb⟩
  rw [he, live_packV]; rfl
theorem live_fits (w : World) : Calls Try.prog 20 #[.agg #[.int .i64 1, .int .i64 1], .agg #[.int .i64 1, .int .i64 2]] w fun e w' => e = .returned (.bool true) ∧ Below w.heap.size w w' := fits_any 1 1 1 2 w
theorem live_check (w : World) : Calls Try.prog 15 #[.int .i64 (-1)] w fun e w' => e = .returned (.int .i64 11) ∧ w = w' := check_any (-1) w

theorem carry1 {B b : Nat} {w1 w2 : World} {x y : Value} (hb : Below B w1 w2) (h : b < B) (c1 : w1.cell? ⟨b, 0, none⟩ = some x) (c2 : w1.cell? ⟨b, 1, none⟩ = some y) :
    w2.cell? ⟨b, 0, none⟩ = some x ∧ w2.cell? ⟨b, 1, none⟩ = some y :=
  ⟨(hb.cell (p := ⟨b, 0, none⟩) h).trans c1, (hb.cell (p := ⟨b, 1, none⟩) h).trans c2⟩
/-- The first of two new blocks, a pair. -/
theorem box1' {w w1 : World} {a0 a1 : Value} {t : TypeId} {o : Obj} {B : Nat} (hb : Below B ((w.alloc (.cells #[a0, a1] t)).alloc o) w1) (hB : B = ((w.alloc (.cells #[a0, a1] t)).alloc o).heap.size := by rfl) :
    w1.cell? ⟨w.heap.size, 0, none⟩ = some a0 ∧ w1.cell? ⟨w.heap.size, 1, none⟩ = some a1 := by
  subst hB
  obtain ⟨hc, _⟩ := bcell hb
  simp only [World.size_alloc] at hc
  refine ⟨?_, ?_⟩
  · rw [hc _ _ (by omega), World.cell?_alloc_lt _ _ _ (by simp), World.cell?_alloc_new]; rfl
  · rw [hc _ _ (by omega), World.cell?_alloc_lt _ _ _ (by simp), World.cell?_alloc_new]; rfl

attribute [local go_sem] eqIn26 eqG26

set_option maxRecDepth 100000 in
set_option maxHeartbeats 2000000 in
theorem live1_any (w : World) : Calls Try.prog 14 #[] w fun e w' => e = .returned (.bool true) ∧ Below w.heap.size w w' := by
  go_enter Try.func14, Try.ntmps14
  go_wp2_with fail
  refine (live_add _).mono ?_
  rintro e w1 ⟨rfl, hb1⟩
  go_wp2_with fail
  refine (live_sub _).mono ?_
  rintro e w2 ⟨rfl, hb2⟩
  obtain ⟨a0, a1⟩ := box1 hb2
  have h12 : Below w.heap.size w w2 := hb1.trans ((below1 hb2).mono hb1.size)
  have z2 : w1.heap.size < w2.heap.size := by have := hb2.size; simp at this; omega
  go_wp2_with fail
  refine (live_sum _ _ _ rfl (by simp)).mono ?_
  rintro e w3 ⟨rfl, hb3⟩
  obtain ⟨f3, f4⟩ := box1' hb3
  have h23 : Below w2.heap.size w2 w3 := base2 hb3
  obtain ⟨b0, b1⟩ := carry1 h23 z2 a0 a1
  have h13 : Below w.heap.size w w3 := h12.trans (h23.mono h12.size)
  have z3 : w2.heap.size + 1 < w3.heap.size := by have := hb3.size; simp at this; omega
  clear hb1 hb2 hb3 a0 a1 h12
  go_wp2_with fail
  refine (live_total _ _ _ rfl (by simp)).mono ?_
  rintro e w4 ⟨rfl, hb4⟩
  obtain ⟨g3, g4⟩ := box1' hb4
  have h34 : Below w3.heap.size w3 w4 := base2 hb4
  obtain ⟨b2, b3⟩ := carry1 h34 (by omega) b0 b1
  obtain ⟨b4, b5⟩ := carry1 h34 (by omega) f3 f4
  have h14 : Below w.heap.size w w4 := h13.trans (h34.mono h13.size)
  have z4 : w3.heap.size < w4.heap.size := by have := hb4.size; simp at this; omega
  clear hb4 b0 b1 f3 f4 h23 h13
  go_wp2_with fail
  refine (live_pack _).mono ?_
  rintro e w5 ⟨rfl, hb5⟩
  obtain ⟨c2, c3⟩ := carry1 hb5 (by omega) b2 b3
  obtain ⟨c4, c5⟩ := carry1 hb5 (by omega) b4 b5
  obtain ⟨c6, c7⟩ := carry1 hb5 (by omega) g3 g4
  have h15 : Below w.heap.size w w5 := h14.trans (hb5.mono h14.size)
  have z5 : w3.heap.size < w5.heap.size := by have := hb5.size; omega
  have z6 : w2.heap.size < w5.heap.size := by omega
  have z7 : w1.heap.size < w5.heap.size := by omega
  clear hb5 b2 b3 b4 b5 g3 g4 h34 h14
  go_wp2_with fail
  refine (live_fits _).mono ?_
  rintro e w6 ⟨rfl, hb6⟩
  have h56 : Below w5.heap.size w5 w6 := below1 hb6
  go_wp2_with fail
  refine (live_check _).mono ?_
  rintro e w7 ⟨rfl, rfl⟩
  go_wp2_with fail
  go_ret
  exact ⟨rfl, h15.trans (h56.mono h15.size)⟩

end Go.Proofs.Ytnaphpgbmjpicaa
