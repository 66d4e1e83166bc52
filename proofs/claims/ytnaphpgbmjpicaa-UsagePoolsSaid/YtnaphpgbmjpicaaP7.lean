/- live of layer 13: it holds. -/
import Derived.Test.YtnaphpgbmjpicaaP6
namespace Go.Proofs.Ytnaphpgbmjpicaa
open Go.RowKit
attribute [local go_sem] eqIn26 eqG26 run_store_one

/-- live's snapshot. -/
def liveSn (b : Nat) : Sn := ⟨.int .i64 0, .int .i64 0, .int .i64 0, .int .i64 0, .int .i64 0, .int .i64 0, .slice none 0 0, some ⟨b + 1 + 1, 0, none⟩, [⟨.string ⟨#[120]⟩, .string ⟨#[]⟩, 500, 1024, .int .i64 0, .slice none 0 0, .slice none 0 0, .slice none 0 0, .slice none 0 0, .slice none 0 0, .int .i64 0, ⟨#[99, 49]⟩, rfl, rfl, rfl, rfl, rfl, rfl, rfl, rfl, rfl⟩, ⟨.string ⟨#[121]⟩, .string ⟨#[]⟩, 700, 0, .int .i64 0, .slice none 0 0, .slice none 0 0, .slice none 0 0, .slice none 0 0, .slice none 0 0, .int .i64 0, ⟨#[99, 49]⟩, rfl, rfl, rfl, rfl, rfl, rfl, rfl, rfl, rfl⟩], 2, some ⟨b + 1, 0, none⟩, [⟨⟨#[112]⟩, .int .i64 0, .int .i64 0, .int .i64 0, .slice none 0 0, .slice none 0 0, .int .i64 0, .int .i64 0, .int .i64 0, .int .i64 0, rfl, rfl, rfl, rfl, rfl, rfl, rfl, rfl, rfl⟩], 1, some ⟨b, 0, none⟩, [⟨⟨#[99, 49]⟩, ⟨#[112]⟩, .int .i64 0, .string ⟨#[]⟩, .string ⟨#[]⟩, .string ⟨#[]⟩, .int .i64 0, 2000, 4096, .slice none 0 0, .int .i64 0, .string ⟨#[]⟩, .int .i64 0, .int .i64 0, .bool false, rfl, rfl, rfl, rfl, rfl, rfl, rfl, rfl, rfl, rfl, rfl⟩], 1, .slice none 0 0, .slice none 0 0, .slice none 0 0, .slice none 0 0, rfl, rfl, rfl, rfl, rfl, rfl, rfl, rfl, rfl, rfl, rfl⟩
def liveCells (b : Nat) : Array Value := #[.int .i64 0, .int .i64 0, .int .i64 0, .int .i64 0, .int .i64 0, .int .i64 0, .slice none 0 0, .slice (some ⟨b + 1 + 1, 0, none⟩) 2 2, .slice (some ⟨b + 1, 0, none⟩) 1 1, .slice (some ⟨b, 0, none⟩) 1 1, .slice none 0 0, .slice none 0 0, .slice none 0 0, .slice none 0 0]
theorem live_used (b : Nat) : usedOf (liveSn b) ⟨#[99, 49]⟩ = (1200, 1024, 0) := by
  simp only [usedOf, liveSn, sel, ByteArray.toList_eq]
  kernel_rfl
theorem live_none (b : Nat) : usedOf (liveSn b) ⟨#[99, 50]⟩ = (0, 0, 5) := by
  simp only [usedOf, liveSn, sel, ByteArray.toList_eq]
  kernel_rfl
theorem live_pool (b : Nat) : poolOf (liveSn b) ⟨#[112]⟩ = (2000, 4096, 0) := by
  simp only [poolOf, liveSn, sel, ByteArray.toList_eq]
  kernel_rfl
theorem live_free (b : Nat) : freeOf (liveSn b) ⟨#[99, 49]⟩ = (800, 3072, 0) := by
  unfold freeOf
  rw [live_used]
  simp only [liveSn, ByteArray.toList_eq]
  kernel_rfl
theorem rw_one {w : World} {b k : Nat} {r : List Value} (hb : b < w.heap.size) (hk : r.length = k) (h : ∀ j, w.cell? ⟨b, j, none⟩ = r[j]?) : Rw w (some ⟨b, 0, none⟩) k [r] := by
  intro i r' hr
  match i, hr with
  | 0, hr =>
    cases hr
    exact ⟨b, 0, rfl, hb, hk, fun j v hj => by rw [show 0 + 0 * k + j = j by omega, h, hj]⟩
  | i + 1, hr => simp at hr
theorem rw_two {w : World} {b k : Nat} {r s : List Value} (hb : b < w.heap.size) (hk : r.length = k) (hs : s.length = k) (h : ∀ j, w.cell? ⟨b, j, none⟩ = (r ++ s)[j]?) : Rw w (some ⟨b, 0, none⟩) k [r, s] := by
  intro i r' hr
  match i, hr with
  | 0, hr =>
    cases hr
    refine ⟨b, 0, rfl, hb, hk, fun j v hj => ?_⟩
    have hlt : j < r.length := (List.getElem?_eq_some_iff.1 hj).1
    rw [show 0 + 0 * k + j = j by omega, h, List.getElem?_append_left hlt, hj]
  | 1, hr =>
    cases hr
    refine ⟨b, 0, rfl, hb, hs, fun j v hj => ?_⟩
    rw [show 0 + 1 * k + j = k + j by omega, h, List.getElem?_append_right (by omega), hk, Nat.add_sub_cancel_left, hj]
  | i + 2, hr => simp at hr
theorem new_list (w : World) (l : List Value) (t : TypeId) (j : Nat) : (w.alloc (.cells l.toArray t)).cell? ⟨w.heap.size, j, none⟩ = l[j]? := by
  rw [World.cell?_alloc_new]; simp
theorem live_ok (w : World) : (liveSn w.heap.size).Ok ((((w.alloc (.cells #[.string ⟨#[99, 49]⟩, .string ⟨#[112]⟩, .int .i64 0, .string ⟨#[]⟩, .string ⟨#[]⟩, .string ⟨#[]⟩, .int .i64 0, .int .i64 2000, .int .i64 4096, .slice none 0 0, .int .i64 0, .string ⟨#[]⟩, .int .i64 0, .int .i64 0, .bool false] 62)).alloc (.cells #[.string ⟨#[112]⟩, .int .i64 0, .int .i64 0, .int .i64 0, .slice none 0 0, .slice none 0 0, .int .i64 0, .int .i64 0, .int .i64 0, .int .i64 0] 71)).alloc (.cells #[.string ⟨#[120]⟩, .string ⟨#[]⟩, .int .i64 500, .int .i64 1024, .int .i64 0, .slice none 0 0, .slice none 0 0, .slice none 0 0, .slice none 0 0, .slice none 0 0, .int .i64 0, .string ⟨#[99, 49]⟩, .string ⟨#[121]⟩, .string ⟨#[]⟩, .int .i64 700, .int .i64 0, .int .i64 0, .slice none 0 0, .slice none 0 0, .slice none 0 0, .slice none 0 0, .slice none 0 0, .int .i64 0, .string ⟨#[99, 49]⟩] 76)).alloc (.cells (liveCells w.heap.size) 55)) := by
  have e1 : w.heap.size + 1 = (w.alloc (.cells #[.string ⟨#[99, 49]⟩, .string ⟨#[112]⟩, .int .i64 0, .string ⟨#[]⟩, .string ⟨#[]⟩, .string ⟨#[]⟩, .int .i64 0, .int .i64 2000, .int .i64 4096, .slice none 0 0, .int .i64 0, .string ⟨#[]⟩, .int .i64 0, .int .i64 0, .bool false] 62)).heap.size := by simp
  have e2 : w.heap.size + 1 + 1 = ((w.alloc (.cells #[.string ⟨#[99, 49]⟩, .string ⟨#[112]⟩, .int .i64 0, .string ⟨#[]⟩, .string ⟨#[]⟩, .string ⟨#[]⟩, .int .i64 0, .int .i64 2000, .int .i64 4096, .slice none 0 0, .int .i64 0, .string ⟨#[]⟩, .int .i64 0, .int .i64 0, .bool false] 62)).alloc (.cells #[.string ⟨#[112]⟩, .int .i64 0, .int .i64 0, .int .i64 0, .slice none 0 0, .slice none 0 0, .int .i64 0, .int .i64 0, .int .i64 0, .int .i64 0] 71)).heap.size := by simp
  refine ⟨rw_two (by simp) rfl rfl fun j => ?_, rw_one (by first | (simp; done) | (simp; omega)) rfl fun j => ?_, rw_one (by first | (simp; done) | (simp; omega)) rfl fun j => ?_, by show 2 * 16 ≤ _; decide, by show 1 * 16 ≤ _; decide, by show 1 * 16 ≤ _; decide⟩
  · rw [World.cell?_alloc_lt _ _ _ (by simp), e2]; exact new_list _ _ _ _
  · rw [World.cell?_alloc_lt _ _ _ (by first | (simp; done) | (simp; omega)), World.cell?_alloc_lt _ _ _ (by simp), e1]; exact new_list _ _ _ _
  · rw [World.cell?_alloc_lt _ _ _ (by first | (simp; done) | (simp; omega)), World.cell?_alloc_lt _ _ _ (by first | (simp; done) | (simp; omega)), World.cell?_alloc_lt _ _ _ (by simp)]; exact new_list _ _ _ _
theorem live_cells {w : World} {b : Nat} (h : ∀ j, w.cell? ⟨b + 1 + 1 + 1, j, none⟩ = (liveCells b)[j]?) : w.cell? ⟨b + 1 + 1 + 1, 0, none⟩ = some (.int .i64 0) ∧ w.cell? ⟨b + 1 + 1 + 1, 1, none⟩ = some (.int .i64 0) ∧ w.cell? ⟨b + 1 + 1 + 1, 2, none⟩ = some (.int .i64 0) ∧ w.cell? ⟨b + 1 + 1 + 1, 3, none⟩ = some (.int .i64 0) ∧ w.cell? ⟨b + 1 + 1 + 1, 4, none⟩ = some (.int .i64 0) ∧ w.cell? ⟨b + 1 + 1 + 1, 5, none⟩ = some (.int .i64 0) ∧ w.cell? ⟨b + 1 + 1 + 1, 6, none⟩ = some (.slice none 0 0) ∧ w.cell? ⟨b + 1 + 1 + 1, 7, none⟩ = some (.slice (some ⟨b + 1 + 1, 0, none⟩) 2 2) ∧ w.cell? ⟨b + 1 + 1 + 1, 8, none⟩ = some (.slice (some ⟨b + 1, 0, none⟩) 1 1) ∧ w.cell? ⟨b + 1 + 1 + 1, 9, none⟩ = some (.slice (some ⟨b, 0, none⟩) 1 1) ∧ w.cell? ⟨b + 1 + 1 + 1, 10, none⟩ = some (.slice none 0 0) ∧ w.cell? ⟨b + 1 + 1 + 1, 11, none⟩ = some (.slice none 0 0) ∧ w.cell? ⟨b + 1 + 1 + 1, 12, none⟩ = some (.slice none 0 0) ∧ w.cell? ⟨b + 1 + 1 + 1, 13, none⟩ = some (.slice none 0 0) :=
  ⟨h 0, h 1, h 2, h 3, h 4, h 5, h 6, h 7, h 8, h 9, h 10, h 11, h 12, h 13⟩

set_option maxRecDepth 100000 in
set_option maxHeartbeats 4000000 in
theorem live13_any (w : World) : Calls Try.prog 33 #[] w fun e w' => e = .returned (.bool true) ∧ Below w.heap.size w w' := by
  obtain ⟨b, hb⟩ : ∃ b, b = w.heap.size := ⟨_, rfl⟩
  have U : ∀ w, (liveSn b).Ok w → Calls Try.prog 34 #[.agg #[.int .i64 0, .int .i64 0, .int .i64 0, .int .i64 0, .int .i64 0, .int .i64 0, .slice none 0 0, .slice (some ⟨b + 1 + 1, 0, none⟩) 2 2, .slice (some ⟨b + 1, 0, none⟩) 1 1, .slice (some ⟨b, 0, none⟩) 1 1, .slice none 0 0, .slice none 0 0, .slice none 0 0, .slice none 0 0], .string ⟨#[99, 49]⟩] w fun e w' => e = .returned (.tuple #[.agg #[.int .i64 1200, .int .i64 1024], .int .i64 0]) ∧ Below w.heap.size w w' := fun w h => by
    have := used_any (liveSn b) ⟨#[99, 49]⟩ w h; rw [live_used] at this; exact this
  have V : ∀ w, (liveSn b).Ok w → Calls Try.prog 34 #[.agg #[.int .i64 0, .int .i64 0, .int .i64 0, .int .i64 0, .int .i64 0, .int .i64 0, .slice none 0 0, .slice (some ⟨b + 1 + 1, 0, none⟩) 2 2, .slice (some ⟨b + 1, 0, none⟩) 1 1, .slice (some ⟨b, 0, none⟩) 1 1, .slice none 0 0, .slice none 0 0, .slice none 0 0, .slice none 0 0], .string ⟨#[99, 50]⟩] w fun e w' => e = .returned (.tuple #[.agg #[.int .i64 0, .int .i64 0], .int .i64 5]) ∧ Below w.heap.size w w' := fun w h => by
    have := used_any (liveSn b) ⟨#[99, 50]⟩ w h; rw [live_none] at this; exact this
  have X : ∀ w, (liveSn b).Ok w → Calls Try.prog 36 #[.agg #[.int .i64 0, .int .i64 0, .int .i64 0, .int .i64 0, .int .i64 0, .int .i64 0, .slice none 0 0, .slice (some ⟨b + 1 + 1, 0, none⟩) 2 2, .slice (some ⟨b + 1, 0, none⟩) 1 1, .slice (some ⟨b, 0, none⟩) 1 1, .slice none 0 0, .slice none 0 0, .slice none 0 0, .slice none 0 0], .string ⟨#[99, 49]⟩] w fun e w' => e = .returned (.tuple #[.agg #[.int .i64 800, .int .i64 3072], .int .i64 0]) ∧ Below w.heap.size w w' := fun w h => by
    have := free_any (liveSn b) ⟨#[99, 49]⟩ w h; rw [live_free] at this; exact this
  have Y : ∀ w, (liveSn b).Ok w → Calls Try.prog 38 #[.agg #[.int .i64 0, .int .i64 0, .int .i64 0, .int .i64 0, .int .i64 0, .int .i64 0, .slice none 0 0, .slice (some ⟨b + 1 + 1, 0, none⟩) 2 2, .slice (some ⟨b + 1, 0, none⟩) 1 1, .slice (some ⟨b, 0, none⟩) 1 1, .slice none 0 0, .slice none 0 0, .slice none 0 0, .slice none 0 0], .string ⟨#[112]⟩] w fun e w' => e = .returned (.tuple #[.agg #[.int .i64 2000, .int .i64 4096], .int .i64 0]) ∧ Below w.heap.size w w' := fun w h => by
    have := pool_any (liveSn b) ⟨#[112]⟩ w h; rw [live_pool] at this; exact this
  have HU := Lib.hid U
  have HV := Lib.hid V
  have HX := Lib.hid X
  have HY := Lib.hid Y
  have hok := live_ok w
  obtain ⟨W, hW⟩ : ∃ W, W = ((((w.alloc (.cells #[.string ⟨#[99, 49]⟩, .string ⟨#[112]⟩, .int .i64 0, .string ⟨#[]⟩, .string ⟨#[]⟩, .string ⟨#[]⟩, .int .i64 0, .int .i64 2000, .int .i64 4096, .slice none 0 0, .int .i64 0, .string ⟨#[]⟩, .int .i64 0, .int .i64 0, .bool false] 62)).alloc (.cells #[.string ⟨#[112]⟩, .int .i64 0, .int .i64 0, .int .i64 0, .slice none 0 0, .slice none 0 0, .int .i64 0, .int .i64 0, .int .i64 0, .int .i64 0] 71)).alloc (.cells #[.string ⟨#[120]⟩, .string ⟨#[]⟩, .int .i64 500, .int .i64 1024, .int .i64 0, .slice none 0 0, .slice none 0 0, .slice none 0 0, .slice none 0 0, .slice none 0 0, .int .i64 0, .string ⟨#[99, 49]⟩, .string ⟨#[121]⟩, .string ⟨#[]⟩, .int .i64 700, .int .i64 0, .int .i64 0, .slice none 0 0, .slice none 0 0, .slice none 0 0, .slice none 0 0, .slice none 0 0, .int .i64 0, .string ⟨#[99, 49]⟩] 76)).alloc (.cells (liveCells b) 55)) := ⟨_, rfl⟩
  rw [← hb, ← hW] at hok
  have hB0 : Below w.heap.size w W := by rw [hW]; exact new3.alloc (by simp; omega) _
  have hz : b + 1 + 1 + 1 < W.heap.size := by rw [hW, hb]; simp
  have hc : ∀ j, W.cell? ⟨b + 1 + 1 + 1, j, none⟩ = (liveCells b)[j]? := fun j => by
    have e3 : b + 1 + 1 + 1 = (((w.alloc (.cells #[.string ⟨#[99, 49]⟩, .string ⟨#[112]⟩, .int .i64 0, .string ⟨#[]⟩, .string ⟨#[]⟩, .string ⟨#[]⟩, .int .i64 0, .int .i64 2000, .int .i64 4096, .slice none 0 0, .int .i64 0, .string ⟨#[]⟩, .int .i64 0, .int .i64 0, .bool false] 62)).alloc (.cells #[.string ⟨#[112]⟩, .int .i64 0, .int .i64 0, .int .i64 0, .slice none 0 0, .slice none 0 0, .int .i64 0, .int .i64 0, .int .i64 0, .int .i64 0] 71)).alloc (.cells #[.string ⟨#[120]⟩, .string ⟨#[]⟩, .int .i64 500, .int .i64 1024, .int .i64 0, .slice none 0 0, .slice none 0 0, .slice none 0 0, .slice none 0 0, .slice none 0 0, .int .i64 0, .string ⟨#[99, 49]⟩, .string ⟨#[121]⟩, .string ⟨#[]⟩, .int .i64 700, .int .i64 0, .int .i64 0, .slice none 0 0, .slice none 0 0, .slice none 0 0, .slice none 0 0, .slice none 0 0, .int .i64 0, .string ⟨#[99, 49]⟩] 76)).heap.size := by rw [hb]; simp
    rw [hW, e3, World.cell?_alloc_new]
  have OK := Lib.hid hok
  have HC := Lib.hid hc
  have HB := Lib.hid hb
  have HW := Lib.hid hW
  clear U V X Y hok hb hW hc
  go_enter Try.func33, Try.ntmps33
  go_wp2_with fail
  rw [← HB.out]
  show Calls Try.prog 34 _ ((((w.alloc (.cells #[.string ⟨#[99, 49]⟩, .string ⟨#[112]⟩, .int .i64 0, .string ⟨#[]⟩, .string ⟨#[]⟩, .string ⟨#[]⟩, .int .i64 0, .int .i64 2000, .int .i64 4096, .slice none 0 0, .int .i64 0, .string ⟨#[]⟩, .int .i64 0, .int .i64 0, .bool false] 62)).alloc (.cells #[.string ⟨#[112]⟩, .int .i64 0, .int .i64 0, .int .i64 0, .slice none 0 0, .slice none 0 0, .int .i64 0, .int .i64 0, .int .i64 0, .int .i64 0] 71)).alloc (.cells #[.string ⟨#[120]⟩, .string ⟨#[]⟩, .int .i64 500, .int .i64 1024, .int .i64 0, .slice none 0 0, .slice none 0 0, .slice none 0 0, .slice none 0 0, .slice none 0 0, .int .i64 0, .string ⟨#[99, 49]⟩, .string ⟨#[121]⟩, .string ⟨#[]⟩, .int .i64 700, .int .i64 0, .int .i64 0, .slice none 0 0, .slice none 0 0, .slice none 0 0, .slice none 0 0, .slice none 0 0, .int .i64 0, .string ⟨#[99, 49]⟩] 76)).alloc (.cells (liveCells b) 55)) _
  rw [← HW.out]
  refine (HU.out W OK.out).mono ?_
  rintro er w1 ⟨rfl, hb1⟩
  have q1 : Below W.heap.size W w1 := hb1
  have HC1 : Hid (∀ j, w1.cell? ⟨b + 1 + 1 + 1, j, none⟩ = (liveCells b)[j]?) := Lib.hid fun j => (q1.cell (p := ⟨b + 1 + 1 + 1, j, none⟩) (by show b + 1 + 1 + 1 < _; omega)).trans (HC.out j)
  have OK1 := Lib.hid (OK.out.below (Nat.le_refl _) q1)
  have z1 : W.heap.size ≤ w1.heap.size := hb1.size
  have hB1 : Below w.heap.size w w1 := hB0.trans (q1.mono hB0.size)
  have y1 : b + 1 + 1 + 1 < w1.heap.size := by omega
  clear hb1 q1 hB0
  obtain ⟨t0, t1, t2, t3, t4, t5, t6, t7, t8, t9, t10, t11, t12, t13⟩ := live_cells HC1.out
  go_wp2_with fail
  refine (HX.out _ (OK1.out.below (Nat.le_refl _) new1)).mono ?_
  rintro er w2 ⟨rfl, hb2⟩
  have q2 : Below w1.heap.size w1 w2 := new1.trans (hb2.mono (by simp))
  obtain ⟨a1, b1⟩ := box1 hb2
  have HC2 : Hid (∀ j, w2.cell? ⟨b + 1 + 1 + 1, j, none⟩ = (liveCells b)[j]?) := Lib.hid fun j => (q2.cell (p := ⟨b + 1 + 1 + 1, j, none⟩) (by show b + 1 + 1 + 1 < _; omega)).trans (HC1.out j)
  have OK2 := Lib.hid (OK1.out.below (Nat.le_refl _) q2)
  have z2 : w1.heap.size < w2.heap.size := by have := hb2.size; simp at this; omega
  have hB2 : Below w.heap.size w w2 := hB1.trans (q2.mono hB1.size)
  have y2 : b + 1 + 1 + 1 < w2.heap.size := by omega
  clear hb2 q2 hB1 t0 t1 t2 t3 t4 t5 t6 t7 t8 t9 t10 t11 t12 t13
  obtain ⟨t0, t1, t2, t3, t4, t5, t6, t7, t8, t9, t10, t11, t12, t13⟩ := live_cells HC2.out
  go_wp2_with fail
  refine (HY.out _ (OK2.out.below (Nat.le_refl _) new1)).mono ?_
  rintro er w3 ⟨rfl, hb3⟩
  have q3 : Below w2.heap.size w2 w3 := new1.trans (hb3.mono (by simp))
  obtain ⟨a2, b2⟩ := box1 hb3
  have HC3 : Hid (∀ j, w3.cell? ⟨b + 1 + 1 + 1, j, none⟩ = (liveCells b)[j]?) := Lib.hid fun j => (q3.cell (p := ⟨b + 1 + 1 + 1, j, none⟩) (by show b + 1 + 1 + 1 < _; omega)).trans (HC2.out j)
  have OK3 := Lib.hid (OK2.out.below (Nat.le_refl _) q3)
  obtain ⟨a1_3, b1_3⟩ := carry1 q3 (by omega) a1 b1
  have z3 : w2.heap.size < w3.heap.size := by have := hb3.size; simp at this; omega
  have hB3 : Below w.heap.size w w3 := hB2.trans (q3.mono hB2.size)
  have y3 : b + 1 + 1 + 1 < w3.heap.size := by omega
  clear hb3 q3 hB2 a1 b1 t0 t1 t2 t3 t4 t5 t6 t7 t8 t9 t10 t11 t12 t13
  obtain ⟨t0, t1, t2, t3, t4, t5, t6, t7, t8, t9, t10, t11, t12, t13⟩ := live_cells HC3.out
  go_wp2_with fail
  refine (HV.out _ (OK3.out.below (Nat.le_refl _) new1)).mono ?_
  rintro er w4 ⟨rfl, hb4⟩
  have q4 : Below w3.heap.size w3 w4 := new1.trans (hb4.mono (by simp))
  obtain ⟨a3, b3⟩ := box1 hb4
  obtain ⟨a1_4, b1_4⟩ := carry1 q4 (by omega) a1_3 b1_3
  obtain ⟨a2_4, b2_4⟩ := carry1 q4 (by omega) a2 b2
  have z4 : w3.heap.size < w4.heap.size := by have := hb4.size; simp at this; omega
  have hB4 : Below w.heap.size w w4 := hB3.trans (q4.mono hB3.size)
  have y4 : b + 1 + 1 + 1 < w4.heap.size := by omega
  clear hb4 q4 hB3 a1_3 b1_3 a2 b2 t0 t1 t2 t3 t4 t5 t6 t7 t8 t9 t10 t11 t12 t13
  have zz1 : w1.heap.size < w4.heap.size := by omega
  have zz2 : w2.heap.size < w4.heap.size := by omega
  go_wp2_with fail
  go_ret
  exact ⟨rfl, by first | exact hB4 | exact hB4.alloc (by have := hB4.size; omega) _⟩
end Go.Proofs.Ytnaphpgbmjpicaa
