/- Contracts: Add. -/
import Derived.Test.YtnaphpgbmjpicaaB
namespace Go.Proofs.Ytnaphpgbmjpicaa
open Go.RowKit

theorem chk_zero_iff {n : Int} : chk n = 0 ↔ 0 ≤ n ∧ n ≤ 1125899906842624 := by
  unfold chk; split
  · omega
  · split <;> omega
theorem chkAll_zero_iff {x y : Int} : chkAll x y = 0 ↔ (0 ≤ x ∧ x ≤ 1125899906842624) ∧ (0 ≤ y ∧ y ≤ 1125899906842624) := by
  unfold chkAll; split
  · rename_i h; rw [chk_zero_iff] at *; simp [h]
  · rename_i h; rw [chk_zero_iff] at *; simp only [h, false_and]
theorem both_zero_iff {x y z u : Int} : both x y z u = 0 ↔ ((0 ≤ x ∧ x ≤ 1125899906842624) ∧ (0 ≤ y ∧ y ≤ 1125899906842624)) ∧ (0 ≤ z ∧ z ≤ 1125899906842624) ∧ (0 ≤ u ∧ u ≤ 1125899906842624) := by
  unfold both; split
  · rename_i h; rw [chkAll_zero_iff] at *; simp [h]
  · rename_i h; rw [chkAll_zero_iff] at *; simp only [h, false_and]

/-- The error of Add. -/
def addE (x y z u : Int) : Int := if both x y z u = 0 then (if x + z ≤ 1125899906842624 ∧ y + u ≤ 1125899906842624 then 0 else 10) else both x y z u
/-- A sum's part, nought beside an error. -/
def addV (x y z u : Int) (p q : Int) : Int := if addE x y z u = 0 then p + q else 0

def amt (a b : Int) : Value := .agg #[.int .i64 a, .int .i64 b]

theorem add_bad {x y z u : Int} (h : (both x y z u != 0) = true) : addE x y z u = both x y z u ∧ ∀ p q, addV x y z u p q = 0 := by
  have h' : ¬ both x y z u = 0 := by simpa using h
  have e : addE x y z u = both x y z u := by unfold addE; rw [if_neg h']
  exact ⟨e, fun p q => by unfold addV; rw [e, if_neg h']⟩
theorem add_over {x y z u : Int} (h : (both x y z u != 0) = false) (h2 : ¬ (x + z ≤ 1125899906842624 ∧ y + u ≤ 1125899906842624)) : addE x y z u = 10 ∧ ∀ p q, addV x y z u p q = 0 := by
  have h' : both x y z u = 0 := by simpa using h
  have e : addE x y z u = 10 := by unfold addE; rw [if_pos h', if_neg h2]
  exact ⟨e, fun p q => by unfold addV; rw [e]; rfl⟩
theorem add_fine {x y z u : Int} (h : (both x y z u != 0) = false) (h2 : x + z ≤ 1125899906842624 ∧ y + u ≤ 1125899906842624) : addE x y z u = 0 ∧ ∀ p q, addV x y z u p q = p + q := by
  have h' : both x y z u = 0 := by simpa using h
  have e : addE x y z u = 0 := by unfold addE; rw [if_pos h', if_pos h2]
  exact ⟨e, fun p q => by unfold addV; rw [e]; rfl⟩

theorem ret_amt {a b e c d f : Int} (h1 : c = a) (h2 : d = b) (h3 : f = e) : Ending.returned (.tuple #[.agg #[.int .i64 a, .int .i64 b], .int .i64 e]) = .returned (.tuple #[.agg #[.int .i64 c, .int .i64 d], .int .i64 f]) := by rw [h1, h2, h3]

/-- What a callee leaves of three boxed pairs. -/
theorem boxes3 {w w1 : World} {a0 a1 b0 b1 c0 c1 : Value} {t1 t2 t3 : TypeId} (hb : Below (((w.alloc (.cells #[a0, a1] t1)).alloc (.cells #[b0, b1] t2)).alloc (.cells #[c0, c1] t3)).heap.size (((w.alloc (.cells #[a0, a1] t1)).alloc (.cells #[b0, b1] t2)).alloc (.cells #[c0, c1] t3)) w1) :
    (w1.cell? ⟨w.heap.size, 0, none⟩ = some a0 ∧ w1.cell? ⟨w.heap.size, 1, none⟩ = some a1 ∧ ∀ i, w1.frozen? ⟨w.heap.size, i, none⟩ = false) ∧
    (w1.cell? ⟨w.heap.size + 1, 0, none⟩ = some b0 ∧ w1.cell? ⟨w.heap.size + 1, 1, none⟩ = some b1 ∧ ∀ i, w1.frozen? ⟨w.heap.size + 1, i, none⟩ = false) ∧
    (w1.cell? ⟨w.heap.size + 1 + 1, 0, none⟩ = some c0 ∧ w1.cell? ⟨w.heap.size + 1 + 1, 1, none⟩ = some c1 ∧ ∀ i, w1.frozen? ⟨w.heap.size + 1 + 1, i, none⟩ = false) ∧ w.heap.size + 2 < w1.heap.size := by
  obtain ⟨hc, hf⟩ := bcell hb
  have hz := hb.size
  simp only [World.size_alloc] at hc hf hz
  have e1 : w.heap.size + 1 = (w.alloc (.cells #[a0, a1] t1)).heap.size := by simp
  have e2 : w.heap.size + 1 + 1 = ((w.alloc (.cells #[a0, a1] t1)).alloc (.cells #[b0, b1] t2)).heap.size := by simp
  refine ⟨⟨?_, ?_, fun i => ?_⟩, ⟨?_, ?_, fun i => ?_⟩, ⟨?_, ?_, fun i => ?_⟩, by omega⟩
  · rw [hc _ _ (by omega), World.cell?_alloc_lt _ _ _ (by simp; omega), World.cell?_alloc_lt _ _ _ (by simp), World.cell?_alloc_new]; rfl
  · rw [hc _ _ (by omega), World.cell?_alloc_lt _ _ _ (by simp; omega), World.cell?_alloc_lt _ _ _ (by simp), World.cell?_alloc_new]; rfl
  · rw [hf _ _ (by omega), World.frozen?_alloc_old _ _ _ (by simp; omega), World.frozen?_alloc_old _ _ _ (by simp), World.frozen?_alloc_new]
  · rw [hc _ _ (by omega), World.cell?_alloc_lt _ _ _ (by simp), e1, World.cell?_alloc_new]; rfl
  · rw [hc _ _ (by omega), World.cell?_alloc_lt _ _ _ (by simp), e1, World.cell?_alloc_new]; rfl
  · rw [hf _ _ (by omega), World.frozen?_alloc_old _ _ _ (by simp), e1, World.frozen?_alloc_new]
  · rw [hc _ _ (by omega), e2, World.cell?_alloc_new]; rfl
  · rw [hc _ _ (by omega), e2, World.cell?_alloc_new]; rfl
  · rw [hf _ _ (by omega), e2, World.frozen?_alloc_new]

theorem base3 {w w1 : World} {o1 o2 o3 : Obj} {B : Nat} (hb : Below B (((w.alloc o1).alloc o2).alloc o3) w1) (hB : B = (((w.alloc o1).alloc o2).alloc o3).heap.size := by rfl) : Below w.heap.size w w1 :=
  ((((Below.refl _ _).alloc (Nat.le_refl _) _).alloc (by simp) _).alloc (by simp; omega) _).trans (hb.mono (by rw [hB]; simp; omega))

set_option maxRecDepth 100000 in
set_option maxHeartbeats 1000000 in
theorem add_any (x y z u : Int) (w : World) : Calls Try.prog 21 #[.agg #[.int .i64 x, .int .i64 y], .agg #[.int .i64 z, .int .i64 u]] w fun e w' => e = .returned (.tuple #[.agg #[.int .i64 (addV x y z u x z), .int .i64 (addV x y z u y u)], .int .i64 (addE x y z u)]) ∧ Below w.heap.size w w' := by
  rcases h : (both x y z u != 0) with _ | _
  · obtain ⟨⟨⟨a1, a2⟩, a3, a4⟩, ⟨a5, a6⟩, a7, a8⟩ := both_zero_iff.1 (show both x y z u = 0 by simpa using h)
    by_cases h1 : x ≤ 1125899906842624 - z
    · by_cases h2 : y ≤ 1125899906842624 - u
      · have H := Lib.hid (add_fine h ⟨by omega, by omega⟩)
        go_enter Try.func21, Try.ntmps21
        go_wp2_with fail
        refine (both_any _ _ _ _ _).mono ?_
        rintro e w1 ⟨rfl, hb⟩
        obtain ⟨⟨c1, c2, c3⟩, ⟨c4, c5, c6⟩, ⟨c7, c8, c9⟩, c10⟩ := boxes3 hb
        have hB : Below w.heap.size w w1 := base3 hb
        go_wp2_with fail
        refine wp_loop_rounds 3 ?_
        rw [rounds_succ]
        go_wp2
        go_quiet (fail)
        go_wp2
        go_region
        go_wp2
        rw [rounds_succ]
        go_wp2
        go_quiet (fail)
        go_wp2
        go_region
        go_wp2
        rw [rounds_succ]
        go_wp2
        refine bodyPost_ret (v := .tuple #[.agg #[.int .i64 (addV x y z u x z), .int .i64 (addV x y z u y u)], .int .i64 (addE x y z u)]) (by rw [H.out.2, H.out.2, H.out.1]; simp [results, Try.results21, go_sem, c7, c8]) rfl ⟨rfl, ?_⟩
        repeat (first | exact hB | (refine Below.setCell ?_ (by first | (simp; done) | (simp; omega)) _) | (refine below_drewN ?_ _))
      · have H := Lib.hid (add_over h (by omega))
        go_enter Try.func21, Try.ntmps21
        go_wp2_with fail
        refine (both_any _ _ _ _ _).mono ?_
        rintro e w1 ⟨rfl, hb⟩
        obtain ⟨⟨c1, c2, c3⟩, ⟨c4, c5, c6⟩, ⟨c7, c8, c9⟩, c10⟩ := boxes3 hb
        have hB : Below w.heap.size w w1 := base3 hb
        go_wp2_with fail
        refine wp_loop_rounds 3 ?_
        rw [rounds_succ]
        go_wp2
        go_quiet (fail)
        go_wp2
        go_region
        go_wp2
        rw [rounds_succ]
        go_wp2
        go_quiet (fail)
        go_wp2
        refine bodyPost_ret (v := .tuple #[.agg #[.int .i64 (addV x y z u x z), .int .i64 (addV x y z u y u)], .int .i64 (addE x y z u)]) (by rw [H.out.2, H.out.2, H.out.1]; simp [results, Try.results21, go_sem, c7, c8]) rfl ⟨rfl, ?_⟩
        repeat (first | exact hB | (refine Below.setCell ?_ (by first | (simp; done) | (simp; omega)) _) | (refine below_drewN ?_ _))
    · have H := Lib.hid (add_over h (by omega))
      go_enter Try.func21, Try.ntmps21
      go_wp2_with fail
      refine (both_any _ _ _ _ _).mono ?_
      rintro e w1 ⟨rfl, hb⟩
      obtain ⟨⟨c1, c2, c3⟩, ⟨c4, c5, c6⟩, ⟨c7, c8, c9⟩, c10⟩ := boxes3 hb
      have hB : Below w.heap.size w w1 := base3 hb
      go_wp2_with fail
      refine wp_loop_rounds 3 ?_
      rw [rounds_succ]
      go_wp2
      go_quiet (fail)
      go_wp2
      refine bodyPost_ret (v := .tuple #[.agg #[.int .i64 (addV x y z u x z), .int .i64 (addV x y z u y u)], .int .i64 (addE x y z u)]) (by rw [H.out.2, H.out.2, H.out.1]; simp [results, Try.results21, go_sem, c7, c8]) rfl ⟨rfl, ?_⟩
      repeat (first | exact hB | (refine Below.setCell ?_ (by first | (simp; done) | (simp; omega)) _) | (refine below_drewN ?_ _))
  · have H := Lib.hid (add_bad h)
    go_enter Try.func21, Try.ntmps21
    go_wp2_with fail
    refine (both_any _ _ _ _ _).mono ?_
    rintro e w1 ⟨rfl, hb⟩
    obtain ⟨⟨c1, c2, c3⟩, ⟨c4, c5, c6⟩, ⟨c7, c8, c9⟩, c10⟩ := boxes3 hb
    have hB : Below w.heap.size w w1 := base3 hb
    go_wp2_with fail
    refine bodyPost_ret (v := .tuple #[.agg #[.int .i64 (addV x y z u x z), .int .i64 (addV x y z u y u)], .int .i64 (addE x y z u)]) (by rw [H.out.2, H.out.2, H.out.1]; simp [results, Try.results21, go_sem, c7, c8]) rfl ⟨rfl, ?_⟩
    repeat (first | exact hB | (refine Below.setCell ?_ (by first | (simp; done) | (simp; omega)) _) | (refine below_drewN ?_ _))

end Go.Proofs.Ytnaphpgbmjpicaa
