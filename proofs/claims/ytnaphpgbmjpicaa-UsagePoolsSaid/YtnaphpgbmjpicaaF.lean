/- Contracts: the reference's Add, Sub, Fits. -/
import Derived.Test.YtnaphpgbmjpicaaD
namespace Go.Proofs.Ytnaphpgbmjpicaa
open Go.RowKit

theorem chkAll_over {x y z u : Int} (hb : (both x y z u != 0) = false) (h : (chkAll (x + z) (y + u) != 0) = true) : chkAll (x + z) (y + u) = 10 ∧ ¬ (x + z ≤ 1125899906842624 ∧ y + u ≤ 1125899906842624) := by
  obtain ⟨⟨⟨a1, a2⟩, a3, a4⟩, ⟨a5, a6⟩, a7, a8⟩ := both_zero_iff.1 (show both x y z u = 0 by simpa using hb)
  have h1 : ¬ x + z < 0 := by omega
  have h2 : ¬ y + u < 0 := by omega
  have h' : ¬ chkAll (x + z) (y + u) = 0 := by simpa using h
  constructor
  · unfold chkAll chk at *
    simp only [if_neg h1, if_neg h2] at *
    split <;> split <;> simp_all
  · intro h3
    exact h' (chkAll_zero_iff.2 ⟨⟨by omega, by omega⟩, by omega, by omega⟩)

theorem below1 {w w1 : World} {o : Obj} {B : Nat} (hb : Below B (w.alloc o) w1) (hB : B = (w.alloc o).heap.size := by rfl) : Below w.heap.size w w1 :=
  ((Below.refl _ _).alloc (Nat.le_refl _) _).trans (hb.mono (by rw [hB]; simp))
theorem box1 {w w1 : World} {a0 a1 : Value} {t : TypeId} {B : Nat} (hb : Below B (w.alloc (.cells #[a0, a1] t)) w1) (hB : B = (w.alloc (.cells #[a0, a1] t)).heap.size := by rfl) :
    w1.cell? ⟨w.heap.size, 0, none⟩ = some a0 ∧ w1.cell? ⟨w.heap.size, 1, none⟩ = some a1 := by
  subst hB
  obtain ⟨hc, _⟩ := bcell hb
  simp only [World.size_alloc] at hc
  exact ⟨by rw [hc _ _ (by omega), World.cell?_alloc_new]; rfl, by rw [hc _ _ (by omega), World.cell?_alloc_new]; rfl⟩

set_option maxRecDepth 100000 in
set_option maxHeartbeats 1000000 in
theorem radd_any (x y z u : Int) (w : World) : Calls Try.prog 22 #[.agg #[.int .i64 x, .int .i64 y], .agg #[.int .i64 z, .int .i64 u]] w fun e w' => e = .returned (.tuple #[.agg #[.int .i64 (addV x y z u x z), .int .i64 (addV x y z u y u)], .int .i64 (addE x y z u)]) ∧ Below w.heap.size w w' := by
  rcases h : (both x y z u != 0) with _ | _
  · obtain ⟨⟨⟨a1, a2⟩, a3, a4⟩, ⟨a5, a6⟩, a7, a8⟩ := both_zero_iff.1 (show both x y z u = 0 by simpa using h)
    rcases h1 : (chkAll (x + z) (y + u) != 0) with _ | _
    · obtain ⟨⟨b1, b2⟩, b3, b4⟩ := chkAll_zero_iff.1 (show chkAll (x + z) (y + u) = 0 by simpa using h1)
      have H := Lib.hid (add_fine h ⟨b2, b4⟩)
      go_enter Try.func22, Try.ntmps22
      go_wp2_with fail
      refine (rboth_any _ _ _ _ _).mono ?_
      rintro e w1 ⟨rfl, hb⟩
      obtain ⟨⟨c1, c2, c3⟩, ⟨c4, c5, c6⟩, ⟨c7, c8, c9⟩, c10⟩ := boxes3 hb
      have hB : Below w.heap.size w w1 := base3 hb
      go_wp2_with fail
      refine (rcheckAll_any _ _ _).mono ?_
      rintro e w2 ⟨rfl, hb2⟩
      obtain ⟨d0, d1⟩ := box1 hb2
      have hb3 : Below w1.heap.size w1 w2 := below1 hb2
      obtain ⟨d7, d8, d9⟩ := carry2 hb3 (by omega) c7 c8 c9
      have d10 : w.heap.size + 2 < w2.heap.size := by have := hb3.size; omega
      have hB2 : Below w.heap.size w w2 := hB.trans (hb3.mono (by omega))
      clear hb2 hb3 c1 c2 c3 c4 c5 c6 c7 c8 c9
      go_wp2
      refine bodyPost_ret (v := .tuple #[.agg #[.int .i64 (addV x y z u x z), .int .i64 (addV x y z u y u)], .int .i64 (addE x y z u)]) (by rw [H.out.2, H.out.2, H.out.1]; simp [results, Try.results22, go_sem, d7, d8]) rfl ⟨rfl, ?_⟩
      repeat (first | exact hB2 | (refine Below.setCell ?_ (by first | (simp; done) | (simp; omega)) _) | (refine Below.drew ?_) | (refine below_drewN ?_ _))
    · obtain ⟨b1, b2⟩ := chkAll_over h h1
      have H := Lib.hid (add_over h b2)
      have G := Lib.hid b1
      clear b1 b2
      go_enter Try.func22, Try.ntmps22
      go_wp2_with fail
      refine (rboth_any _ _ _ _ _).mono ?_
      rintro e w1 ⟨rfl, hb⟩
      obtain ⟨⟨c1, c2, c3⟩, ⟨c4, c5, c6⟩, ⟨c7, c8, c9⟩, c10⟩ := boxes3 hb
      have hB : Below w.heap.size w w1 := base3 hb
      go_wp2_with fail
      refine (rcheckAll_any _ _ _).mono ?_
      rintro e w2 ⟨rfl, hb2⟩
      obtain ⟨d0, d1⟩ := box1 hb2
      have hb3 : Below w1.heap.size w1 w2 := below1 hb2
      obtain ⟨d7, d8, d9⟩ := carry2 hb3 (by omega) c7 c8 c9
      have d10 : w.heap.size + 2 < w2.heap.size := by have := hb3.size; omega
      have hB2 : Below w.heap.size w w2 := hB.trans (hb3.mono (by omega))
      clear hb2 hb3 c1 c2 c3 c4 c5 c6 c7 c8 c9
      go_wp2
      refine bodyPost_ret (v := .tuple #[.agg #[.int .i64 (addV x y z u x z), .int .i64 (addV x y z u y u)], .int .i64 (addE x y z u)]) (by rw [H.out.2, H.out.2, H.out.1]; simp [G.out]; simp [results, Try.results22, go_sem, d7, d8]) rfl ⟨rfl, ?_⟩
      repeat (first | exact hB2 | (refine Below.setCell ?_ (by first | (simp; done) | (simp; omega)) _) | (refine Below.drew ?_) | (refine below_drewN ?_ _))
  · have H := Lib.hid (add_bad h)
    go_enter Try.func22, Try.ntmps22
    go_wp2_with fail
    refine (rboth_any _ _ _ _ _).mono ?_
    rintro e w1 ⟨rfl, hb⟩
    obtain ⟨⟨c1, c2, c3⟩, ⟨c4, c5, c6⟩, ⟨c7, c8, c9⟩, c10⟩ := boxes3 hb
    have hB : Below w.heap.size w w1 := base3 hb
    go_wp2_with fail
    refine bodyPost_ret (v := .tuple #[.agg #[.int .i64 (addV x y z u x z), .int .i64 (addV x y z u y u)], .int .i64 (addE x y z u)]) (by rw [H.out.2, H.out.2, H.out.1]; simp [results, Try.results22, go_sem, c7, c8]) rfl ⟨rfl, ?_⟩
    repeat (first | exact hB | (refine Below.setCell ?_ (by first | (simp; done) | (simp; omega)) _) | (refine Below.drew ?_) | (refine below_drewN ?_ _))

set_option maxRecDepth 100000 in
set_option maxHeartbeats 1000000 in
theorem rsub_any (x y z u : Int) (w : World) : Calls Try.prog 24 #[.agg #[.int .i64 x, .int .i64 y], .agg #[.int .i64 z, .int .i64 u]] w fun e w' => e = .returned (.tuple #[.agg #[.int .i64 (subV x y z u x z), .int .i64 (subV x y z u y u)], .int .i64 (subE x y z u)]) ∧ Below w.heap.size w w' := by
  rcases h : (both x y z u != 0) with _ | _
  · obtain ⟨⟨⟨a1, a2⟩, a3, a4⟩, ⟨a5, a6⟩, a7, a8⟩ := both_zero_iff.1 (show both x y z u = 0 by simpa using h)
    by_cases h1 : x < z
    · have H := Lib.hid (sub_below h (by omega))
      go_enter Try.func24, Try.ntmps24
      go_wp2_with fail
      refine (rboth_any _ _ _ _ _).mono ?_
      rintro e w1 ⟨rfl, hb⟩
      obtain ⟨⟨c1, c2, c3⟩, ⟨c4, c5, c6⟩, ⟨c7, c8, c9⟩, c10⟩ := boxes3 hb
      have hB : Below w.heap.size w w1 := base3 hb
      go_wp2_with fail
      refine bodyPost_ret (v := .tuple #[.agg #[.int .i64 (subV x y z u x z), .int .i64 (subV x y z u y u)], .int .i64 (subE x y z u)]) (by rw [H.out.2, H.out.2, H.out.1]; simp [results, Try.results24, go_sem, c7, c8]) rfl ⟨rfl, ?_⟩
      repeat (first | exact hB | (refine Below.setCell ?_ (by first | (simp; done) | (simp; omega)) _) | (refine Below.drew ?_) | (refine below_drewN ?_ _))
    · by_cases h2 : y < u
      · have H := Lib.hid (sub_below h (by omega))
        go_enter Try.func24, Try.ntmps24
        go_wp2_with fail
        refine (rboth_any _ _ _ _ _).mono ?_
        rintro e w1 ⟨rfl, hb⟩
        obtain ⟨⟨c1, c2, c3⟩, ⟨c4, c5, c6⟩, ⟨c7, c8, c9⟩, c10⟩ := boxes3 hb
        have hB : Below w.heap.size w w1 := base3 hb
        go_wp2_with fail
        refine bodyPost_ret (v := .tuple #[.agg #[.int .i64 (subV x y z u x z), .int .i64 (subV x y z u y u)], .int .i64 (subE x y z u)]) (by rw [H.out.2, H.out.2, H.out.1]; simp [results, Try.results24, go_sem, c7, c8]) rfl ⟨rfl, ?_⟩
        repeat (first | exact hB | (refine Below.setCell ?_ (by first | (simp; done) | (simp; omega)) _) | (refine Below.drew ?_) | (refine below_drewN ?_ _))
      · have H := Lib.hid (sub_fine h (by omega))
        go_enter Try.func24, Try.ntmps24
        go_wp2_with fail
        refine (rboth_any _ _ _ _ _).mono ?_
        rintro e w1 ⟨rfl, hb⟩
        obtain ⟨⟨c1, c2, c3⟩, ⟨c4, c5, c6⟩, ⟨c7, c8, c9⟩, c10⟩ := boxes3 hb
        have hB : Below w.heap.size w w1 := base3 hb
        go_wp2_with fail
        refine bodyPost_ret (v := .tuple #[.agg #[.int .i64 (subV x y z u x z), .int .i64 (subV x y z u y u)], .int .i64 (subE x y z u)]) (by rw [H.out.2, H.out.2, H.out.1]; simp [results, Try.results24, go_sem, c7, c8]) rfl ⟨rfl, ?_⟩
        repeat (first | exact hB | (refine Below.setCell ?_ (by first | (simp; done) | (simp; omega)) _) | (refine Below.drew ?_) | (refine below_drewN ?_ _))
  · have H := Lib.hid (sub_bad h)
    go_enter Try.func24, Try.ntmps24
    go_wp2_with fail
    refine (rboth_any _ _ _ _ _).mono ?_
    rintro e w1 ⟨rfl, hb⟩
    obtain ⟨⟨c1, c2, c3⟩, ⟨c4, c5, c6⟩, ⟨c7, c8, c9⟩, c10⟩ := boxes3 hb
    have hB : Below w.heap.size w w1 := base3 hb
    go_wp2_with fail
    refine bodyPost_ret (v := .tuple #[.agg #[.int .i64 (subV x y z u x z), .int .i64 (subV x y z u y u)], .int .i64 (subE x y z u)]) (by rw [H.out.2, H.out.2, H.out.1]; simp [results, Try.results24, go_sem, c7, c8]) rfl ⟨rfl, ?_⟩
    repeat (first | exact hB | (refine Below.setCell ?_ (by first | (simp; done) | (simp; omega)) _) | (refine Below.drew ?_) | (refine below_drewN ?_ _))

end Go.Proofs.Ytnaphpgbmjpicaa
