/- Contracts: Sub. -/
import Derived.Test.YtnaphpgbmjpicaaC
import Derived.Test.YtnaphpgbmjpicaaE
import Derived.Deep.RegionHeld3
namespace Go.Proofs.Ytnaphpgbmjpicaa
open Go.RowKit

/-- The error of Sub. -/
def subE (x y z u : Int) : Int := if both x y z u = 0 then (if z ≤ x ∧ u ≤ y then 0 else 11) else both x y z u
/-- A difference's part, nought beside an error. -/
def subV (x y z u : Int) (p q : Int) : Int := if subE x y z u = 0 then p - q else 0

theorem sub_bad {x y z u : Int} (h : (both x y z u != 0) = true) : subE x y z u = both x y z u ∧ ∀ p q, subV x y z u p q = 0 := by
  have h' : ¬ both x y z u = 0 := by simpa using h
  have e : subE x y z u = both x y z u := by unfold subE; rw [if_neg h']
  exact ⟨e, fun p q => by unfold subV; rw [e, if_neg h']⟩
theorem sub_below {x y z u : Int} (h : (both x y z u != 0) = false) (h2 : ¬ (z ≤ x ∧ u ≤ y)) : subE x y z u = 11 ∧ ∀ p q, subV x y z u p q = 0 := by
  have h' : both x y z u = 0 := by simpa using h
  have e : subE x y z u = 11 := by unfold subE; rw [if_pos h', if_neg h2]
  exact ⟨e, fun p q => by unfold subV; rw [e]; rfl⟩
theorem sub_fine {x y z u : Int} (h : (both x y z u != 0) = false) (h2 : z ≤ x ∧ u ≤ y) : subE x y z u = 0 ∧ ∀ p q, subV x y z u p q = p - q := by
  have h' : both x y z u = 0 := by simpa using h
  have e : subE x y z u = 0 := by unfold subE; rw [if_pos h', if_pos h2]
  exact ⟨e, fun p q => by unfold subV; rw [e]; rfl⟩

attribute [local go_sem] eqIn26 eqG26

theorem carry2 {B b : Nat} {w1 w2 : World} {x y : Value} (hb : Below B w1 w2) (h : b < B) (c1 : w1.cell? ⟨b, 0, none⟩ = some x) (c2 : w1.cell? ⟨b, 1, none⟩ = some y) (c3 : ∀ i, w1.frozen? ⟨b, i, none⟩ = false) :
    w2.cell? ⟨b, 0, none⟩ = some x ∧ w2.cell? ⟨b, 1, none⟩ = some y ∧ ∀ i, w2.frozen? ⟨b, i, none⟩ = false :=
  ⟨(hb.cell (p := ⟨b, 0, none⟩) h).trans c1, (hb.cell (p := ⟨b, 1, none⟩) h).trans c2, fun i => (hb.frozen (p := ⟨b, i, none⟩) h).trans (c3 i)⟩

set_option maxRecDepth 100000 in
set_option maxHeartbeats 1000000 in
theorem sub_any (x y z u : Int) (w : World) : Calls Try.prog 23 #[.agg #[.int .i64 x, .int .i64 y], .agg #[.int .i64 z, .int .i64 u]] w fun e w' => e = .returned (.tuple #[.agg #[.int .i64 (subV x y z u x z), .int .i64 (subV x y z u y u)], .int .i64 (subE x y z u)]) ∧ Below w.heap.size w w' := by
  rcases h : (both x y z u != 0) with _ | _
  · obtain ⟨⟨⟨a1, a2⟩, a3, a4⟩, ⟨a5, a6⟩, a7, a8⟩ := both_zero_iff.1 (show both x y z u = 0 by simpa using h)
    by_cases h1 : z ≤ x
    · have k1 : (min x z == z) = true := by rw [beq_iff_eq]; omega
      by_cases h2 : u ≤ y
      · have k2 : (min y u == u) = true := by rw [beq_iff_eq]; omega
        have H := Lib.hid (sub_fine h ⟨by omega, by omega⟩)
        go_enter Try.func23, Try.ntmps23
        go_wp2_with fail
        refine (both_any _ _ _ _ _).mono ?_
        rintro e w1 ⟨rfl, hb⟩
        obtain ⟨⟨c1, c2, c3⟩, ⟨c4, c5, c6⟩, ⟨c7, c8, c9⟩, c10⟩ := boxes3 hb
        have hB : Below w.heap.size w w1 := base3 hb
        go_wp2_with fail
        go_region_held3 (fun w' => Below w1.heap.size w1 w' ∧ w'.cell? ⟨w.heap.size, 0, none⟩ = some (.int .i64 x) ∧ w'.cell? ⟨w.heap.size, 1, none⟩ = some (.int .i64 y) ∧ w'.cell? ⟨w.heap.size + 1, 0, none⟩ = some (.int .i64 z) ∧ w'.cell? ⟨w.heap.size + 1, 1, none⟩ = some (.int .i64 u))
          (first | exact ⟨(Below.refl _ _).drew, c1, c2, c4, c5⟩ | (refine ⟨(Below.refl _ _).drew.trans hb2, ?_, ?_, ?_, ?_⟩ <;> (rw [hb2.cell (by simp; omega)]; first | exact c1 | exact c2 | exact c4 | exact c5)))
          (first | (go_at_call 42; refine (least_any _ _ _ _ _).mono ?_; rintro e w2 ⟨rfl, hb2⟩))
        have hb3 : Below w1.heap.size w1 w2 := (Below.refl _ w1).drew.trans hb2
        obtain ⟨d1, d2, d3⟩ := carry2 hb3 (by omega) c1 c2 c3
        obtain ⟨d4, d5, d6⟩ := carry2 hb3 (by omega) c4 c5 c6
        obtain ⟨d7, d8, d9⟩ := carry2 hb3 (by omega) c7 c8 c9
        have d10 : w.heap.size + 2 < w2.heap.size := by have := hb3.size; omega
        have hB2 : Below w.heap.size w w2 := hB.trans (hb3.mono (by omega))
        clear hb2 hb3 c1 c2 c3 c4 c5 c6 c7 c8 c9
        go_wp2
        refine wp_loop_rounds 3 ?_
        rw [rounds_succ]
        go_wp2
        go_region
        go_wp2
        rw [rounds_succ]
        go_wp2
        go_region
        go_wp2
        rw [rounds_succ]
        go_wp2
        refine bodyPost_ret (v := .tuple #[.agg #[.int .i64 (subV x y z u x z), .int .i64 (subV x y z u y u)], .int .i64 (subE x y z u)]) (by rw [H.out.2, H.out.2, H.out.1]; simp [results, Try.results23, go_sem, d7, d8]) rfl ⟨rfl, ?_⟩
        repeat (first | exact hB2 | (refine Below.setCell ?_ (by first | (simp; done) | (simp; omega)) _) | (refine Below.drew ?_) | (refine below_drewN ?_ _))
      · have k2 : (min y u == u) = false := by rw [beq_eq_false_iff_ne]; omega
        have H := Lib.hid (sub_below h (by omega))
        go_enter Try.func23, Try.ntmps23
        go_wp2_with fail
        refine (both_any _ _ _ _ _).mono ?_
        rintro e w1 ⟨rfl, hb⟩
        obtain ⟨⟨c1, c2, c3⟩, ⟨c4, c5, c6⟩, ⟨c7, c8, c9⟩, c10⟩ := boxes3 hb
        have hB : Below w.heap.size w w1 := base3 hb
        go_wp2_with fail
        go_region_held3 (fun w' => Below w1.heap.size w1 w' ∧ w'.cell? ⟨w.heap.size, 0, none⟩ = some (.int .i64 x) ∧ w'.cell? ⟨w.heap.size, 1, none⟩ = some (.int .i64 y) ∧ w'.cell? ⟨w.heap.size + 1, 0, none⟩ = some (.int .i64 z) ∧ w'.cell? ⟨w.heap.size + 1, 1, none⟩ = some (.int .i64 u))
          (first | exact ⟨(Below.refl _ _).drew, c1, c2, c4, c5⟩ | (refine ⟨(Below.refl _ _).drew.trans hb2, ?_, ?_, ?_, ?_⟩ <;> (rw [hb2.cell (by simp; omega)]; first | exact c1 | exact c2 | exact c4 | exact c5)))
          (first | (go_at_call 42; refine (least_any _ _ _ _ _).mono ?_; rintro e w2 ⟨rfl, hb2⟩))
        have hb3 : Below w1.heap.size w1 w2 := (Below.refl _ w1).drew.trans hb2
        obtain ⟨d1, d2, d3⟩ := carry2 hb3 (by omega) c1 c2 c3
        obtain ⟨d4, d5, d6⟩ := carry2 hb3 (by omega) c4 c5 c6
        obtain ⟨d7, d8, d9⟩ := carry2 hb3 (by omega) c7 c8 c9
        have d10 : w.heap.size + 2 < w2.heap.size := by have := hb3.size; omega
        have hB2 : Below w.heap.size w w2 := hB.trans (hb3.mono (by omega))
        clear hb2 hb3 c1 c2 c3 c4 c5 c6 c7 c8 c9
        go_wp2
        refine bodyPost_ret (v := .tuple #[.agg #[.int .i64 (subV x y z u x z), .int .i64 (subV x y z u y u)], .int .i64 (subE x y z u)]) (by rw [H.out.2, H.out.2, H.out.1]; simp [results, Try.results23, go_sem, d7, d8]) rfl ⟨rfl, ?_⟩
        repeat (first | exact hB2 | (refine Below.setCell ?_ (by first | (simp; done) | (simp; omega)) _) | (refine Below.drew ?_) | (refine below_drewN ?_ _))
    · have k1 : (min x z == z) = false := by rw [beq_eq_false_iff_ne]; omega
      have H := Lib.hid (sub_below h (by omega))
      go_enter Try.func23, Try.ntmps23
      go_wp2_with fail
      refine (both_any _ _ _ _ _).mono ?_
      rintro e w1 ⟨rfl, hb⟩
      obtain ⟨⟨c1, c2, c3⟩, ⟨c4, c5, c6⟩, ⟨c7, c8, c9⟩, c10⟩ := boxes3 hb
      have hB : Below w.heap.size w w1 := base3 hb
      go_wp2_with fail
      go_region_held3 (fun w' => Below w1.heap.size w1 w' ∧ w'.cell? ⟨w.heap.size, 0, none⟩ = some (.int .i64 x) ∧ w'.cell? ⟨w.heap.size, 1, none⟩ = some (.int .i64 y) ∧ w'.cell? ⟨w.heap.size + 1, 0, none⟩ = some (.int .i64 z) ∧ w'.cell? ⟨w.heap.size + 1, 1, none⟩ = some (.int .i64 u))
        (first | exact ⟨(Below.refl _ _).drew, c1, c2, c4, c5⟩ | (refine ⟨(Below.refl _ _).drew.trans hb2, ?_, ?_, ?_, ?_⟩ <;> (rw [hb2.cell (by simp; omega)]; first | exact c1 | exact c2 | exact c4 | exact c5)))
        (first | (go_at_call 42; refine (least_any _ _ _ _ _).mono ?_; rintro e w2 ⟨rfl, hb2⟩))
      have hb3 : Below w1.heap.size w1 w2 := (Below.refl _ w1).drew.trans hb2
      obtain ⟨d1, d2, d3⟩ := carry2 hb3 (by omega) c1 c2 c3
      obtain ⟨d4, d5, d6⟩ := carry2 hb3 (by omega) c4 c5 c6
      obtain ⟨d7, d8, d9⟩ := carry2 hb3 (by omega) c7 c8 c9
      have d10 : w.heap.size + 2 < w2.heap.size := by have := hb3.size; omega
      have hB2 : Below w.heap.size w w2 := hB.trans (hb3.mono (by omega))
      clear hb2 hb3 c1 c2 c3 c4 c5 c6 c7 c8 c9
      go_wp2
      refine bodyPost_ret (v := .tuple #[.agg #[.int .i64 (subV x y z u x z), .int .i64 (subV x y z u y u)], .int .i64 (subE x y z u)]) (by rw [H.out.2, H.out.2, H.out.1]; simp [results, Try.results23, go_sem, d7, d8]) rfl ⟨rfl, ?_⟩
      repeat (first | exact hB2 | (refine Below.setCell ?_ (by first | (simp; done) | (simp; omega)) _) | (refine Below.drew ?_) | (refine below_drewN ?_ _))
  · have H := Lib.hid (sub_bad h)
    go_enter Try.func23, Try.ntmps23
    go_wp2_with fail
    refine (both_any _ _ _ _ _).mono ?_
    rintro e w1 ⟨rfl, hb⟩
    obtain ⟨⟨c1, c2, c3⟩, ⟨c4, c5, c6⟩, ⟨c7, c8, c9⟩, c10⟩ := boxes3 hb
    have hB : Below w.heap.size w w1 := base3 hb
    go_wp2_with fail
    refine bodyPost_ret (v := .tuple #[.agg #[.int .i64 (subV x y z u x z), .int .i64 (subV x y z u y u)], .int .i64 (subE x y z u)]) (by rw [H.out.2, H.out.2, H.out.1]; simp [results, Try.results23, go_sem, c7, c8]) rfl ⟨rfl, ?_⟩
    repeat (first | exact hB | (refine Below.setCell ?_ (by first | (simp; done) | (simp; omega)) _) | (refine Below.drew ?_) | (refine below_drewN ?_ _))

end Go.Proofs.Ytnaphpgbmjpicaa
