/- Contracts: the reference's Sum. -/
import Derived.Test.YtnaphpgbmjpicaaH
import Derived.Test.YtnaphpgbmjpicaaR
namespace Go.Proofs.Ytnaphpgbmjpicaa
open Go.RowKit

/-- The first error of an element. -/
def firstBad : List (Int × Int) → Int
  | [] => 0
  | p :: r => if chkAll p.1 p.2 != 0 then chkAll p.1 p.2 else firstBad r
/-- The sums, one by one. -/
def rgo : Int → Int → List (Int × Int) → Int × Int × Int
  | s, t, [] => (s, t, 0)
  | s, t, p :: r => if addE s t p.1 p.2 != 0 then (0, 0, 10) else rgo (addV s t p.1 p.2 s p.1) (addV s t p.1 p.2 t p.2) r

theorem firstBad_bad {x y : Int} {r : List (Int × Int)} (h : (chkAll x y != 0) = true) : firstBad ((x, y) :: r) = chkAll x y := by
  unfold firstBad; rw [if_pos h]
theorem firstBad_good {x y : Int} {r : List (Int × Int)} (h : (chkAll x y != 0) = false) : firstBad ((x, y) :: r) = firstBad r := by
  rw [firstBad]; simp [h]
theorem rgo_bad {s t x y : Int} {r : List (Int × Int)} (h : (addE s t x y != 0) = true) : rgo s t ((x, y) :: r) = (0, 0, 10) := by
  unfold rgo; rw [if_pos h]
theorem rgo_step {s t x y : Int} {r : List (Int × Int)} (h : (addE s t x y != 0) = false) : rgo s t ((x, y) :: r) = rgo (addV s t x y s x) (addV s t x y t y) r := by
  rw [rgo]; simp [h]

theorem sumGo_bad (ps : List (Int × Int)) : ∀ s t o, firstBad ps ≠ 0 → sumGo s t o ps = (0, 0, firstBad ps) := by
  induction ps with
  | nil => intro s t o h; exact absurd rfl h
  | cons p r ih =>
    intro s t o h
    obtain ⟨x, y⟩ := p
    rcases h1 : (chkAll x y != 0) with _ | _
    · rw [firstBad_good h1] at h ⊢
      cases o
      · rcases h2 : (addE s t x y != 0) with _ | _
        · rw [sum_step h1 h2]; exact ih _ _ _ h
        · rw [sum_turn h1 h2]; exact ih _ _ _ h
      · rw [sum_over h1]; exact ih _ _ _ h
    · rw [firstBad_bad h1, sum_bad h1]
theorem sumGo_true (ps : List (Int × Int)) : ∀ s t, firstBad ps = 0 → sumGo s t true ps = (0, 0, 10) := by
  induction ps with
  | nil => intro s t h; rfl
  | cons p r ih =>
    intro s t h
    obtain ⟨x, y⟩ := p
    rcases h1 : (chkAll x y != 0) with _ | _
    · rw [firstBad_good h1] at h
      rw [sum_over h1]; exact ih _ _ h
    · rw [firstBad_bad h1] at h; rw [h] at h1; simp at h1
theorem sumGo_rgo (ps : List (Int × Int)) : ∀ s t, firstBad ps = 0 → sumGo s t false ps = rgo s t ps := by
  induction ps with
  | nil => intro s t h; rfl
  | cons p r ih =>
    intro s t h
    obtain ⟨x, y⟩ := p
    rcases h1 : (chkAll x y != 0) with _ | _
    · rw [firstBad_good h1] at h
      rcases h2 : (addE s t x y != 0) with _ | _
      · rw [sum_step h1 h2, rgo_step h2]; exact ih _ _ h
      · rw [sum_turn h1 h2, rgo_bad h2]; exact sumGo_true _ _ _ h
    · rw [firstBad_bad h1] at h; rw [h] at h1; simp at h1

attribute [local go_sem] RegRel.relUpon RegRel.opOk

set_option maxRecDepth 100000 in
set_option maxHeartbeats 1000000 in
theorem rsum_any (ps : List (Int × Int)) (a : Option Addr) (cap : Nat) (w : World) (hA : Am w a ps) (hl : ps.length ≤ 4611686018427387904) :
    Calls Try.prog 26 #[.slice a ps.length cap] w fun e w' => e = .returned (.tuple #[.agg #[.int .i64 (sumGo 0 0 false ps).1, .int .i64 (sumGo 0 0 false ps).2.1], .int .i64 (sumGo 0 0 false ps).2.2]) ∧ Below w.heap.size w w' := by
  have HA := Lib.hid hA
  clear hA
  have hl' : ps.length ≤ 9223372036854775807 := by omega
  go_enter Try.func26, Try.ntmps26
  go_wp2_with fail
  go_loopw [4] (fun i wr => ∃ k : Nat, k ≤ ps.length ∧ i = .int .i64 k ∧ Hid (firstBad (ps.drop k) = firstBad ps) ∧ Below w.heap.size w wr ∧
      (wr.cell? ⟨w.heap.size, 0, none⟩ = some (.int .i64 0) ∧ wr.cell? ⟨w.heap.size, 1, none⟩ = some (.int .i64 0) ∧ ∀ i, wr.frozen? ⟨w.heap.size, i, none⟩ = false) ∧ w.heap.size < wr.heap.size)
    (fun i _ => ps.length - (intOf i).toNat)
  case atStart =>
    refine ⟨0, Nat.zero_le _, rfl, rfl, (Below.refl _ _).alloc (Nat.le_refl _) _, ?_, ?_⟩
    · obtain ⟨c1, c2⟩ := box1 (w := w) (w1 := (w.alloc (.cells #[.int .i64 0, .int .i64 0] 26))) (Below.refl _ _)
      exact ⟨c1, c2, fun i => by simp⟩
    · simp
  case round =>
    obtain ⟨k, hk, rfl, hs, hb, ⟨c1, c2, c3⟩, c10⟩ := hrel
    by_cases hlt : k < ps.length
    · obtain ⟨b, off, rfl, hbl, hc0, hc1⟩ := HA.out k hlt
      rw [← hb.cell (p := ⟨b, off + k * 2, none⟩) hbl] at hc0
      rw [← hb.cell (p := ⟨b, off + k * 2 + 1, none⟩) hbl] at hc1
      rcases hp : ps.getD k (0, 0) with ⟨x, y⟩
      rw [hp] at hc0 hc1
      have hs' := hs.out
      rw [drop_at hlt hp] at hs'
      clear hp hs
      rcases h1 : (chkAll x y != 0) with _ | _
      · rw [firstBad_good h1] at hs'
        have H := Lib.hid hs'
        clear hs'
        go_wp2_with fail
        refine (rcheckAll_any _ _ _).mono ?_
        rintro e w1 ⟨rfl, hb1⟩
        obtain ⟨d1, d2, d3⟩ := carry2 hb1 (by omega) c1 c2 c3
        have d10 : w.heap.size < w1.heap.size := by have := hb1.size; omega
        have hB : Below w.heap.size w w1 := hb.trans (hb1.mono (by omega))
        clear hb1 hb c1 c2 c3 hc0 hc1
        go_wp2
        go_roundw
        case rel => exact ⟨k + 1, by omega, by go_num, H, hB, ⟨d1, d2, d3⟩, d10⟩
        case measure => simp [intOf]; omega
      · have hF : (0, 0, chkAll x y) = sumGo 0 0 false ps := by
          rw [firstBad_bad h1] at hs'
          rw [hs', sumGo_bad]
          rw [← hs']; simpa using h1
        have H := Lib.hid hF
        clear hs' hF
        go_wp2_with fail
        refine (rcheckAll_any _ _ _).mono ?_
        rintro e w1 ⟨rfl, hb1⟩
        obtain ⟨d1, d2, d3⟩ := carry2 hb1 (by omega) c1 c2 c3
        have d10 : w.heap.size < w1.heap.size := by have := hb1.size; omega
        have hB : Below w.heap.size w w1 := hb.trans (hb1.mono (by omega))
        clear hb1 hb c1 c2 c3 hc0 hc1
        go_wp2
        refine bodyPost_ret (v := .tuple #[.agg #[.int .i64 (sumGo 0 0 false ps).1, .int .i64 (sumGo 0 0 false ps).2.1], .int .i64 (sumGo 0 0 false ps).2.2]) (by rw [← H.out]; simp [results, Try.results26, go_sem, d1, d2]) rfl ⟨rfl, ?_⟩
        repeat (first | exact hB | (refine Below.setCell ?_ (by first | omega | (simp; done) | (simp; omega)) _))
    · have hkl : k = ps.length := by omega
      subst hkl
      have hs' := hs.out
      rw [List.drop_length] at hs'
      clear hs
      have G := Lib.hid (sumGo_rgo ps 0 0 hs'.symm)
      clear hs'
      obtain ⟨wo, rfl⟩ : ∃ wo : World, wo = wr := ⟨_, rfl⟩
      go_wp2_with fail
      go_loopw [7] (fun i wr => ∃ k : Nat, ∃ s t : Int, k ≤ ps.length ∧ i = .int .i64 k ∧ Hid (rgo s t (ps.drop k) = sumGo 0 0 false ps) ∧ Below w.heap.size w wr ∧
          (wr.cell? ⟨w.heap.size, 0, none⟩ = some (.int .i64 0) ∧ wr.cell? ⟨w.heap.size, 1, none⟩ = some (.int .i64 0) ∧ ∀ i, wr.frozen? ⟨w.heap.size, i, none⟩ = false) ∧
          (wr.cell? ⟨wo.heap.size, 0, none⟩ = some (.int .i64 s) ∧ wr.cell? ⟨wo.heap.size, 1, none⟩ = some (.int .i64 t) ∧ ∀ i, wr.frozen? ⟨wo.heap.size, i, none⟩ = false) ∧ wo.heap.size < wr.heap.size)
        (fun i _ => ps.length - (intOf i).toNat)
      case atStart =>
        refine ⟨0, 0, 0, Nat.zero_le _, rfl, G.out.symm, hb.alloc (by omega) _, ?_, ?_, ?_⟩
        · obtain ⟨d1, d2, d3⟩ := carry2 (B := wo.heap.size) ((Below.refl _ wo).alloc (Nat.le_refl _) (.cells #[.int .i64 0, .int .i64 0] 26)) (by omega) c1 c2 c3
          exact ⟨d1, d2, d3⟩
        · obtain ⟨c1, c2⟩ := box1 (w := wo) (w1 := (wo.alloc (.cells #[.int .i64 0, .int .i64 0] 26))) (Below.refl _ _)
          exact ⟨c1, c2, fun i => by simp⟩
        · simp
      case round =>
        clear c1 c2 c3
        have b10 := c10
        obtain ⟨k, s, t, hk', rfl, hs, hbr, ⟨c1, c2, c3⟩, ⟨c4, c5, c6⟩, c11⟩ := hrel
        have c12 : w.heap.size < wr.heap.size := by omega
        by_cases hlt' : k < ps.length
        · obtain ⟨b, off, rfl, hbl, hc0, hc1⟩ := HA.out k hlt'
          rw [← hbr.cell (p := ⟨b, off + k * 2, none⟩) hbl] at hc0
          rw [← hbr.cell (p := ⟨b, off + k * 2 + 1, none⟩) hbl] at hc1
          rcases hp : ps.getD k (0, 0) with ⟨x, y⟩
          rw [hp] at hc0 hc1
          have hs' := hs.out
          rw [drop_at hlt' hp] at hs'
          clear hp hs
          have hbr' : b < wr.heap.size := by omega
          rcases h2 : (addE s t x y != 0) with _ | _
          · rw [rgo_step h2] at hs'
            have H := Lib.hid hs'
            clear hs'
            go_wp2_with fail
            refine RegRel.wp_region_bel 11 10 (by kernel_rfl) (by kernel_rfl) [RegRel.is (.agg #[.int .i64 s, .int .i64 t]), RegRel.is (.slice (some ⟨b, off, none⟩) ps.length cap), RegRel.is (.int .i64 k), RegRel.is (.pointer (some ⟨b, off + k * 2, none⟩)), RegRel.is (.agg #[.int .i64 x, .int .i64 y]),
              RegRel.is (.tuple #[.agg #[.int .i64 (addV s t x y s x), .int .i64 (addV s t x y t y)], .int .i64 (addE s t x y)]), RegRel.is (.tuple #[.agg #[.int .i64 (addV s t x y s x), .int .i64 (addV s t x y t y)], .int .i64 (addE s t x y)]),
              RegRel.is (.agg #[.int .i64 (addV s t x y s x), .int .i64 (addV s t x y t y)]), RegRel.is (.int .i64 (addE s t x y)), RegRel.fresh wr.heap.size 2, RegRel.filled wr.heap.size 9 [.int .i64 (addV s t x y s x), .int .i64 (addV s t x y t y)]]
              (by simp [RegRel.AllStable, RegRel.stable_is, RegRel.tough_is, RegRel.stable_fresh, RegRel.tough_fresh, RegRel.stable_filled]) rfl (by kernel_rfl) ?_ ?_
            · simp only [List.take_succ_cons, List.take_zero, RegRel.OpsOk, RegRel.puts]
              refine ⟨?_, ?_, ?_, ?_, ?_, ?_, ?_, ?_, ?_, ?_, ?_, trivial⟩
              rotate_left 10
              · intro u w' hC hD
                simp [RegRel.DepsOk, Region.binds, RegRel.ent, RegRel.is, RegRel.fresh] at hD
                obtain ⟨⟨n, hn, h1, h3, c, ⟨ty, h4⟩, h5⟩, h10, _⟩ := hD
                obtain ⟨p, q, h6, h7, h8, h9⟩ := RegRel.two_cells h4 h5
                have H6 := Lib.hid h6
                clear h4 h5 h6
                go_simp
                simp only [RegRel.ent, RegRel.filled, RegRel.step, RegRel.upd]
                exact RegRel.store_step hn h1 h3 H6.out
              all_goals
                intro u w' hC hD
                try simp [RegRel.DepsOk, Region.binds, RegRel.ent, RegRel.is] at hD
                have e1 := (hC.cell (p := ⟨wo.heap.size, 0, none⟩) c11).trans c4
                have e2 := (hC.cell (p := ⟨wo.heap.size, 1, none⟩) c11).trans c5
                have e3 := (hC.cell (p := ⟨b, off + k * 2, none⟩) hbr').trans hc0
                have e4 := (hC.cell (p := ⟨b, off + k * 2 + 1, none⟩) hbr').trans hc1
                go_simp
              all_goals (try simp [RegRel.ent, RegRel.is, RegRel.step, RegRel.upd, Below.refl])
              · exact (radd_any _ _ _ _ _).mono fun e w'' ⟨he, hb⟩ => ⟨_, he, rfl, hb⟩
              · exact ⟨RegRel.fresh_new _ #[_, _] _ hC.size, RegRel.below_new _ _⟩
            · intro u w2 hb2 hv
              simp only [List.take_succ_cons, List.take_zero, List.drop_succ_cons, List.drop_zero, RegRel.puts]
              simp [RegRel.allV, RegRel.is, RegRel.filled] at hv
              obtain ⟨v0, v1, v2, v3, v4, v5, v6, v7, v8, _, hv⟩ := hv
              obtain ⟨n, v9, n1, n2, n3, n4, n5⟩ := hv.cells2
              clear hv
              obtain ⟨d1, d2, d3⟩ := carry2 hb2 (by omega) c1 c2 c3
              obtain ⟨d4, d5, d6⟩ := carry2 hb2 (by omega) c4 c5 c6
              have d10 : w.heap.size < w2.heap.size := by have := hb2.size; omega
              have d11 : wo.heap.size < w2.heap.size := by have := hb2.size; omega
              have hB2 : Below w.heap.size w w2 := hbr.trans (hb2.mono (by omega))
              clear hb2 hbr hb c1 c2 c3 c4 c5 c6 hc0 hc1
              go_wp2
              go_roundw
              case rel =>
                refine ⟨k + 1, _, _, by omega, by go_num, H, ?_, ⟨?_, ?_, fun i => ?_⟩, ⟨?_, ?_, fun i => ?_⟩, by simp; omega⟩
                · repeat (first | exact hB2 | (refine Below.setCell ?_ (by first | omega | (simp; done) | (simp; omega)) _) | (refine Below.alloc ?_ (by first | omega | (simp; done) | (simp; omega)) _))
                all_goals go_simp
              case measure => simp [intOf]; omega
          · rw [rgo_bad h2] at hs'
            have H := Lib.hid hs'
            clear hs'
            go_wp2_with fail
            refine RegRel.wp_region_bel 11 10 (by kernel_rfl) (by kernel_rfl) [RegRel.is (.agg #[.int .i64 s, .int .i64 t]), RegRel.is (.slice (some ⟨b, off, none⟩) ps.length cap), RegRel.is (.int .i64 k), RegRel.is (.pointer (some ⟨b, off + k * 2, none⟩)), RegRel.is (.agg #[.int .i64 x, .int .i64 y]),
              RegRel.is (.tuple #[.agg #[.int .i64 (addV s t x y s x), .int .i64 (addV s t x y t y)], .int .i64 (addE s t x y)]), RegRel.is (.tuple #[.agg #[.int .i64 (addV s t x y s x), .int .i64 (addV s t x y t y)], .int .i64 (addE s t x y)]),
              RegRel.is (.agg #[.int .i64 (addV s t x y s x), .int .i64 (addV s t x y t y)]), RegRel.is (.int .i64 (addE s t x y)), RegRel.fresh wr.heap.size 2, RegRel.filled wr.heap.size 9 [.int .i64 (addV s t x y s x), .int .i64 (addV s t x y t y)]]
              (by simp [RegRel.AllStable, RegRel.stable_is, RegRel.tough_is, RegRel.stable_fresh, RegRel.tough_fresh, RegRel.stable_filled]) rfl (by kernel_rfl) ?_ ?_
            · simp only [List.take_succ_cons, List.take_zero, RegRel.OpsOk, RegRel.puts]
              refine ⟨?_, ?_, ?_, ?_, ?_, ?_, ?_, ?_, ?_, ?_, ?_, trivial⟩
              rotate_left 10
              · intro u w' hC hD
                simp [RegRel.DepsOk, Region.binds, RegRel.ent, RegRel.is, RegRel.fresh] at hD
                obtain ⟨⟨n, hn, h1, h3, c, ⟨ty, h4⟩, h5⟩, h10, _⟩ := hD
                obtain ⟨p, q, h6, h7, h8, h9⟩ := RegRel.two_cells h4 h5
                have H6 := Lib.hid h6
                clear h4 h5 h6
                go_simp
                simp only [RegRel.ent, RegRel.filled, RegRel.step, RegRel.upd]
                exact RegRel.store_step hn h1 h3 H6.out
              all_goals
                intro u w' hC hD
                try simp [RegRel.DepsOk, Region.binds, RegRel.ent, RegRel.is] at hD
                have e1 := (hC.cell (p := ⟨wo.heap.size, 0, none⟩) c11).trans c4
                have e2 := (hC.cell (p := ⟨wo.heap.size, 1, none⟩) c11).trans c5
                have e3 := (hC.cell (p := ⟨b, off + k * 2, none⟩) hbr').trans hc0
                have e4 := (hC.cell (p := ⟨b, off + k * 2 + 1, none⟩) hbr').trans hc1
                go_simp
              all_goals (try simp [RegRel.ent, RegRel.is, RegRel.step, RegRel.upd, Below.refl])
              · exact (radd_any _ _ _ _ _).mono fun e w'' ⟨he, hb⟩ => ⟨_, he, rfl, hb⟩
              · exact ⟨RegRel.fresh_new _ #[_, _] _ hC.size, RegRel.below_new _ _⟩
            · intro u w2 hb2 hv
              simp only [List.take_succ_cons, List.take_zero, List.drop_succ_cons, List.drop_zero, RegRel.puts]
              simp [RegRel.allV, RegRel.is, RegRel.filled] at hv
              obtain ⟨v0, v1, v2, v3, v4, v5, v6, v7, v8, _, hv⟩ := hv
              obtain ⟨n, v9, n1, n2, n3, n4, n5⟩ := hv.cells2
              clear hv
              obtain ⟨d1, d2, d3⟩ := carry2 hb2 (by omega) c1 c2 c3
              obtain ⟨d4, d5, d6⟩ := carry2 hb2 (by omega) c4 c5 c6
              have d10 : w.heap.size < w2.heap.size := by have := hb2.size; omega
              have d11 : wo.heap.size < w2.heap.size := by have := hb2.size; omega
              have hB2 : Below w.heap.size w w2 := hbr.trans (hb2.mono (by omega))
              clear hb2 hbr hb c1 c2 c3 c4 c5 c6 hc0 hc1
              go_wp2
              refine bodyPost_ret (v := .tuple #[.agg #[.int .i64 (sumGo 0 0 false ps).1, .int .i64 (sumGo 0 0 false ps).2.1], .int .i64 (sumGo 0 0 false ps).2.2]) (by rw [← H.out]; simp [results, Try.results26, go_sem, d1, d2]) rfl ⟨rfl, ?_⟩
              repeat (first | exact hB2 | (refine Below.setCell ?_ (by first | omega | (simp; done) | (simp; omega)) _))
        · have hkl : k = ps.length := by omega
          subst hkl
          have hs' := hs.out
          rw [List.drop_length] at hs'
          have H := Lib.hid hs'
          clear hs hs'
          go_wp2
          refine bodyPost_ret (v := .tuple #[.agg #[.int .i64 (sumGo 0 0 false ps).1, .int .i64 (sumGo 0 0 false ps).2.1], .int .i64 (sumGo 0 0 false ps).2.2]) (by rw [← H.out]; simp [results, Try.results26, go_sem, rgo, c1, c2]) rfl ⟨rfl, ?_⟩
          repeat (first | exact hbr | (refine Below.setCell ?_ (by first | omega | (simp; done) | (simp; omega)) _))

end Go.Proofs.Ytnaphpgbmjpicaa
