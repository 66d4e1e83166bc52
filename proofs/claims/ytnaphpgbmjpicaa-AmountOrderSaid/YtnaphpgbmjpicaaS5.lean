/- Some amounts are together the same from the front and from behind, and what Add makes one by one: AmountOrder answers true. No condition. -/
import Derived.Test.YtnaphpgbmjpicaaQ
import Derived.Test.YtnaphpgbmjpicaaX
import Derived.Test.YtnaphpgbmjpicaaW
namespace Go.Proofs.Ytnaphpgbmjpicaa
open Go.ChangeShapes Go.WideShapes Go.ChangeAt Go.RowKit

attribute [local go_sem] eqIn26 eqG26 RegRel.relUpon RegRel.opOk

theorem below_new2 (w : World) (o : Obj) : Below w.heap.size w (w.alloc o) := (Below.refl _ _).alloc (Nat.le_refl _) _
theorem carryA {B b : Nat} {w2 w3 : World} {o : Obj} {x y : Value} (hb : Below B (w2.alloc o) w3) (h : b < B) (h2 : b < w2.heap.size) (c1 : w2.cell? ⟨b, 0, none⟩ = some x) (c2 : w2.cell? ⟨b, 1, none⟩ = some y) :
    w3.cell? ⟨b, 0, none⟩ = some x ∧ w3.cell? ⟨b, 1, none⟩ = some y :=
  ⟨(hb.cell (p := ⟨b, 0, none⟩) h).trans ((World.cell?_alloc_lt _ _ _ h2).trans c1), (hb.cell (p := ⟨b, 1, none⟩) h).trans ((World.cell?_alloc_lt _ _ _ h2).trans c2)⟩
theorem boxB {B : Nat} {w w1 : World} {a0 a1 : Value} {t : TypeId} (hb : Below B (w.alloc (.cells #[a0, a1] t)) w1) (h : w.heap.size < B) : w1.cell? ⟨w.heap.size, 0, none⟩ = some a0 ∧ w1.cell? ⟨w.heap.size, 1, none⟩ = some a1 :=
  ⟨(hb.cell (p := ⟨w.heap.size, 0, none⟩) h).trans (by rw [World.cell?_alloc_new]; rfl), (hb.cell (p := ⟨w.heap.size, 1, none⟩) h).trans (by rw [World.cell?_alloc_new]; rfl)⟩

set_option maxRecDepth 100000 in
set_option maxHeartbeats 4000000 in
theorem amountOrder_walk (ps : List (Int × Int)) (a : Option Addr) (cap : Nat) (w : World) (hA : Am w a ps) (hl : ps.length * 16 ≤ 140737488355328) :
    Calls Try.prog 7 #[.slice a ps.length cap] w fun e w' => e = .returned (.bool true) ∧ Below w.heap.size w w' := by
  have hl' : ps.length ≤ 9223372036854775807 := by omega
  have hs1 := fun (w : World) (h : Am w a ps) => sum_any ps a cap w h (by omega)
  obtain ⟨x0, x1, e, hx⟩ : ∃ x0 x1 e, sumGo 0 0 false ps = (x0, x1, e) := ⟨_, _, _, rfl⟩
  obtain ⟨y0, y1, f, hy⟩ : ∃ y0 y1 f, sumGo 0 0 false ps.reverse = (y0, y1, f) := ⟨_, _, _, rfl⟩
  have hs2 := fun (w : World) (a : Option Addr) (cap : Nat) (h : Am w a ps.reverse) => sum_any ps.reverse a cap w h (by rw [List.length_reverse]; omega)
  have hrev := sum_rev ps
  have hone := one_sum ps
  rw [hx] at hs1 hrev hone
  rw [hy] at hs2 hrev
  rw [List.length_reverse] at hs2
  dsimp only at hs1 hs2 hrev hone
  obtain ⟨r1, r2, r3⟩ := hrev
  have S1 := Lib.hid hs1
  have S2 := Lib.hid hs2
  have R1 := Lib.hid r1
  have R2 := Lib.hid r2
  have R3 := Lib.hid r3
  have ONE := Lib.hid hone
  have HA := Lib.hid hA
  clear hx hy hs1 hs2 r1 r2 r3 hone hA
  obtain ⟨i0, hi, hz0, hz1, hz2⟩ := info_parts info26
  have HI := Lib.hid hi
  have HZ0 := Lib.hid hz0
  have HZ1 := Lib.hid hz1
  have HZ2 := Lib.hid hz2
  clear hi hz0 hz1 hz2
  go_enter Try.func7, Try.ntmps7
  go_wp2_with fail
  refine (S1.out _ HA.out).mono ?_
  rintro er w1 ⟨rfl, hb1⟩
  go_wp2_with fail
  go_loopw [5, 6] (fun v i wr => ∃ k : Nat, k ≤ ps.length ∧ i = .int .i64 ((ps.length : Int) - 1 - k) ∧ Below (w1.heap.size + 1) (w1.alloc (.cells #[.int .i64 x0, .int .i64 x1] 26)) wr ∧
      Hid (wr.ownsRow (w1.heap.size + 1) 26 2 v k (pairCells (ps.reverse.take k))))
    (fun _ i _ => (intOf i + 1).toNat)
  case atStart =>
    refine ⟨0, Nat.zero_le _, by simp, (Below.refl _ _).alloc (by simp) _, ?_⟩
    have := World.ownsRow_lit (base := w1.heap.size + 1) (e := 26) (size := 2) (w1.alloc (.cells #[.int .i64 x0, .int .i64 x1] 26)) #[] 0 (by simp) (by decide) rfl
    simpa [Hid, pairCells] using this
  case round =>
    obtain ⟨k, hk, rfl, hb, HO⟩ := hrel
    by_cases hlt : k < ps.length
    · obtain ⟨j, hj⟩ : ∃ j : Nat, j = ps.length - 1 - k := ⟨_, rfl⟩
      have hji : ((ps.length : Int) - 1 - (k : Int)) = (j : Int) := by omega
      have hjl : j < ps.length := by omega
      rw [hji]
      obtain ⟨b, off, rfl, hbl, hc0, hc1⟩ := HA.out j hjl
      have hbw : b < w1.heap.size := by have := hb1.size; omega
      have hwr : ∀ o, wr.cell? ⟨b, o, none⟩ = w.cell? ⟨b, o, none⟩ := fun o => by
        rw [hb.cell (p := ⟨b, o, none⟩) (by show b < _; omega), World.cell?_alloc_lt _ _ _ (by simpa using hbw), hb1.cell (p := ⟨b, o, none⟩) hbl]
      rw [← hwr] at hc0 hc1
      rcases hp : ps.getD j (0, 0) with ⟨x, y⟩
      rw [hp] at hc0 hc1
      have htk := take_rev (d := (0, 0)) hlt (hj ▸ hp)
      have HT := Lib.hid htk
      have HJ := Lib.hid hji
      have HO' := Lib.hid hj
      have hsz : w1.heap.size + 1 ≤ wr.heap.size := by have := hb.size; simpa using this
      clear htk hp hj hji hwr
      go_wp2_with (at_builtin; refine wpList_append_own _ rfl _ _ 31 rfl (w1.heap.size + 1) 26 i0 (.agg #[.int .i64 0, .int .i64 0]) 2 16 Try.underlying31 HI.out HZ0.out HZ1.out HZ2.out rfl (by decide) _ _ _ rfl (HO.out.alloc _) ⟨wr.heap.size, 0, none⟩ 1 1 [.int .i64 x, .int .i64 y] rfl rfl ?c1 ?c2 ?c3 ?c4 ?c5 ?_)
      case c2 => simp [Value.oneCell']
      case c3 => unfold maxLen; omega
      case c4 => omega
      case c5 => omega
      intro v' wn hown' hgrow _
      rw [← pairCells_snoc _ (x, y), ← HT.out] at hown'
      have hbn : Below (w1.heap.size + 1) (w1.alloc (.cells #[.int .i64 x0, .int .i64 x1] 26)) wn := (hb.alloc hsz _).grown hgrow (by first | (simp; done) | (simp; omega)) (fun g hg => (HO.out.lt g hg).1)
      have HO2 := Lib.hid hown'
      clear hown' hgrow hb HO hc0 hc1
      go_wp2
      go_roundw
      case rel => exact ⟨k + 1, by omega, by have := HO'.out; congr 1; omega, hbn, HO2⟩
      case measure => simp [intOf]
    · have hkl : k = ps.length := by omega
      subst hkl
      obtain ⟨wo, rfl⟩ : ∃ wo : World, wo = wr := ⟨_, rfl⟩
      rw [show ((ps.length : Int) - 1 - (ps.length : Int)) = -1 by omega]
      have hrl : ps.reverse.take ps.length = ps.reverse := List.take_of_length_le (by simp)
      have ho := HO.out
      rw [hrl] at ho
      obtain ⟨v2, cap2, hv, hAm⟩ := own_am (ps := ps.reverse) (by rw [List.length_reverse]; exact ho)
      rw [List.length_reverse] at hv
      rw [hv]
      have HAM := Lib.hid hAm
      clear hrl ho hv hAm HO hk hlt
      go_wp2_with fail
      refine (S2.out _ _ _ HAM.out).mono ?_
      rintro er w2 ⟨rfl, hb2⟩
      have hBo : Below w.heap.size w wo := hb1.trans (((below_new2 w1 _).trans (hb.mono (by omega))).mono hb1.size)
      have hB2 : Below w.heap.size w w2 := hBo.trans (hb2.mono hBo.size)
      have z1o : w1.heap.size + 1 ≤ wo.heap.size := by have := hb.size; simpa using this
      obtain ⟨bx0, bx1⟩ := boxB hb (by omega)
      obtain ⟨ax0, ax1⟩ := carry1 hb2 (by omega) bx0 bx1
      have z21 : w1.heap.size < w2.heap.size := by have := hb2.size; omega
      have zw1 : w.heap.size ≤ w1.heap.size := hb1.size
      clear bx0 bx1 hb hb1 hb2 hBo z1o
      go_wp2_with fail
      go_loopw [10, 11] (fun al i wr => ∃ k : Nat, ∃ s t : Int, k ≤ ps.length ∧ i = .int .i64 k ∧ al = .bool true ∧ Hid (oneGo s t (ps.drop k) = oneGo 0 0 ps) ∧ Below (w2.heap.size + 1) (w2.alloc (.cells #[.int .i64 y0, .int .i64 y1] 26)) wr ∧
          (wr.cell? ⟨w2.heap.size + 1, 0, none⟩ = some (.int .i64 s) ∧ wr.cell? ⟨w2.heap.size + 1, 1, none⟩ = some (.int .i64 t) ∧ ∀ i, wr.frozen? ⟨w2.heap.size + 1, i, none⟩ = false) ∧ w2.heap.size + 1 < wr.heap.size)
        (fun _ i _ => ps.length - (intOf i).toNat)
      case atStart =>
        refine ⟨0, 0, 0, Nat.zero_le _, rfl, rfl, rfl, (Below.refl _ _).alloc (by simp) _, ?_⟩
        obtain ⟨c1, c2, c3⟩ := boxes2 (w := w2) (w1 := (w2.alloc (.cells #[.int .i64 y0, .int .i64 y1] 26)).alloc (.cells #[.int .i64 0, .int .i64 0] 26)) (Below.refl _ _)
        exact ⟨c2, c3⟩
      case round =>
        obtain ⟨k, s, t, hk, rfl, rfl, hs, hr, ⟨c4, c5, c6⟩, c10⟩ := hrel
        by_cases hlt : k < ps.length
        · obtain ⟨b, off, rfl, hbl, hc0, hc1⟩ := HA.out k hlt
          have hbr' : b < wr.heap.size := by omega
          have hwr : ∀ o, wr.cell? ⟨b, o, none⟩ = w.cell? ⟨b, o, none⟩ := fun o => by
            rw [hr.cell (p := ⟨b, o, none⟩) (by show b < _; omega), World.cell?_alloc_lt _ _ _ (by show b < _; omega), hB2.cell (p := ⟨b, o, none⟩) hbl]
          rw [← hwr] at hc0 hc1
          rcases hp : ps.getD k (0, 0) with ⟨x, y⟩
          rw [hp] at hc0 hc1
          have hs' := hs.out
          rw [drop_at hlt hp] at hs'
          clear hp hs hwr
          rcases h2 : (addE s t x y != 0) with _ | _
          · rw [oneGo_step h2] at hs'
            have H := Lib.hid hs'
            clear hs'
            go_wp2_with fail
            refine RegRel.wp_region_bel 11 10 (by kernel_rfl) (by kernel_rfl) [RegRel.is (.agg #[.int .i64 s, .int .i64 t]), RegRel.is (.slice (some ⟨b, off, none⟩) ps.length cap), RegRel.is (.int .i64 k), RegRel.is (.pointer (some ⟨b, off + k * 2, none⟩)), RegRel.is (.agg #[.int .i64 x, .int .i64 y]),
              RegRel.is (.tuple #[.agg #[.int .i64 (addV s t x y s x), .int .i64 (addV s t x y t y)], .int .i64 (addE s t x y)]), RegRel.is (.tuple #[.agg #[.int .i64 (addV s t x y s x), .int .i64 (addV s t x y t y)], .int .i64 (addE s t x y)]),
              RegRel.is (.agg #[.int .i64 (addV s t x y s x), .int .i64 (addV s t x y t y)]), RegRel.is (.int .i64 (addE s t x y)), RegRel.fresh wr.heap.size 2, RegRel.filled wr.heap.size 9 [.int .i64 (addV s t x y s x), .int .i64 (addV s t x y t y)]]
              (by simp [RegRel.AllStable, RegRel.stable_is, RegRel.tough_is, RegRel.stable_fresh, RegRel.tough_fresh, RegRel.stable_filled]) rfl (by kernel_rfl) ?_ ?_
            · simp only [List.take_succ_cons, List.take_zero, RegRel.OpsOk, RegRel.puts]
              refine ⟨?_, ?_, ?_, ?_, ?_, ?_, ?_, ?_, ?_, ?_, ?_, trivial⟩
              rotate_left 10
              · intro u w' hC hD
                simp [RegRel.DepsOk, Region.binds, RegRel.ent, RegRel.is, RegRel.fresh] at hD
                obtain ⟨⟨n, hn, h1, h3, c, ⟨ty, h4⟩, h5⟩, h10, _⟩ := hD
                obtain ⟨p, q, h6, h7, h8, h9⟩ := RegRel.two_cells h4 h5
                have H6 := Lib.hid h6
                clear h4 h5 h6
                go_simp
                simp only [RegRel.ent, RegRel.filled, RegRel.step, RegRel.upd]
                exact RegRel.store_step hn h1 h3 H6.out
              all_goals
                intro u w' hC hD
                try simp [RegRel.DepsOk, Region.binds, RegRel.ent, RegRel.is] at hD
                have e1 := (hC.cell (p := ⟨w2.heap.size + 1, 0, none⟩) c10).trans c4
                have e2 := (hC.cell (p := ⟨w2.heap.size + 1, 1, none⟩) c10).trans c5
                have e3 := (hC.cell (p := ⟨b, off + k * 2, none⟩) hbr').trans hc0
                have e4 := (hC.cell (p := ⟨b, off + k * 2 + 1, none⟩) hbr').trans hc1
                go_simp
              all_goals (try simp [RegRel.ent, RegRel.is, RegRel.step, RegRel.upd, Below.refl])
              · exact (add_any _ _ _ _ _).mono fun e w'' ⟨he, hb⟩ => ⟨_, he, rfl, hb⟩
              · exact ⟨RegRel.fresh_new _ #[_, _] _ hC.size, RegRel.below_new _ _⟩
            · intro u w3 hb3 hv
              simp only [List.take_succ_cons, List.take_zero, List.drop_succ_cons, List.drop_zero, RegRel.puts]
              simp [RegRel.allV, RegRel.is, RegRel.filled] at hv
              obtain ⟨v0, v1, v2, v3, v4, v5, v6, v7, v8, _, hv⟩ := hv
              obtain ⟨n, v9, n1, n2, n3, n4, n5⟩ := hv.cells2
              clear hv
              obtain ⟨d4, d5, d6⟩ := carry2 hb3 (by omega) c4 c5 c6
              have d10 : w2.heap.size + 1 < w3.heap.size := by have := hb3.size; omega
              have hr3 : Below (w2.heap.size + 1) (w2.alloc (.cells #[.int .i64 y0, .int .i64 y1] 26)) w3 := hr.trans (hb3.mono (by omega))
              clear hb3 hr c4 c5 c6 hc0 hc1
              go_wp2
              go_roundw
              case rel =>
                refine ⟨k + 1, _, _, by omega, by go_num, rfl, H, ?_, ⟨?_, ?_, fun i => ?_⟩, by simp; omega⟩
                · exact (hr3.setCell (by simp) _).setCell (by simp) _
                all_goals go_simp
              case measure => simp [intOf]; omega
          · rw [oneGo_bad h2] at hs'
            have q1 : (e == 0) = false := by rw [ONE.out.1, ← hs']
            have q2 : (f == 0) = false := by rw [← R1.out]; exact q1
            have q3 : (x0 == y0) = true := beq_of R2.out
            have q4 : (x1 == y1) = true := beq_of R3.out
            clear hs'
            go_wp2_with fail
            refine RegRel.wp_region_bel 11 10 (by kernel_rfl) (by kernel_rfl) [RegRel.is (.agg #[.int .i64 s, .int .i64 t]), RegRel.is (.slice (some ⟨b, off, none⟩) ps.length cap), RegRel.is (.int .i64 k), RegRel.is (.pointer (some ⟨b, off + k * 2, none⟩)), RegRel.is (.agg #[.int .i64 x, .int .i64 y]),
              RegRel.is (.tuple #[.agg #[.int .i64 (addV s t x y s x), .int .i64 (addV s t x y t y)], .int .i64 (addE s t x y)]), RegRel.is (.tuple #[.agg #[.int .i64 (addV s t x y s x), .int .i64 (addV s t x y t y)], .int .i64 (addE s t x y)]),
              RegRel.is (.agg #[.int .i64 (addV s t x y s x), .int .i64 (addV s t x y t y)]), RegRel.is (.int .i64 (addE s t x y)), RegRel.fresh wr.heap.size 2, RegRel.filled wr.heap.size 9 [.int .i64 (addV s t x y s x), .int .i64 (addV s t x y t y)]]
              (by simp [RegRel.AllStable, RegRel.stable_is, RegRel.tough_is, RegRel.stable_fresh, RegRel.tough_fresh, RegRel.stable_filled]) rfl (by kernel_rfl) ?_ ?_
            · simp only [List.take_succ_cons, List.take_zero, RegRel.OpsOk, RegRel.puts]
              refine ⟨?_, ?_, ?_, ?_, ?_, ?_, ?_, ?_, ?_, ?_, ?_, trivial⟩
              rotate_left 10
              · intro u w' hC hD
                simp [RegRel.DepsOk, Region.binds, RegRel.ent, RegRel.is, RegRel.fresh] at hD
                obtain ⟨⟨n, hn, h1, h3, c, ⟨ty, h4⟩, h5⟩, h10, _⟩ := hD
                obtain ⟨p, q, h6, h7, h8, h9⟩ := RegRel.two_cells h4 h5
                have H6 := Lib.hid h6
                clear h4 h5 h6
                go_simp
                simp only [RegRel.ent, RegRel.filled, RegRel.step, RegRel.upd]
                exact RegRel.store_step hn h1 h3 H6.out
              all_goals
                intro u w' hC hD
                try simp [RegRel.DepsOk, Region.binds, RegRel.ent, RegRel.is] at hD
                have e1 := (hC.cell (p := ⟨w2.heap.size + 1, 0, none⟩) c10).trans c4
                have e2 := (hC.cell (p := ⟨w2.heap.size + 1, 1, none⟩) c10).trans c5
                have e3 := (hC.cell (p := ⟨b, off + k * 2, none⟩) hbr').trans hc0
                have e4 := (hC.cell (p := ⟨b, off + k * 2 + 1, none⟩) hbr').trans hc1
                go_simp
              all_goals (try simp [RegRel.ent, RegRel.is, RegRel.step, RegRel.upd, Below.refl])
              · exact (add_any _ _ _ _ _).mono fun e w'' ⟨he, hb⟩ => ⟨_, he, rfl, hb⟩
              · exact ⟨RegRel.fresh_new _ #[_, _] _ hC.size, RegRel.below_new _ _⟩
            · intro u w3 hb3 hv
              simp only [List.take_succ_cons, List.take_zero, List.drop_succ_cons, List.drop_zero, RegRel.puts]
              simp [RegRel.allV, RegRel.is, RegRel.filled] at hv
              obtain ⟨v0, v1, v2, v3, v4, v5, v6, v7, v8, _, hv⟩ := hv
              obtain ⟨n, v9, n1, n2, n3, n4, n5⟩ := hv.cells2
              clear hv
              obtain ⟨d4, d5, d6⟩ := carry2 hb3 (by omega) c4 c5 c6
              have d10 : w2.heap.size + 1 < w3.heap.size := by have := hb3.size; omega
              have hr3 : Below (w2.heap.size + 1) (w2.alloc (.cells #[.int .i64 y0, .int .i64 y1] 26)) w3 := hr.trans (hb3.mono (by omega))
              clear hb3 hr c4 c5 c6 hc0 hc1
              obtain ⟨ox0, ox1⟩ := carryA hr3 (by omega) z21 ax0 ax1
              obtain ⟨oy0, oy1⟩ := boxB hr3 (by omega)
              have hBr : Below w.heap.size w w3 := hB2.trans (((below_new2 w2 _).trans (hr3.mono (by omega))).mono hB2.size)
              have zz1 : w1.heap.size < w3.heap.size := by omega
              have zz2 : w2.heap.size < w3.heap.size := by omega
              go_wp2_with fail
              refine (live1_any _).mono ?_
              rintro er w4 ⟨rfl, hb4⟩
              obtain ⟨px0, px1⟩ := carry1 hb4 zz1 ox0 ox1
              obtain ⟨py0, py1⟩ := carry1 hb4 zz2 oy0 oy1
              obtain ⟨pz0, pz1⟩ := carry1 hb4 d10 d4 d5
              have hB4 : Below w.heap.size w w4 := hBr.trans (hb4.mono hBr.size)
              clear hb4 hBr ox0 ox1 oy0 oy1
              go_wp2_with fail
              go_ret
              exact ⟨rfl, hB4⟩
        · have hkl : k = ps.length := by omega
          subst hkl
          have hs' := hs.out
          rw [List.drop_length] at hs'
          have q1 : (e == 0) = true := by rw [ONE.out.1, ← hs']; rfl
          have q2 : (f == 0) = true := by rw [← R1.out]; exact q1
          have q3 : (x0 == y0) = true := beq_of R2.out
          have q4 : (x1 == y1) = true := beq_of R3.out
          have q7 := ONE.out.2 (by rw [← hs']; rfl)
          rw [← hs'] at q7
          have q5 : (x0 == s) = true := beq_of q7.1
          have q6 : (x1 == t) = true := beq_of q7.2
          clear hs hs' q7
          obtain ⟨ox0, ox1⟩ := carryA hr (by omega) z21 ax0 ax1
          obtain ⟨oy0, oy1⟩ := boxB hr (by omega)
          have hBr : Below w.heap.size w wr := hB2.trans (((below_new2 w2 _).trans (hr.mono (by omega))).mono hB2.size)
          have zz1 : w1.heap.size < wr.heap.size := by omega
          have zz2 : w2.heap.size < wr.heap.size := by omega
          go_wp2_with fail
          refine (live1_any _).mono ?_
          rintro er w4 ⟨rfl, hb4⟩
          obtain ⟨px0, px1⟩ := carry1 hb4 zz1 ox0 ox1
          obtain ⟨py0, py1⟩ := carry1 hb4 zz2 oy0 oy1
          obtain ⟨pz0, pz1⟩ := carry1 hb4 c10 c4 c5
          have hB4 : Below w.heap.size w w4 := hBr.trans (hb4.mono hBr.size)
          clear hb4 hBr ox0 ox1 oy0 oy1
          go_wp2_with fail
          go_ret
          exact ⟨rfl, hB4⟩

set_option maxRecDepth 100000 in
theorem amountOrder_lifted (os : Os) (started : os.Started) (H : Type) (enc : TypeId × Value → H) :
    ReturnsInHanded {} Try.checked os 7 .any (Rows.amountOrderSpec.pre6 enc Try.prog Try.f7 Rows.amountOrderRow.domain false) (Rows.amountOrderSpec.post enc Try.prog Try.f7 false true false false) := by
  refine returnsInHanded_of_change_sized (C := Try.checked) own started (by kernel_rfl) Try.func7
    (ChangeSpec.witness6 (enc := enc) (C := Try.checked) false ⟨#[], #[.slice none 0 0], []⟩ 8 (by kernel_rfl) (by kernel_rfl) (by kernel_rfl) (by kernel_rfl)) ?_
  intro W base args ds gs before hval0 hW hcnd hsz _
  have hval : ∀ (j : Nat) t v, Try.f7.params[j]? = some t → args[j]? = some v → Value.okWide Try.prog W .any base t v := hval0
  have hW' := hW
  obtain ⟨p, q, hA0, hV, rfl, hfz, hnd⟩ := hW
  have hA : DataW.TrodAll enc Try.prog W 0 (fun _ => true) true Try.f7.params.toList args.toList ds p := hA0
  rw [Try.params7] at hA hval
  obtain ⟨v0, vs0, d0, ds0, p0, q0, hargs, rfl, rfl, k0, r0⟩ := trodAll_cons hA
  obtain ⟨rfl, rfl, rfl⟩ := trodAll_nil r0
  obtain rfl : args = #[v0] := by cases args; simp_all
  obtain ⟨rfl, rfl⟩ := trodVars_none hV
  have lt0 : ∀ x ∈ p0, x.block < W.heap.size := by obtain ⟨m, hm⟩ := k0; exact DataW.trod_lt m _ _ _ hm
  obtain ⟨a0, len0, cap0, rfl⟩ := okWide_slice Try.underlying31 (hval 0 31 v0 rfl rfl)
  obtain ⟨ps, rfl, hA1, _, hz⟩ := open31 k0
  have hA2 := sized31 (j := 0) hsz rfl rfl hz
  clear hA0 hval0
  refine (amountOrder_walk ps a0 cap0 W hA1 hA2).mono fun e W' ⟨he, bel⟩ => ?_
  subst he
  exact ⟨_, rfl, _, _, _, [], _, [], hW', trodAll_mk1 (shut_bool Try.underlying4 _), (trodAll_cons_mk (Below.trod laidOut (by kernel_rfl) (of_decide_eq_true (by kernel_rfl)) k0 bel lt0) trodAll_mk0), rfl, bel.frame _, fun h => by cases h⟩

theorem amountOrder_over : Rows.amountOrderRow.holds Try.pinned (OpenSpec.ofChange Rows.amountOrderSpec) :=
  OpenClaim.holds_of_wide 7 Try.f7 rfl rfl rfl rfl rfl rfl rfl ⟨rfl, rfl, rfl, rfl, rfl⟩ rfl rfl rfl rfl rfl (by kernel_rfl) Try.func7 (by kernel_rfl)
    (of_decide_eq_true (by kernel_rfl)) (by unfold Func.isWrapper; first | (rw [if_pos (by decide +kernel)]; kernel_rfl) | (rw [if_neg (by decide +kernel)]; exact ⟨rfl, rfl⟩))
    (fun os started H enc _ => amountOrder_lifted os started H enc)

theorem amountOrder_holds : Rows.AmountOrderSaid := amountOrder_over

end Go.Proofs.Ytnaphpgbmjpicaa
