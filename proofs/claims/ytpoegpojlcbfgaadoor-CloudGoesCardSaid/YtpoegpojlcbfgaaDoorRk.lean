/- Two clouds of the same data have the same: sutlerlaw11.same. -/
import Derived.Test.YtpoegpojlcbfgaaDoorRj
import Derived.Test.YtpoegpojlcbfgaaDoorRg
import Derived.Test.YtpoegpojlcbfgaaDoorJ
namespace Go.Proofs.YtpoegpojlcbfgaaDoor
open Go.RowKit
attribute [local go_sem] RegRel.relUpon RegRel.opOk

theorem rowed_set {w : World} {e : TypeId} {size n g j : Nat} {o : Option Nat} {v u : Value} {xs : List Value} (h : Rowed w e size o v n xs) (hn : o ≠ some g) : Rowed (w.setCell ⟨g, j, none⟩ u) e size o v n xs :=
  h.kept fun k hk => Below.heap_setCell _ _ _ _ (fun e => hn (by rw [hk, e]))
theorem set_later {α : Type} {l m : List α} {n : Nat} {x : α} (h : ∀ j, n ≤ j → l[j]? = m[j]?) : ∀ j, n + 1 ≤ j → (l.set n x)[j]? = m[j]? := fun j hj => by
  rw [List.getElem?_set, if_neg (by omega)]
  exact h j (by omega)

set_option maxRecDepth 100000 in
set_option maxHeartbeats 8000000 in
theorem same_any (c : Cd) (p q : Nat) (F G : List Nat) (w : World) (now : Int) (hO : Own w p c F) (hR : Rown w q c G) (h64 : c.is.length ≤ 64) (h32 : c.ns.length ≤ 32) :
    Calls Tryd.prog 25 #[.pointer (some ⟨p, 0, none⟩), .pointer (some ⟨q, 0, none⟩), .int .i64 now] w fun e w' => e = .returned (.bool true) ∧ Below w.heap.size w w' := by
  have HO := Lib.hid hO
  obtain ⟨oi, os, on, vi, vs, vn, hR, rfl⟩ := hR
  have HR := Lib.hid hR
  obtain ⟨a0, cap0, rfl, -⟩ := hR.ns.shape
  have hL : (c.insts now).length ≤ 64 := by rw [show (c.insts now).length = c.is.length by simp [Cd.insts]]; exact h64
  have I1 := Lib.hid (insts_any c p F w now hO h64)
  have I2 := Lib.hid (fun w1 (h : Below w.heap.size w w1) => rinsts_any c q (rfoot q oi os on) w1 now ⟨_, _, _, _, _, _, HR.out.below h, rfl⟩ h64)
  generalize c.insts now = l0 at hL I1 I2
  clear hO hR
  go_enter Tryd.func25, Tryd.ntmps25
  go_wp2_with fail
  refine I1.out.mono ?_
  rintro er w1 ⟨oa, va, rfl, hA, hb1, hfa⟩
  obtain ⟨a1, cap1, rfl, -⟩ := hA.shape
  have HA := Lib.hid hA
  have I2' := Lib.hid (I2.out w1 hb1)
  clear hA I1 I2
  go_wp2_with fail
  refine I2'.out.mono ?_
  rintro er w2 ⟨ob, vb, rfl, hB, hb2, hfb⟩
  obtain ⟨a2, cap2, rfl, -⟩ := hB.shape
  have HB := Lib.hid hB
  have hbw2 : Below w.heap.size w w2 := hb1.trans (hb2.mono hb1.size)
  have I3 := Lib.hid (notes_any c p F w2 (HO.out.below hbw2) h32)
  clear hB I2'
  go_wp2_with fail
  refine I3.out.mono ?_
  rintro er w3 ⟨om, vm, rfl, hM, hb3, hfm⟩
  obtain ⟨a3, cap3, rfl, -⟩ := hM.shape
  have HM3 := Lib.hid hM
  have hbw3 : Below w.heap.size w w3 := hbw2.trans (hb3.mono hbw2.size)
  have hb13 : Below w1.heap.size w1 w3 := hb2.trans (hb3.mono hb2.size)
  have HA3 := Lib.hid (HA.out.below hb13)
  have HB3 := Lib.hid (HB.out.below hb3)
  have z1 := hb1.size
  have z2 := hb2.size
  have hab : ∀ g, oa = some g → ob ≠ some g := fun g h1 h2 => by have := HA.out.lt h1; have := hfb g h2; omega
  have ham : ∀ g, oa = some g → om ≠ some g := fun g h1 h2 => by have := HA.out.lt h1; have := hfm g h2; omega
  have ha0 : ∀ g, oa = some g → w.heap.size ≤ g := hfa
  have hm0 : ∀ g, om = some g → w.heap.size ≤ g := fun g h => by have := hfm g h; omega
  obtain ⟨d0, d1, d2, d3, d4⟩ := (HR.out.below hbw3).cells
  have hq : q < w3.heap.size := (HR.out.below hbw3).lt (mem_rfoot.2 (.inl rfl))
  clear hM hb3 hb2 hb1 HA HB hbw2 hb13 z1 z2 I3 hfa hfb hfm d0 d1 d2
  go_wp2_with fail
  refine RegRel.wp_region_still 23 (by kernel_rfl) (by kernel_rfl) [RegRel.is (.slice a1 l0.length cap1), RegRel.is (.int .i64 l0.length), RegRel.is (.slice a2 l0.length cap2), RegRel.is (.int .i64 l0.length), RegRel.is (.bool false), RegRel.is (.bool false),
    RegRel.is (.slice a3 c.ns.length cap3), RegRel.is (.int .i64 c.ns.length), RegRel.is (.pointer (some ⟨q, 0, none⟩)), RegRel.is (.pointer (some ⟨q, 0, none⟩)), RegRel.is (.pointer (some ⟨q, 3, none⟩)), RegRel.is (.slice a0 c.ns.length cap0), RegRel.is (.int .i64 c.ns.length), RegRel.is (.bool false), RegRel.is (.bool false), RegRel.is (.bool false),
    RegRel.is (.pointer (some ⟨p, 0, none⟩)), RegRel.is (.int .i64 c.n), RegRel.is (.pointer (some ⟨q, 0, none⟩)), RegRel.is (.pointer (some ⟨q, 0, none⟩)), RegRel.is (.pointer (some ⟨q, 4, none⟩)), RegRel.is (.int .i64 c.n), RegRel.is (.bool false)]
    (by simp [RegRel.stable_is]) rfl (by kernel_rfl) ?_ ?_
  · simp only [List.take_succ_cons, List.take_zero, RegRel.OpsOk, RegRel.puts]
    refine ⟨?_, ?_, ?_, ?_, ?_, ?_, ?_, ?_, ?_, ?_, ?_, ?_, ?_, ?_, ?_, ?_, ?_, ?_, ?_, ?_, ?_, ?_, ?_, trivial⟩
    all_goals
      intro u w' hC hD
      try simp [RegRel.DepsOk, Region.binds, RegRel.ent, RegRel.is] at hD
      have e3 := (hC.cell (p := ⟨q, 3, none⟩) hq).trans d3
      have e4 := (hC.cell (p := ⟨q, 4, none⟩) hq).trans d4
      go_simp
    all_goals (try simp [RegRel.ent, RegRel.is, RegRel.upd, Below.refl])
    exact (writes_any c p F w' (HO.out.below (hbw3.trans (hC.mono hbw3.size)))).mono fun e w'' ⟨he, hw⟩ => ⟨_, he, rfl, by rw [hw]; exact Below.refl _ _⟩
  · intro u w4 hC hv
    simp only [List.take_succ_cons, List.take_zero, List.drop_succ_cons, List.drop_zero, RegRel.puts]
    simp [RegRel.allV, RegRel.is] at hv
    obtain ⟨v0, v1, v2, v3, v4, v5, v6, v7, v8, v9, v10, v11, v12, v13, v14, v15, v16, v17, v18, v19, v20, v21, v22⟩ := hv
    have hbw4 : Below w.heap.size w w4 := hbw3.trans (hC.mono hbw3.size)
    have HA4 := Lib.hid (HA3.out.below hC)
    have HB4 := Lib.hid (HB3.out.below hC)
    have HM4 := Lib.hid (HM3.out.below hC)
    clear hC HA3 HB3 HM3 hbw3 d3 d4 hq
    go_wp2_with fail
    go_loopw [46] (fun i wr => ∃ (n : Nat) (l : List In), n ≤ l0.length ∧ i = .int .i64 n ∧ Below w.heap.size w wr ∧ Hid (l.length = l0.length ∧ ∀ j, n ≤ j → l[j]? = l0[j]?) ∧ Hid (Rowed wr 41 7 oa (.slice a1 l0.length cap1) l.length (l.flatMap In.cells)) ∧ Hid (Rowed wr 41 7 ob (.slice a2 l0.length cap2) l0.length (l0.flatMap In.cells)) ∧ Hid (Rowed wr 9 1 om (.slice a3 c.ns.length cap3) c.ns.length (strs c.ns)))
      (fun i _ => l0.length - (intOf i).toNat)
    case atStart => exact ⟨0, l0, Nat.zero_le _, rfl, hbw4, ⟨rfl, fun _ _ => rfl⟩, HA4, HB4, HM4⟩
    case round =>
      obtain ⟨n, l, hn, rfl, hb, HL, HA, HB, HM⟩ := hrel
      by_cases hlt : n < l0.length
      · obtain ⟨x, hx⟩ : ∃ x, l0[n]? = some x := ⟨_, List.getElem?_eq_getElem hlt⟩
        have hxl : l[n]? = some x := (HL.out.2 n (Nat.le_refl _)).trans hx
        obtain ⟨ga, offa, capa, hva, hoa, hga, -, hca, hfa⟩ := HA.out.elt in_len hxl
        rw [HL.out.1] at hva
        cases hva
        obtain ⟨gb, offb, capb, hvb, -, hgb, -, hcb, -⟩ := HB.out.elt in_len hx
        cases hvb
        have a0 := hca 0 _ rfl
        have a1 := hca 1 _ rfl
        have a2 := hca 2 _ rfl
        have a3 := hca 3 _ rfl
        have a4 := hca 4 _ rfl
        have a5 := hca 5 _ rfl
        have a6 := hca 6 _ rfl
        have b0 := hcb 0 _ rfl
        have b1 := hcb 1 _ rfl
        have b2 := hcb 2 _ rfl
        have b3 := hcb 3 _ rfl
        have b4 := hcb 4 _ rfl
        have b5 := hcb 5 _ rfl
        have b6 := hcb 6 _ rfl
        simp only [Nat.add_zero] at a0 b0
        have hfr := hfa (offa + n * 7)
        clear hca hcb hfa
        go_wp2_with fail
        refine RegRel.wp_region_still 8 (by kernel_rfl) (by kernel_rfl) [RegRel.is (.slice (some ⟨ga, offa, none⟩) l0.length cap1), RegRel.is (.int .i64 n), RegRel.is (.pointer (some ⟨ga, offa + n * 7, none⟩)), RegRel.is (.agg #[.string x.id, .string x.tok, .string x.o.t, .string x.o.z, .string x.o.k, .int .i64 x.st, .int .i64 x.rd]),
          RegRel.is (.slice (some ⟨gb, offb, none⟩) l0.length cap2), RegRel.is (.int .i64 n), RegRel.is (.pointer (some ⟨gb, offb + n * 7, none⟩)), RegRel.is (.agg #[.string x.id, .string x.tok, .string x.o.t, .string x.o.z, .string x.o.k, .int .i64 x.st, .int .i64 x.rd])]
          (by simp [RegRel.stable_is]) rfl (by kernel_rfl) ?_ ?_
        · simp only [List.take_succ_cons, List.take_zero, RegRel.OpsOk, RegRel.puts]
          refine ⟨?_, ?_, ?_, ?_, ?_, ?_, ?_, ?_, trivial⟩
          all_goals
            intro u w' hC hD
            try simp [RegRel.DepsOk, Region.binds, RegRel.ent, RegRel.is] at hD
            have x0 := (hC.cell (p := ⟨ga, offa + n * 7, none⟩) hga).trans a0
            have x1 := (hC.cell (p := ⟨ga, offa + n * 7 + 1, none⟩) hga).trans a1
            have x2 := (hC.cell (p := ⟨ga, offa + n * 7 + 2, none⟩) hga).trans a2
            have x3 := (hC.cell (p := ⟨ga, offa + n * 7 + 3, none⟩) hga).trans a3
            have x4 := (hC.cell (p := ⟨ga, offa + n * 7 + 4, none⟩) hga).trans a4
            have x5 := (hC.cell (p := ⟨ga, offa + n * 7 + 5, none⟩) hga).trans a5
            have x6 := (hC.cell (p := ⟨ga, offa + n * 7 + 6, none⟩) hga).trans a6
            have y0 := (hC.cell (p := ⟨gb, offb + n * 7, none⟩) hgb).trans b0
            have y1 := (hC.cell (p := ⟨gb, offb + n * 7 + 1, none⟩) hgb).trans b1
            have y2 := (hC.cell (p := ⟨gb, offb + n * 7 + 2, none⟩) hgb).trans b2
            have y3 := (hC.cell (p := ⟨gb, offb + n * 7 + 3, none⟩) hgb).trans b3
            have y4 := (hC.cell (p := ⟨gb, offb + n * 7 + 4, none⟩) hgb).trans b4
            have y5 := (hC.cell (p := ⟨gb, offb + n * 7 + 5, none⟩) hgb).trans b5
            have y6 := (hC.cell (p := ⟨gb, offb + n * 7 + 6, none⟩) hgb).trans b6
            go_simp
          all_goals (try simp [RegRel.ent, RegRel.is, RegRel.upd, Below.refl])
        · intro u w5 hC hv
          simp only [List.take_succ_cons, List.take_zero, List.drop_succ_cons, List.drop_zero, RegRel.puts]
          simp [RegRel.allV, RegRel.is] at hv
          obtain ⟨v0, v1, v2, v3, v4, v5, v6, v7⟩ := hv
          have hbd : w5.cell? ⟨ga, offa + n * 7, none⟩ = some (.string x.id) := (hC.cell (p := ⟨ga, offa + n * 7, none⟩) hga).trans a0
          have hfd : w5.frozen? ⟨ga, offa + n * 7, none⟩ = false := (World.frozen?_of_block (a := ⟨ga, offa + n * 7, none⟩) (hC.block ga hga)).trans hfr
          have hx' : In.cells { x with id := ⟨#[122, 122]⟩ } = (In.cells x).set 0 (.string ⟨#[122, 122]⟩) := rfl
          have HA' := Lib.hid ((HA.out.below hC).poke in_len hxl (by decide : 0 < 7) hx' (g := ga) (off := offa) (cap := cap1) (by rw [HL.out.1]))
          have HL' : Hid ((l.set n { x with id := ⟨#[122, 122]⟩ }).length = l0.length ∧ ∀ j, n + 1 ≤ j → (l.set n { x with id := ⟨#[122, 122]⟩ })[j]? = l0[j]?) := ⟨by rw [List.length_set]; exact HL.out.1, set_later HL.out.2⟩
          have HB' := Lib.hid (rowed_set (j := offa + n * 7) (u := .string ⟨#[122, 122]⟩) (HB.out.below hC) (hab _ hoa))
          have HM' := Lib.hid (rowed_set (j := offa + n * 7) (u := .string ⟨#[122, 122]⟩) (HM.out.below hC) (ham _ hoa))
          have hb' : Below w.heap.size w (w5.setCell ⟨ga, offa + n * 7, none⟩ (.string ⟨#[122, 122]⟩)) := (hb.trans (hC.mono hb.size)).setCell (p := ⟨ga, offa + n * 7, none⟩) (ha0 _ hoa) _
          simp only [Nat.add_zero] at HA'
          clear hx' hC hx hxl HA HB HM HL hb
          go_wp2_with fail
          go_roundw
          case rel => exact ⟨n + 1, _, by omega, by go_num, hb', HL', HA', HB', HM'⟩
          case measure => simp [intOf]; omega
      · have hnl : n = l0.length := by omega
        subst hnl
        clear HA HB HL
        go_wp2_with fail
        go_loopw [65] (fun i wr => ∃ (n : Nat) (l : List ByteArray), n ≤ c.ns.length ∧ i = .int .i64 n ∧ Below w.heap.size w wr ∧ Hid (l.length = c.ns.length ∧ ∀ j, n ≤ j → l[j]? = c.ns[j]?) ∧ Hid (Rowed wr 9 1 om (.slice a3 c.ns.length cap3) l.length (strs l)))
          (fun i _ => c.ns.length - (intOf i).toNat)
        case atStart => exact ⟨0, c.ns, Nat.zero_le _, rfl, hb, ⟨rfl, fun _ _ => rfl⟩, HM⟩
        case round =>
          clear hb HM
          obtain ⟨n, l, hn, rfl, hb, HL, HM⟩ := hrel
          by_cases hlt : n < c.ns.length
          · obtain ⟨x, hx⟩ : ∃ x, c.ns[n]? = some x := ⟨_, List.getElem?_eq_getElem hlt⟩
            have hxl : l[n]? = some x := (HL.out.2 n (Nat.le_refl _)).trans hx
            obtain ⟨ga, offa, capa, hva, hoa, hga, -, hca, hfa⟩ := HM.out.str hxl
            rw [HL.out.1] at hva
            cases hva
            have HRr := HR.out.below hb
            obtain ⟨gb, offb, capb, hvb, -, hgb, -, hcb, -⟩ := HRr.ns.str hx
            cases hvb
            obtain ⟨d0, d1, d2, d3, d4⟩ := HRr.cells
            have hqr : q < wr.heap.size := HRr.lt (mem_rfoot.2 (.inl rfl))
            have hfr := hfa (offa + n)
            clear hfa HRr d0 d1 d2 d4
            go_wp2_with fail
            refine RegRel.wp_region_still 11 (by kernel_rfl) (by kernel_rfl) [RegRel.is (.slice (some ⟨ga, offa, none⟩) c.ns.length cap3), RegRel.is (.int .i64 n), RegRel.is (.pointer (some ⟨ga, offa + n, none⟩)), RegRel.is (.string x),
              RegRel.is (.pointer (some ⟨q, 0, none⟩)), RegRel.is (.pointer (some ⟨q, 0, none⟩)), RegRel.is (.pointer (some ⟨q, 3, none⟩)), RegRel.is (.slice (some ⟨gb, offb, none⟩) c.ns.length cap0), RegRel.is (.int .i64 n), RegRel.is (.pointer (some ⟨gb, offb + n, none⟩)), RegRel.is (.string x)]
              (by simp [RegRel.stable_is]) rfl (by kernel_rfl) ?_ ?_
            · simp only [List.take_succ_cons, List.take_zero, RegRel.OpsOk, RegRel.puts]
              refine ⟨?_, ?_, ?_, ?_, ?_, ?_, ?_, ?_, ?_, ?_, ?_, trivial⟩
              all_goals
                intro u w' hC hD
                try simp [RegRel.DepsOk, Region.binds, RegRel.ent, RegRel.is] at hD
                have x0 := (hC.cell (p := ⟨ga, offa + n, none⟩) hga).trans hca
                have y0 := (hC.cell (p := ⟨gb, offb + n, none⟩) hgb).trans hcb
                have e3 := (hC.cell (p := ⟨q, 3, none⟩) hqr).trans d3
                go_simp
              all_goals (try simp [RegRel.ent, RegRel.is, RegRel.upd, Below.refl])
            · intro u w5 hC hv
              simp only [List.take_succ_cons, List.take_zero, List.drop_succ_cons, List.drop_zero, RegRel.puts]
              simp [RegRel.allV, RegRel.is] at hv
              obtain ⟨v0, v1, v2, v3, v4, v5, v6, v7, v8, v9, v10⟩ := hv
              have hbd : w5.cell? ⟨ga, offa + n, none⟩ = some (.string x) := (hC.cell (p := ⟨ga, offa + n, none⟩) hga).trans hca
              have hfd : w5.frozen? ⟨ga, offa + n, none⟩ = false := (World.frozen?_of_block (a := ⟨ga, offa + n, none⟩) (hC.block ga hga)).trans hfr
              have HM5 := HM.out.below hC
              rw [strs_flat] at HM5
              have HM' := Lib.hid (HM5.poke (f := fun s => [Value.string s]) (x' := ⟨#[122, 122]⟩) (fun _ => rfl) hxl (by decide : 0 < 1) rfl (g := ga) (off := offa) (cap := cap3) (by rw [HL.out.1]))
              rw [← strs_flat] at HM'
              simp only [Nat.mul_one, Nat.add_zero] at HM'
              have HL' : Hid ((l.set n ⟨#[122, 122]⟩).length = c.ns.length ∧ ∀ j, n + 1 ≤ j → (l.set n (⟨#[122, 122]⟩ : ByteArray))[j]? = c.ns[j]?) := ⟨by rw [List.length_set]; exact HL.out.1, set_later HL.out.2⟩
              have hb' : Below w.heap.size w (w5.setCell ⟨ga, offa + n, none⟩ (.string ⟨#[122, 122]⟩)) := (hb.trans (hC.mono hb.size)).setCell (p := ⟨ga, offa + n, none⟩) (hm0 _ hoa) _
              clear HM5 hC hx hxl HM HL hb
              go_wp2_with fail
              go_roundw
              case rel => exact ⟨n + 1, _, by omega, by go_num, hb', HL', HM'⟩
              case measure => simp [intOf]; omega
          · have hnl : n = c.ns.length := by omega
            subst hnl
            clear HM HL
            go_wp2_with fail
            go_ret
            exact ⟨rfl, hb⟩
end Go.Proofs.YtpoegpojlcbfgaaDoor
