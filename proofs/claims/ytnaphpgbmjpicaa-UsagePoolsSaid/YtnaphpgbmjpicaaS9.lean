/- What is used and what is free are together what there is: UsageSums answers true. No condition. -/
import Derived.Test.YtnaphpgbmjpicaaS8
namespace Go.Proofs.Ytnaphpgbmjpicaa
open Go.ChangeShapes Go.WideShapes Go.ChangeAt Go.RowKit
attribute [local go_sem] eqIn26 eqG26 run_store_one

theorem free_inv {a b u v : Int} {c : Cl} (h : freeFrom (a, b, 0) (some c) = (u, v, 0)) : chkAll c.x c.y = 0 ∧ u = max 0 (c.x - a) ∧ v = max 0 (c.y - b) := by
  rcases hk : (chkAll c.x c.y != 0) with _ | _
  · rw [free_ok hk] at h
    simp only [Prod.mk.injEq, and_true] at h
    exact ⟨by simpa using hk, h.1.symm, h.2.symm⟩
  · rw [free_chk hk] at h
    simp only [Prod.mk.injEq] at h
    rw [h.2.2] at hk
    cases hk
theorem sums_plain {a0 a1 x y f0 f1 : Int} (ha : (0 ≤ a0 ∧ a0 ≤ 1125899906842624) ∧ 0 ≤ a1 ∧ a1 ≤ 1125899906842624) (hc : chkAll x y = 0) (h0 : f0 = max 0 (x - a0)) (h1 : f1 = max 0 (y - a1)) :
    (fitsB a0 a1 x y = false ∧ ((f0 == 0) = true ∨ ((f0 == 0) = false ∧ (f1 == 0) = true))) ∨ (fitsB a0 a1 x y = true ∧ addE a0 a1 f0 f1 = 0 ∧ addV a0 a1 f0 f1 a0 f0 = x ∧ addV a0 a1 f0 f1 a1 f1 = y) := by
  obtain ⟨⟨c1, c2⟩, c3, c4⟩ := chkAll_zero_iff.1 hc
  by_cases hf : a0 ≤ x ∧ a1 ≤ y
  · right
    have hb : both a0 a1 x y = 0 := both_zero_iff.2 (by omega)
    have hb2 : both a0 a1 f0 f1 = 0 := both_zero_iff.2 (by omega)
    obtain ⟨e, v⟩ := add_fine (x := a0) (y := a1) (z := f0) (u := f1) (by simp [hb2]) (by omega)
    exact ⟨fits_yes (by simp [hb]) hf, e, by rw [v]; omega, by rw [v]; omega⟩
  · left
    refine ⟨fits_no hf, ?_⟩
    by_cases h : f0 = 0
    · exact Or.inl (by simp [h])
    · exact Or.inr ⟨by simp [h], by rw [beq_iff_eq]; omega⟩

set_option maxRecDepth 100000 in
set_option maxHeartbeats 8000000 in
theorem usageSums_walk (n : Sn) (s : ByteArray) (w : World) (hA : n.Ok w) :
    Calls Try.prog 12 #[n.val, .string s] w fun e w' => e = .returned (.bool true) ∧ Below w.heap.size w w' := by
  have U1 := fun (w : World) (h : n.Ok w) => used_any n s w h
  have F1 := fun (w : World) (h : n.Ok w) => free_any n s w h
  obtain ⟨a0, a1, ae, hR⟩ : ∃ r0 r1 re, usedOf n s = (r0, r1, re) := ⟨_, _, _, rfl⟩
  obtain ⟨f0, f1, fe, hF⟩ : ∃ r0 r1 re, freeOf n s = (r0, r1, re) := ⟨_, _, _, rfl⟩
  rw [hR] at U1
  rw [hF] at F1
  unfold freeOf at hF
  rw [hR] at hF
  have hz := fun h => sumIf_zero (a := a0) (b := a1) (e := ae) hR h
  clear hR
  obtain ⟨s0, s1, s2, s3, s4, s5, s6, pa, ps, pcap, qa, qs, qcap, ca, cs, ccap, s10, s11, s12, s13, k0, k1, k2, k3, k4, k5, k6, k10, k11, k12, k13⟩ := n
  have OK := Lib.hid hA
  clear hA
  show Calls Try.prog 12 #[.agg #[s0, s1, s2, s3, s4, s5, s6, .slice pa ps.length pcap, .slice qa qs.length qcap, .slice ca cs.length ccap, s10, s11, s12, s13], .string s] w _
  have HU1 : Hid (∀ (w : World), Sn.Ok ⟨s0, s1, s2, s3, s4, s5, s6, pa, ps, pcap, qa, qs, qcap, ca, cs, ccap, s10, s11, s12, s13, k0, k1, k2, k3, k4, k5, k6, k10, k11, k12, k13⟩ w → Calls Try.prog 34 #[.agg #[s0, s1, s2, s3, s4, s5, s6, .slice pa ps.length pcap, .slice qa qs.length qcap, .slice ca cs.length ccap, s10, s11, s12, s13], .string s] w fun e w' => e = .returned (.tuple #[.agg #[.int .i64 a0, .int .i64 a1], .int .i64 ae]) ∧ Below w.heap.size w w') := Lib.hid U1
  have HF1 : Hid (∀ (w : World), Sn.Ok ⟨s0, s1, s2, s3, s4, s5, s6, pa, ps, pcap, qa, qs, qcap, ca, cs, ccap, s10, s11, s12, s13, k0, k1, k2, k3, k4, k5, k6, k10, k11, k12, k13⟩ w → Calls Try.prog 36 #[.agg #[s0, s1, s2, s3, s4, s5, s6, .slice pa ps.length pcap, .slice qa qs.length qcap, .slice ca cs.length ccap, s10, s11, s12, s13], .string s] w fun e w' => e = .returned (.tuple #[.agg #[.int .i64 f0, .int .i64 f1], .int .i64 fe]) ∧ Below w.heap.size w w') := Lib.hid F1
  clear U1 F1
  have hl1 : cs.length ≤ 9223372036854775807 := by have := OK.out.lc; dsimp only at this; omega
  rcases hae : (ae != 0) with _ | _
  · obtain ⟨hany, ha0, ha1⟩ := hz hae
    obtain ⟨j, hj, hidx, hfind⟩ := idx_at (p := fun c : Cl => c.name.toList == s.toList) cs 0 hany
    have e0 : ae = 0 := by simpa using hae
    subst e0
    dsimp only at hF
    obtain ⟨c, hcc⟩ : ∃ c, cs.getD j default = c := ⟨_, rfl⟩
    rw [hcc] at hfind
    rw [hfind] at hF
    have HFI := Lib.hid hfind
    clear hidx hany hfind hz hcc hj
    rcases hfe : (fe != 0) with _ | _
    · have e1 : fe = 0 := by simpa using hfe
      subst e1
      have HP := Lib.hid (free_inv hF)
      clear hF
      go_enter Try.func12, Try.ntmps12
      go_wp2_with fail
      refine (live13_any _).mono ?_
      rintro er w1 ⟨rfl, hb1⟩
      have q1 : Below w.heap.size w w1 := new1.trans (hb1.mono (by simp))
      have HC1 : Hid (∀ j, w1.cell? ⟨w.heap.size, j, none⟩ = (#[s0, s1, s2, s3, s4, s5, s6, .slice pa ps.length pcap, .slice qa qs.length qcap, .slice ca cs.length ccap, s10, s11, s12, s13] : Array Value)[j]?) := Lib.hid fun j => (hb1.cell (p := ⟨w.heap.size, j, none⟩) (by simp)).trans (World.cell?_alloc_new _ _ _ _)
      have OK1 := Lib.hid (OK.out.below (Nat.le_refl _) q1)
      have hB1 := q1
      have y1 : w.heap.size < w1.heap.size := by have := hb1.size; simp at this; omega
      clear hb1 q1 OK
      obtain ⟨t0, t1, t2, t3, t4, t5, t6, t7, t8, t9, t10, t11, t12, t13⟩ := sn_cells HC1.out
      go_wp2_with fail
      refine (HU1.out _ OK1.out).mono ?_
      rintro er w2 ⟨rfl, hb2⟩
      have HC2 : Hid (∀ j, w2.cell? ⟨w.heap.size, j, none⟩ = (#[s0, s1, s2, s3, s4, s5, s6, .slice pa ps.length pcap, .slice qa qs.length qcap, .slice ca cs.length ccap, s10, s11, s12, s13] : Array Value)[j]?) := Lib.hid fun j => (hb2.cell (p := ⟨w.heap.size, j, none⟩) y1).trans (HC1.out j)
      have OK2 := Lib.hid (OK1.out.below (Nat.le_refl _) hb2)
      have z2 : w1.heap.size ≤ w2.heap.size := hb2.size
      have hB2 : Below w.heap.size w w2 := hB1.trans (hb2.mono hB1.size)
      have y2 : w.heap.size < w2.heap.size := by omega
      clear hb2 hB1 t0 t1 t2 t3 t4 t5 t6 t7 t8 t9 t10 t11 t12 t13 HC1 OK1
      obtain ⟨t0, t1, t2, t3, t4, t5, t6, t7, t8, t9, t10, t11, t12, t13⟩ := sn_cells HC2.out
      go_wp2_with fail
      refine (HF1.out _ (OK2.out.below (Nat.le_refl _) new1)).mono ?_
      rintro er w3 ⟨rfl, hb3⟩
      have q3 : Below w2.heap.size w2 w3 := new1.trans (hb3.mono (by simp))
      obtain ⟨u2, v2⟩ := box1 hb3
      have HC3 : Hid (∀ j, w3.cell? ⟨w.heap.size, j, none⟩ = (#[s0, s1, s2, s3, s4, s5, s6, .slice pa ps.length pcap, .slice qa qs.length qcap, .slice ca cs.length ccap, s10, s11, s12, s13] : Array Value)[j]?) := Lib.hid fun j => (q3.cell (p := ⟨w.heap.size, j, none⟩) y2).trans (HC2.out j)
      have OK3 := Lib.hid (OK2.out.below (Nat.le_refl _) q3)
      have z3 : w2.heap.size < w3.heap.size := by have := hb3.size; simp at this; omega
      have hB3 : Below w.heap.size w w3 := hB2.trans (q3.mono hB2.size)
      have y3 : w.heap.size < w3.heap.size := by omega
      clear hb3 q3 hB2 t0 t1 t2 t3 t4 t5 t6 t7 t8 t9 t10 t11 t12 t13 HC2 OK2
      obtain ⟨t0, t1, t2, t3, t4, t5, t6, t7, t8, t9, t10, t11, t12, t13⟩ := sn_cells HC3.out
      go_wp2_with fail
      obtain ⟨W, hW⟩ : ∃ W : World, W = w3.alloc (.cells #[.int .i64 f0, .int .i64 f1] 26) := ⟨_, rfl⟩
      have q1 : Below w3.heap.size w3 W := by rw [hW]; exact new1
      have g0 : W.cell? ⟨w3.heap.size, 0, none⟩ = some (.int .i64 f0) := by rw [hW, World.cell?_alloc_new]; rfl
      have g1 : W.cell? ⟨w3.heap.size, 1, none⟩ = some (.int .i64 f1) := by rw [hW, World.cell?_alloc_new]; rfl
      have gz : w3.heap.size < W.heap.size := by rw [hW]; simp
      obtain ⟨u3, v3⟩ := carry1 q1 z3 u2 v2
      have OK4 := Lib.hid (OK3.out.below (Nat.le_refl _) q1)
      have hB4 : Below w.heap.size w W := hB3.trans (q1.mono hB3.size)
      rw [← hW]
      clear hW q1 u2 v2 OK3 HC3 hB3 t0 t1 t2 t3 t4 t5 t6 t7 t8 t9 t10 t11 t12 t13
      go_loopw [37] (fun i wr => ∃ k : Nat, k ≤ cs.length ∧ i = .int .i64 k ∧ Hid ((cs.drop k).find? (fun c : Cl => c.name.toList == s.toList) = some c) ∧ Below W.heap.size W wr)
        (fun i _ => cs.length - (intOf i).toNat)
      case atStart => exact ⟨0, Nat.zero_le _, rfl, HFI, Below.refl _ _⟩
      case round =>
        obtain ⟨k, hk, rfl, HG, hb⟩ := hrel
        have hsz : W.heap.size ≤ wr.heap.size := hb.size
        by_cases hlt : k < cs.length
        · obtain ⟨b, off, rfl, hbl, hq, hc⟩ := (OK4.out.claims.below (Nat.le_refl _) hb).cl hlt
          rcases hp : cs.getD k default with ⟨name, pool, c2, c3, c4, c5, c6, x, y, c9, c10, c11, c12, c13, c14, h2, h3, h4, h5, h6, h9, h10, h11, h12, h13, h14⟩
          rw [hp] at hc
          have hc0 : wr.cell? ⟨b, off + k * 15, none⟩ = some (.string name) := hc 0 _ rfl
          have hc1 : wr.cell? ⟨b, off + k * 15 + 1, none⟩ = some (.string pool) := hc 1 _ rfl
          have hc2 : wr.cell? ⟨b, off + k * 15 + 2, none⟩ = some (c2) := hc 2 _ rfl
          have hc3 : wr.cell? ⟨b, off + k * 15 + 3, none⟩ = some (c3) := hc 3 _ rfl
          have hc4 : wr.cell? ⟨b, off + k * 15 + 4, none⟩ = some (c4) := hc 4 _ rfl
          have hc5 : wr.cell? ⟨b, off + k * 15 + 5, none⟩ = some (c5) := hc 5 _ rfl
          have hc6 : wr.cell? ⟨b, off + k * 15 + 6, none⟩ = some (c6) := hc 6 _ rfl
          have hc7 : wr.cell? ⟨b, off + k * 15 + 7, none⟩ = some (.int .i64 x) := hc 7 _ rfl
          have hc8 : wr.cell? ⟨b, off + k * 15 + 8, none⟩ = some (.int .i64 y) := hc 8 _ rfl
          have hc9 : wr.cell? ⟨b, off + k * 15 + 9, none⟩ = some (c9) := hc 9 _ rfl
          have hc10 : wr.cell? ⟨b, off + k * 15 + 10, none⟩ = some (c10) := hc 10 _ rfl
          have hc11 : wr.cell? ⟨b, off + k * 15 + 11, none⟩ = some (c11) := hc 11 _ rfl
          have hc12 : wr.cell? ⟨b, off + k * 15 + 12, none⟩ = some (c12) := hc 12 _ rfl
          have hc13 : wr.cell? ⟨b, off + k * 15 + 13, none⟩ = some (c13) := hc 13 _ rfl
          have hc14 : wr.cell? ⟨b, off + k * 15 + 14, none⟩ = some (c14) := hc 14 _ rfl
          clear hc hq
          rcases hne : (name.toList == s.toList) with _ | _
          · have HG2 := Lib.hid (find_miss hlt HG.out hp hne)
            clear hp HG
            go_wp2_with fail
            go_roundw
            case rel => exact ⟨k + 1, by omega, by go_num, HG2, hb.alloc hsz _⟩
            case measure => simp [intOf]; omega
          · have hcc := find_hit hlt HG.out hp hne
            have hpl := HP.out
            rw [← hcc] at hpl
            dsimp only at hpl
            have hplain := sums_plain ⟨ha0, ha1⟩ hpl.1 hpl.2.1 hpl.2.2
            clear hp HG hcc hpl
            obtain ⟨ax0, ax1⟩ := carry1 hb (by omega) u3 v3
            obtain ⟨ay0, ay1⟩ := carry1 hb gz g0 g1
            have hBr : Below w.heap.size w wr := hB4.trans (hb.mono hB4.size)
            have hzr : w2.heap.size < wr.heap.size := by omega
            have hzr2 : w3.heap.size < wr.heap.size := by omega
            clear hb u3 v3 g0 g1 hB4
            rcases hplain with ⟨hf, h0⟩ | ⟨hf, he, hx, hy⟩
            · have FB := Lib.hid hf
              clear hf
              go_wp2_with fail
              refine (fits_any _ _ _ _ _).mono ?_
              rintro er w4 ⟨rfl, hb4⟩
              rw [FB.out]
              have q4 : Below wr.heap.size wr w4 := new1.trans (hb4.mono (by simp))
              obtain ⟨bx0, bx1⟩ := carry1 q4 hzr ax0 ax1
              obtain ⟨by0, by1⟩ := carry1 q4 hzr2 ay0 ay1
              have hB5 : Below w.heap.size w w4 := hBr.trans (q4.mono hBr.size)
              clear hb4 q4 ax0 ax1 ay0 ay1 hBr
              rcases h0 with h0 | ⟨h0, h1⟩
              · go_wp2_with fail
                go_ret
                exact ⟨rfl, hB5⟩
              · go_wp2_with fail
                go_ret
                exact ⟨rfl, hB5⟩
            · have FB := Lib.hid hf
              clear hf
              go_wp2_with fail
              refine (fits_any _ _ _ _ _).mono ?_
              rintro er w4 ⟨rfl, hb4⟩
              rw [FB.out]
              have q4 : Below wr.heap.size wr w4 := new1.trans (hb4.mono (by simp))
              obtain ⟨bx0, bx1⟩ := carry1 q4 hzr ax0 ax1
              obtain ⟨by0, by1⟩ := carry1 q4 hzr2 ay0 ay1
              have cx0 : w4.cell? ⟨wr.heap.size, 7, none⟩ = some (.int .i64 x) := (hb4.cell (p := ⟨wr.heap.size, 7, none⟩) (by simp)).trans (by rw [World.cell?_alloc_new]; rfl)
              have cx1 : w4.cell? ⟨wr.heap.size, 8, none⟩ = some (.int .i64 y) := (hb4.cell (p := ⟨wr.heap.size, 8, none⟩) (by simp)).trans (by rw [World.cell?_alloc_new]; rfl)
              have z4 : wr.heap.size < w4.heap.size := by have := hb4.size; simp at this; omega
              have hB5 : Below w.heap.size w w4 := hBr.trans (q4.mono hBr.size)
              clear hb4 q4 ax0 ax1 ay0 ay1 hBr
              have z5 : w2.heap.size < w4.heap.size := by omega
              have z6 : w3.heap.size < w4.heap.size := by omega
              go_wp2_with fail
              refine (add_any _ _ _ _ _).mono ?_
              rintro er w5 ⟨rfl, hb5⟩
              rw [he, hx, hy]
              obtain ⟨dx0, dx1⟩ : w5.cell? ⟨wr.heap.size, 7, none⟩ = some (.int .i64 x) ∧ w5.cell? ⟨wr.heap.size, 8, none⟩ = some (.int .i64 y) := ⟨(hb5.cell (p := ⟨wr.heap.size, 7, none⟩) z4).trans cx0, (hb5.cell (p := ⟨wr.heap.size, 8, none⟩) z4).trans cx1⟩
              have hB6 : Below w.heap.size w w5 := hB5.trans (hb5.mono hB5.size)
              have z7 : wr.heap.size < w5.heap.size := by have := hb5.size; omega
              clear hb5 cx0 cx1 hB5 bx0 bx1 by0 by1
              go_wp2_with fail
              go_ret
              exact ⟨rfl, by first | exact hB6 | exact hB6.alloc (by have := hB6.size; omega) _⟩
        · have hkl : k = cs.length := by omega
          subst hkl
          have hf := HG.out
          rw [List.drop_length] at hf
          cases hf
    · clear hF
      go_enter Try.func12, Try.ntmps12
      go_wp2_with fail
      refine (live13_any _).mono ?_
      rintro er w1 ⟨rfl, hb1⟩
      have q1 : Below w.heap.size w w1 := new1.trans (hb1.mono (by simp))
      have HC1 : Hid (∀ j, w1.cell? ⟨w.heap.size, j, none⟩ = (#[s0, s1, s2, s3, s4, s5, s6, .slice pa ps.length pcap, .slice qa qs.length qcap, .slice ca cs.length ccap, s10, s11, s12, s13] : Array Value)[j]?) := Lib.hid fun j => (hb1.cell (p := ⟨w.heap.size, j, none⟩) (by simp)).trans (World.cell?_alloc_new _ _ _ _)
      have OK1 := Lib.hid (OK.out.below (Nat.le_refl _) q1)
      have hB1 := q1
      have y1 : w.heap.size < w1.heap.size := by have := hb1.size; simp at this; omega
      clear hb1 q1 OK
      obtain ⟨t0, t1, t2, t3, t4, t5, t6, t7, t8, t9, t10, t11, t12, t13⟩ := sn_cells HC1.out
      go_wp2_with fail
      refine (HU1.out _ OK1.out).mono ?_
      rintro er w2 ⟨rfl, hb2⟩
      have HC2 : Hid (∀ j, w2.cell? ⟨w.heap.size, j, none⟩ = (#[s0, s1, s2, s3, s4, s5, s6, .slice pa ps.length pcap, .slice qa qs.length qcap, .slice ca cs.length ccap, s10, s11, s12, s13] : Array Value)[j]?) := Lib.hid fun j => (hb2.cell (p := ⟨w.heap.size, j, none⟩) y1).trans (HC1.out j)
      have OK2 := Lib.hid (OK1.out.below (Nat.le_refl _) hb2)
      have z2 : w1.heap.size ≤ w2.heap.size := hb2.size
      have hB2 : Below w.heap.size w w2 := hB1.trans (hb2.mono hB1.size)
      have y2 : w.heap.size < w2.heap.size := by omega
      clear hb2 hB1 t0 t1 t2 t3 t4 t5 t6 t7 t8 t9 t10 t11 t12 t13 HC1 OK1
      obtain ⟨t0, t1, t2, t3, t4, t5, t6, t7, t8, t9, t10, t11, t12, t13⟩ := sn_cells HC2.out
      go_wp2_with fail
      refine (HF1.out _ (OK2.out.below (Nat.le_refl _) new1)).mono ?_
      rintro er w3 ⟨rfl, hb3⟩
      have q3 : Below w2.heap.size w2 w3 := new1.trans (hb3.mono (by simp))
      obtain ⟨u2, v2⟩ := box1 hb3
      have HC3 : Hid (∀ j, w3.cell? ⟨w.heap.size, j, none⟩ = (#[s0, s1, s2, s3, s4, s5, s6, .slice pa ps.length pcap, .slice qa qs.length qcap, .slice ca cs.length ccap, s10, s11, s12, s13] : Array Value)[j]?) := Lib.hid fun j => (q3.cell (p := ⟨w.heap.size, j, none⟩) y2).trans (HC2.out j)
      have OK3 := Lib.hid (OK2.out.below (Nat.le_refl _) q3)
      have z3 : w2.heap.size < w3.heap.size := by have := hb3.size; simp at this; omega
      have hB3 : Below w.heap.size w w3 := hB2.trans (q3.mono hB2.size)
      have y3 : w.heap.size < w3.heap.size := by omega
      clear hb3 q3 hB2 t0 t1 t2 t3 t4 t5 t6 t7 t8 t9 t10 t11 t12 t13 HC2 OK2
      clear HC3
      go_wp2_with fail
      go_ret
      exact ⟨rfl, by first | exact hB3 | exact hB3.alloc (by have := hB3.size; omega) _⟩
  · clear hF hz
    go_enter Try.func12, Try.ntmps12
    go_wp2_with fail
    refine (live13_any _).mono ?_
    rintro er w1 ⟨rfl, hb1⟩
    have q1 : Below w.heap.size w w1 := new1.trans (hb1.mono (by simp))
    have HC1 : Hid (∀ j, w1.cell? ⟨w.heap.size, j, none⟩ = (#[s0, s1, s2, s3, s4, s5, s6, .slice pa ps.length pcap, .slice qa qs.length qcap, .slice ca cs.length ccap, s10, s11, s12, s13] : Array Value)[j]?) := Lib.hid fun j => (hb1.cell (p := ⟨w.heap.size, j, none⟩) (by simp)).trans (World.cell?_alloc_new _ _ _ _)
    have OK1 := Lib.hid (OK.out.below (Nat.le_refl _) q1)
    have hB1 := q1
    have y1 : w.heap.size < w1.heap.size := by have := hb1.size; simp at this; omega
    clear hb1 q1 OK
    obtain ⟨t0, t1, t2, t3, t4, t5, t6, t7, t8, t9, t10, t11, t12, t13⟩ := sn_cells HC1.out
    go_wp2_with fail
    refine (HU1.out _ OK1.out).mono ?_
    rintro er w2 ⟨rfl, hb2⟩
    have HC2 : Hid (∀ j, w2.cell? ⟨w.heap.size, j, none⟩ = (#[s0, s1, s2, s3, s4, s5, s6, .slice pa ps.length pcap, .slice qa qs.length qcap, .slice ca cs.length ccap, s10, s11, s12, s13] : Array Value)[j]?) := Lib.hid fun j => (hb2.cell (p := ⟨w.heap.size, j, none⟩) y1).trans (HC1.out j)
    have OK2 := Lib.hid (OK1.out.below (Nat.le_refl _) hb2)
    have z2 : w1.heap.size ≤ w2.heap.size := hb2.size
    have hB2 : Below w.heap.size w w2 := hB1.trans (hb2.mono hB1.size)
    have y2 : w.heap.size < w2.heap.size := by omega
    clear hb2 hB1 t0 t1 t2 t3 t4 t5 t6 t7 t8 t9 t10 t11 t12 t13 HC1 OK1
    obtain ⟨t0, t1, t2, t3, t4, t5, t6, t7, t8, t9, t10, t11, t12, t13⟩ := sn_cells HC2.out
    go_wp2_with fail
    refine (HF1.out _ (OK2.out.below (Nat.le_refl _) new1)).mono ?_
    rintro er w3 ⟨rfl, hb3⟩
    have q3 : Below w2.heap.size w2 w3 := new1.trans (hb3.mono (by simp))
    obtain ⟨u2, v2⟩ := box1 hb3
    have HC3 : Hid (∀ j, w3.cell? ⟨w.heap.size, j, none⟩ = (#[s0, s1, s2, s3, s4, s5, s6, .slice pa ps.length pcap, .slice qa qs.length qcap, .slice ca cs.length ccap, s10, s11, s12, s13] : Array Value)[j]?) := Lib.hid fun j => (q3.cell (p := ⟨w.heap.size, j, none⟩) y2).trans (HC2.out j)
    have OK3 := Lib.hid (OK2.out.below (Nat.le_refl _) q3)
    have z3 : w2.heap.size < w3.heap.size := by have := hb3.size; simp at this; omega
    have hB3 : Below w.heap.size w w3 := hB2.trans (q3.mono hB2.size)
    have y3 : w.heap.size < w3.heap.size := by omega
    clear hb3 q3 hB2 t0 t1 t2 t3 t4 t5 t6 t7 t8 t9 t10 t11 t12 t13 HC2 OK2
    clear HC3
    go_wp2_with fail
    go_ret
    exact ⟨rfl, by first | exact hB3 | exact hB3.alloc (by have := hB3.size; omega) _⟩

set_option maxRecDepth 100000 in
theorem usageSums_lifted (os : Os) (started : os.Started) (H : Type) (enc : TypeId × Value → H) :
    ReturnsInHanded {} Try.checked os 12 .any (Rows.usageSumsSpec.pre6 enc Try.prog Try.f12 Rows.usageSumsRow.domain false) (Rows.usageSumsSpec.post enc Try.prog Try.f12 false true false false) := by
  refine returnsInHanded_of_change_sized (C := Try.checked) own started (by kernel_rfl) Try.func12
    (ChangeSpec.witness6 (enc := enc) (C := Try.checked) false ⟨#[], #[.agg #[.int .i64 0, .int .i64 0, .int .i64 0, .int .i64 0, .int .i64 0, .int .i64 0, .slice none 0 0, .slice none 0 0, .slice none 0 0, .slice none 0 0, .slice none 0 0, .slice none 0 0, .slice none 0 0, .slice none 0 0], .string .empty], []⟩ 8 (by kernel_rfl) (by kernel_rfl) (by kernel_rfl) (by kernel_rfl)) ?_
  intro W base args ds gs before hval0 hW hcnd hsz _
  have hval : ∀ (j : Nat) t v, Try.f12.params[j]? = some t → args[j]? = some v → Value.okWide Try.prog W .any base t v := hval0
  have hW' := hW
  obtain ⟨pp, qq, hA0, hV, rfl, hfz, hnd⟩ := hW
  have hA : DataW.TrodAll enc Try.prog W 0 (fun _ => true) true Try.f12.params.toList args.toList ds pp := hA0
  rw [Try.params12] at hA hval
  obtain ⟨v0, vs0, d0, ds0, p0, q0, hargs, rfl, rfl, k0, r0⟩ := trodAll_cons hA
  obtain ⟨v1, vs1, d1, ds1, p1, q1, rfl, rfl, rfl, k1, r1⟩ := trodAll_cons r0
  obtain ⟨rfl, rfl, rfl⟩ := trodAll_nil r1
  obtain rfl : args = #[v0, v1] := by cases args; simp_all
  obtain ⟨rfl, rfl⟩ := trodVars_none hV
  have lt0 : ∀ x ∈ p0, x.block < W.heap.size := by obtain ⟨m, hm⟩ := k0; exact DataW.trod_lt m _ _ _ hm
  have lt1 : ∀ x ∈ p1, x.block < W.heap.size := by obtain ⟨m, hm⟩ := k1; exact DataW.trod_lt m _ _ _ hm
  obtain ⟨n, rfl, hp1, hq1, hc1, hp2, hc2, hp3, hc3, parts, hd, hzp, hzq, hzc⟩ := open55 (hval 0 55 v0 rfl rfl) k0
  have hd' : _ = some (DataW.agg parts) := congrArg some hd
  obtain ⟨lp200, lp⟩ := len16 (j := 0) hsz rfl hd' (i := 3) (ft := 47) (by rw [Try.underlying55]; rfl) Try.underlying47 bytes76 (by decide) hzp
  obtain ⟨lq120, lq⟩ := len16 (j := 0) hsz rfl hd' (i := 4) (ft := 48) (by rw [Try.underlying55]; rfl) Try.underlying48 bytes71 (by decide) hzq
  obtain ⟨lc184, lc⟩ := len16 (j := 0) hsz rfl hd' (i := 5) (ft := 49) (by rw [Try.underlying55]; rfl) Try.underlying49 bytes62 (by decide) hzc
  have hok : n.Ok W := ⟨hp1, hq1, hc1, lp, lq, lc⟩
  obtain ⟨s, rfl⟩ := okWide_string Try.underlying9 (hval 1 9 v1 rfl rfl)
  clear hA0 hval0
  refine (usageSums_walk n s W hok).mono fun e W' ⟨he, bel⟩ => ?_
  subst he
  exact ⟨_, rfl, _, _, _, [], _, [], hW', trodAll_mk1 (shut_bool Try.underlying4 _), (trodAll_cons_mk (Below.trod laidOut (by kernel_rfl) (of_decide_eq_true (by kernel_rfl)) k0 bel lt0) (trodAll_cons_mk (Below.trod laidOut (by kernel_rfl) (of_decide_eq_true (by kernel_rfl)) k1 bel lt1) trodAll_mk0)), rfl, bel.frame _, fun h => by cases h⟩

theorem usageSums_over : Rows.usageSumsRow.holds Try.pinned (OpenSpec.ofChange Rows.usageSumsSpec) :=
  OpenClaim.holds_of_wide 12 Try.f12 rfl rfl rfl rfl rfl rfl rfl ⟨rfl, rfl, rfl, rfl, rfl⟩ rfl rfl rfl rfl rfl (by kernel_rfl) Try.func12 (by kernel_rfl)
    (of_decide_eq_true (by kernel_rfl)) (by unfold Func.isWrapper; first | (rw [if_pos (by decide +kernel)]; kernel_rfl) | (rw [if_neg (by decide +kernel)]; exact ⟨rfl, rfl⟩))
    (fun os started H enc _ => usageSums_lifted os started H enc)

theorem usageSums_holds : Rows.UsageSumsSaid := usageSums_over

end Go.Proofs.Ytnaphpgbmjpicaa
