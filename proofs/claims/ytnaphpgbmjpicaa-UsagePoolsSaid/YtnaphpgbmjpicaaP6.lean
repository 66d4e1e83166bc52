/- The document's: what is free of a claim. -/
import Derived.Test.YtnaphpgbmjpicaaP5
namespace Go.Proofs.Ytnaphpgbmjpicaa
open Go.RowKit

attribute [local go_sem] run_store_one

theorem find_hit {α : Type} [Inhabited α] {p : α → Bool} {l : List α} {k : Nat} {c d : α} (h : k < l.length) (hf : (l.drop k).find? p = some c) (hd : l.getD k default = d) (hp : p d = true) : d = c := by
  rw [drop_at (d := default) h rfl, hd, List.find?_cons_of_pos hp] at hf
  exact Option.some.inj hf
theorem find_miss {α : Type} [Inhabited α] {p : α → Bool} {l : List α} {k : Nat} {c d : α} (h : k < l.length) (hf : (l.drop k).find? p = some c) (hd : l.getD k default = d) (hp : p d = false) : (l.drop (k + 1)).find? p = some c := by
  rw [drop_at (d := default) h rfl, hd, List.find?_cons_of_neg (by simp [hp])] at hf
  exact hf


set_option maxRecDepth 100000 in
set_option maxHeartbeats 4000000 in
theorem rfree_any (n : Sn) (s : ByteArray) (w : World) (hA : n.Ok w) :
    Calls Try.prog 37 #[n.val, .string s] w fun e w' => e = .returned (tri (freeOf n s)) ∧ Below w.heap.size w w' := by
  have hU := fun (w : World) (h : n.Ok w) => rused_any n s w h
  unfold freeOf
  obtain ⟨r0, r1, re, hR⟩ : ∃ r0 r1 re, usedOf n s = (r0, r1, re) := ⟨_, _, _, rfl⟩
  rw [hR] at hU ⊢
  have hz := fun h => sumIf_zero (a := r0) (b := r1) (e := re) hR h
  clear hR
  obtain ⟨s0, s1, s2, s3, s4, s5, s6, pa, ps, pcap, qa, qs, qcap, ca, cs, ccap, s10, s11, s12, s13, k0, k1, k2, k3, k4, k5, k6, k10, k11, k12, k13⟩ := n
  have HA := Lib.hid hA
  clear hA
  show Calls Try.prog 37 #[.agg #[s0, s1, s2, s3, s4, s5, s6, .slice pa ps.length pcap, .slice qa qs.length qcap, .slice ca cs.length ccap, s10, s11, s12, s13], .string s] w _
  have HU : Hid (∀ (w : World), Sn.Ok ⟨s0, s1, s2, s3, s4, s5, s6, pa, ps, pcap, qa, qs, qcap, ca, cs, ccap, s10, s11, s12, s13, k0, k1, k2, k3, k4, k5, k6, k10, k11, k12, k13⟩ w → Calls Try.prog 35 #[.agg #[s0, s1, s2, s3, s4, s5, s6, .slice pa ps.length pcap, .slice qa qs.length qcap, .slice ca cs.length ccap, s10, s11, s12, s13], .string s] w fun e w' => e = .returned (.tuple #[.agg #[.int .i64 r0, .int .i64 r1], .int .i64 re]) ∧ Below w.heap.size w w') := Lib.hid hU
  clear hU
  have hl1 : cs.length ≤ 9223372036854775807 := by have := HA.out.lc; dsimp only at this; omega
  rcases hre : (re != 0) with _ | _
  · obtain ⟨hany, hb0, hb1⟩ := hz hre
    obtain ⟨j, hj, hidx, hfind⟩ := idx_at (p := fun c : Cl => c.name.toList == s.toList) cs 0 hany
    have e0 : re = 0 := by simpa using hre
    subst e0
    dsimp only
    obtain ⟨c, hcc⟩ : ∃ c, cs.getD j default = c := ⟨_, rfl⟩
    rw [hcc] at hfind
    rw [hfind]
    have HF := Lib.hid hfind
    clear hidx hany hfind hz hcc hj
    go_enter Try.func37, Try.ntmps37
    go_wp2_with fail
    refine (HU.out _ (HA.out.below (Nat.le_refl _) new2)).mono ?_
    rintro e w1 ⟨rfl, hb⟩
    obtain ⟨d1, d2, d3, d5⟩ := old2 hb
    have hB1 : Below w.heap.size w w1 := new2.trans (hb.mono (by simp; omega))
    have hP : w1.cell? ⟨w.heap.size, 9, none⟩ = some (.slice ca cs.length ccap) := d1 9
    have c1 : w1.cell? ⟨w.heap.size + 1, 0, none⟩ = some (.int .i64 0) := d2 0
    have c2 : w1.cell? ⟨w.heap.size + 1, 1, none⟩ = some (.int .i64 0) := d2 1
    clear hb d1 d2
    have hz1 : w.heap.size < w1.heap.size := by omega
    go_wp2_with fail
    obtain ⟨W, hW⟩ : ∃ W : World, W = w1.alloc (.cells #[.int .i64 r0, .int .i64 r1] 26) := ⟨_, rfl⟩
    have q1 : Below w1.heap.size w1 W := by rw [hW]; exact new1
    have z0 : W.cell? ⟨w1.heap.size, 0, none⟩ = some (.int .i64 r0) := by rw [hW, World.cell?_alloc_new]; rfl
    have z1 : W.cell? ⟨w1.heap.size, 1, none⟩ = some (.int .i64 r1) := by rw [hW, World.cell?_alloc_new]; rfl
    have z2 : w1.heap.size < W.heap.size := by rw [hW]; simp
    obtain ⟨f1, f2, f3⟩ := carry2 q1 d5 c1 c2 d3
    have F3 := Lib.hid f3
    have hB2 : Below w.heap.size w W := hB1.trans (q1.mono hB1.size)
    rw [← hW]
    clear hW q1 c1 c2 d3 hP f3 hB1
    go_loopw [24] (fun i wr => ∃ k : Nat, k ≤ cs.length ∧ i = .int .i64 k ∧ Hid ((cs.drop k).find? (fun c : Cl => c.name.toList == s.toList) = some c) ∧ Below W.heap.size W wr)
      (fun i _ => cs.length - (intOf i).toNat)
    case atStart => exact ⟨0, Nat.zero_le _, rfl, HF, Below.refl _ _⟩
    case round =>
      obtain ⟨k, hk, rfl, HG, hb⟩ := hrel
      have hsz : W.heap.size ≤ wr.heap.size := hb.size
      by_cases hlt : k < cs.length
      · obtain ⟨b, off, rfl, hbl, hq, hc⟩ := ((HA.out.claims.below (Nat.le_refl _) hB2).below (Nat.le_refl _) hb).cl hlt
        rcases hp : cs.getD k default with ⟨name, pool, c2, c3, c4, c5, c6, x, y, c9, c10, c11, c12, c13, c14, h2, h3, h4, h5, h6, h9, h10, h11, h12, h13, h14⟩
        rw [hp] at hc
        have hc0 : wr.cell? ⟨b, off + k * 15, none⟩ = some (.string name) := hc 0 _ rfl
        have hc1 : wr.cell? ⟨b, off + k * 15 + 1, none⟩ = some (.string pool) := hc 1 _ rfl
        have hc2 : wr.cell? ⟨b, off + k * 15 + 2, none⟩ = some (c2) := hc 2 _ rfl
        have hc3 : wr.cell? ⟨b, off + k * 15 + 3, none⟩ = some (c3) := hc 3 _ rfl
        have hc4 : wr.cell? ⟨b, off + k * 15 + 4, none⟩ = some (c4) := hc 4 _ rfl
        have hc5 : wr.cell? ⟨b, off + k * 15 + 5, none⟩ = some (c5) := hc 5 _ rfl
        have hc6 : wr.cell? ⟨b, off + k * 15 + 6, none⟩ = some (c6) := hc 6 _ rfl
        have hc7 : wr.cell? ⟨b, off + k * 15 + 7, none⟩ = some (.int .i64 x) := hc 7 _ rfl
        have hc8 : wr.cell? ⟨b, off + k * 15 + 8, none⟩ = some (.int .i64 y) := hc 8 _ rfl
        have hc9 : wr.cell? ⟨b, off + k * 15 + 9, none⟩ = some (c9) := hc 9 _ rfl
        have hc10 : wr.cell? ⟨b, off + k * 15 + 10, none⟩ = some (c10) := hc 10 _ rfl
        have hc11 : wr.cell? ⟨b, off + k * 15 + 11, none⟩ = some (c11) := hc 11 _ rfl
        have hc12 : wr.cell? ⟨b, off + k * 15 + 12, none⟩ = some (c12) := hc 12 _ rfl
        have hc13 : wr.cell? ⟨b, off + k * 15 + 13, none⟩ = some (c13) := hc 13 _ rfl
        have hc14 : wr.cell? ⟨b, off + k * 15 + 14, none⟩ = some (c14) := hc 14 _ rfl
        clear hc hq
        rcases hne : (name.toList == s.toList) with _ | _
        · have HG2 := Lib.hid (find_miss hlt HG.out hp hne)
          clear hp HG
          go_wp2_with fail
          go_roundw
          case rel => exact ⟨k + 1, by omega, by go_num, HG2, hb.alloc hsz _⟩
          case measure => simp [intOf]; omega
        · have hcc := find_hit hlt HG.out hp hne
          have hcx : c.x = x := by rw [← hcc]
          have hcy : c.y = y := by rw [← hcc]
          clear hp HG hcc
          obtain ⟨ax0, ax1⟩ := carry1 hb z2 z0 z1
          obtain ⟨c3, c4, c5⟩ := carry2 hb (by omega) f1 f2 F3.out
          have hBr : Below w.heap.size w wr := hB2.trans (hb.mono hB2.size)
          have hzr : w.heap.size + 1 < wr.heap.size := by omega
          have hzr2 : w1.heap.size < wr.heap.size := by omega
          clear hb f1 f2 F3 hB2 z0 z1
          rcases hck : (chkAll x y != 0) with _ | _
          · obtain ⟨⟨x0, x1⟩, y0, y1⟩ := chkAll_zero_iff.1 (show chkAll x y = 0 by simpa using hck)
            have hck0 : chkAll x y = 0 := by simpa using hck
            have CK := Lib.hid hck0
            clear hck hck0
            rcases Int.lt_or_le r0 x with l0 | l0
            · rcases Int.lt_or_le r1 y with l1 | l1
              · have FE : Hid (freeFrom (r0, r1, 0) (some c) = (x - r0, y - r1, 0)) := Lib.hid (by rw [free_ok (c := c) (by rw [hcx, hcy]; simp [CK.out]), hcx, hcy, show max 0 (x - r0) = x - r0 by omega, show max 0 (y - r1) = y - r1 by omega])
                go_wp2_with fail
                refine (rcheckAll_any _ _ _).mono ?_
                rintro e w3 ⟨rfl, hb3⟩
                rw [CK.out]
                have q3 : Below wr.heap.size wr w3 := new1.trans (hb3.mono (by simp))
                have bx0 : w3.cell? ⟨wr.heap.size, 7, none⟩ = some (.int .i64 x) := (hb3.cell (p := ⟨wr.heap.size, 7, none⟩) (by simp)).trans (by rw [World.cell?_alloc_new]; rfl)
                have bx1 : w3.cell? ⟨wr.heap.size, 8, none⟩ = some (.int .i64 y) := (hb3.cell (p := ⟨wr.heap.size, 8, none⟩) (by simp)).trans (by rw [World.cell?_alloc_new]; rfl)
                obtain ⟨c6, c7, c8⟩ := carry2 q3 hzr c3 c4 c5
                obtain ⟨ay0, ay1⟩ := carry1 q3 hzr2 ax0 ax1
                have hB2 : Below w.heap.size w w3 := hBr.trans (q3.mono hBr.size)
                have hz4 : wr.heap.size < w3.heap.size := by have := hb3.size; simp at this; omega
                clear hb3 q3 c3 c4 c5 ax0 ax1 hBr
                go_wp2
                refine bodyPost_ret (v := tri (x - r0, y - r1, 0)) (by simp [tri, results, Try.results37, go_sem, c6, c7]) rfl ⟨by rw [FE.out], ?_⟩
                repeat (first | exact hB2 | (refine Below.setCell ?_ (by first | (simp; done) | (simp; omega)) _) | (refine Below.alloc ?_ (by first | (simp; done) | (simp; omega)) _) | (refine Below.drew ?_) | (refine below_drewN ?_ _))
              · have FE : Hid (freeFrom (r0, r1, 0) (some c) = (x - r0, 0, 0)) := Lib.hid (by rw [free_ok (c := c) (by rw [hcx, hcy]; simp [CK.out]), hcx, hcy, show max 0 (x - r0) = x - r0 by omega, show max 0 (y - r1) = 0 by omega])
                go_wp2_with fail
                refine (rcheckAll_any _ _ _).mono ?_
                rintro e w3 ⟨rfl, hb3⟩
                rw [CK.out]
                have q3 : Below wr.heap.size wr w3 := new1.trans (hb3.mono (by simp))
                have bx0 : w3.cell? ⟨wr.heap.size, 7, none⟩ = some (.int .i64 x) := (hb3.cell (p := ⟨wr.heap.size, 7, none⟩) (by simp)).trans (by rw [World.cell?_alloc_new]; rfl)
                have bx1 : w3.cell? ⟨wr.heap.size, 8, none⟩ = some (.int .i64 y) := (hb3.cell (p := ⟨wr.heap.size, 8, none⟩) (by simp)).trans (by rw [World.cell?_alloc_new]; rfl)
                obtain ⟨c6, c7, c8⟩ := carry2 q3 hzr c3 c4 c5
                obtain ⟨ay0, ay1⟩ := carry1 q3 hzr2 ax0 ax1
                have hB2 : Below w.heap.size w w3 := hBr.trans (q3.mono hBr.size)
                have hz4 : wr.heap.size < w3.heap.size := by have := hb3.size; simp at this; omega
                clear hb3 q3 c3 c4 c5 ax0 ax1 hBr
                go_wp2
                refine bodyPost_ret (v := tri (x - r0, 0, 0)) (by simp [tri, results, Try.results37, go_sem, c6, c7]) rfl ⟨by rw [FE.out], ?_⟩
                repeat (first | exact hB2 | (refine Below.setCell ?_ (by first | (simp; done) | (simp; omega)) _) | (refine Below.alloc ?_ (by first | (simp; done) | (simp; omega)) _) | (refine Below.drew ?_) | (refine below_drewN ?_ _))
            · rcases Int.lt_or_le r1 y with l1 | l1
              · have FE : Hid (freeFrom (r0, r1, 0) (some c) = (0, y - r1, 0)) := Lib.hid (by rw [free_ok (c := c) (by rw [hcx, hcy]; simp [CK.out]), hcx, hcy, show max 0 (x - r0) = 0 by omega, show max 0 (y - r1) = y - r1 by omega])
                go_wp2_with fail
                refine (rcheckAll_any _ _ _).mono ?_
                rintro e w3 ⟨rfl, hb3⟩
                rw [CK.out]
                have q3 : Below wr.heap.size wr w3 := new1.trans (hb3.mono (by simp))
                have bx0 : w3.cell? ⟨wr.heap.size, 7, none⟩ = some (.int .i64 x) := (hb3.cell (p := ⟨wr.heap.size, 7, none⟩) (by simp)).trans (by rw [World.cell?_alloc_new]; rfl)
                have bx1 : w3.cell? ⟨wr.heap.size, 8, none⟩ = some (.int .i64 y) := (hb3.cell (p := ⟨wr.heap.size, 8, none⟩) (by simp)).trans (by rw [World.cell?_alloc_new]; rfl)
                obtain ⟨c6, c7, c8⟩ := carry2 q3 hzr c3 c4 c5
                obtain ⟨ay0, ay1⟩ := carry1 q3 hzr2 ax0 ax1
                have hB2 : Below w.heap.size w w3 := hBr.trans (q3.mono hBr.size)
                have hz4 : wr.heap.size < w3.heap.size := by have := hb3.size; simp at this; omega
                clear hb3 q3 c3 c4 c5 ax0 ax1 hBr
                go_wp2
                refine bodyPost_ret (v := tri (0, y - r1, 0)) (by simp [tri, results, Try.results37, go_sem, c6, c7]) rfl ⟨by rw [FE.out], ?_⟩
                repeat (first | exact hB2 | (refine Below.setCell ?_ (by first | (simp; done) | (simp; omega)) _) | (refine Below.alloc ?_ (by first | (simp; done) | (simp; omega)) _) | (refine Below.drew ?_) | (refine below_drewN ?_ _))
              · have FE : Hid (freeFrom (r0, r1, 0) (some c) = (0, 0, 0)) := Lib.hid (by rw [free_ok (c := c) (by rw [hcx, hcy]; simp [CK.out]), hcx, hcy, show max 0 (x - r0) = 0 by omega, show max 0 (y - r1) = 0 by omega])
                go_wp2_with fail
                refine (rcheckAll_any _ _ _).mono ?_
                rintro e w3 ⟨rfl, hb3⟩
                rw [CK.out]
                have q3 : Below wr.heap.size wr w3 := new1.trans (hb3.mono (by simp))
                have bx0 : w3.cell? ⟨wr.heap.size, 7, none⟩ = some (.int .i64 x) := (hb3.cell (p := ⟨wr.heap.size, 7, none⟩) (by simp)).trans (by rw [World.cell?_alloc_new]; rfl)
                have bx1 : w3.cell? ⟨wr.heap.size, 8, none⟩ = some (.int .i64 y) := (hb3.cell (p := ⟨wr.heap.size, 8, none⟩) (by simp)).trans (by rw [World.cell?_alloc_new]; rfl)
                obtain ⟨c6, c7, c8⟩ := carry2 q3 hzr c3 c4 c5
                obtain ⟨ay0, ay1⟩ := carry1 q3 hzr2 ax0 ax1
                have hB2 : Below w.heap.size w w3 := hBr.trans (q3.mono hBr.size)
                have hz4 : wr.heap.size < w3.heap.size := by have := hb3.size; simp at this; omega
                clear hb3 q3 c3 c4 c5 ax0 ax1 hBr
                go_wp2
                refine bodyPost_ret (v := tri (0, 0, 0)) (by simp [tri, results, Try.results37, go_sem, c6, c7]) rfl ⟨by rw [FE.out], ?_⟩
                repeat (first | exact hB2 | (refine Below.setCell ?_ (by first | (simp; done) | (simp; omega)) _) | (refine Below.alloc ?_ (by first | (simp; done) | (simp; omega)) _) | (refine Below.drew ?_) | (refine below_drewN ?_ _))
          · obtain ⟨e, he⟩ : ∃ e, chkAll x y = e := ⟨_, rfl⟩
            have FE : Hid (freeFrom (r0, r1, 0) (some c) = (0, 0, e)) := Lib.hid (by rw [free_chk (c := c) (by rw [hcx, hcy]; exact hck), hcx, hcy, he])
            rw [he] at hck
            have CK := Lib.hid he
            clear he
            go_wp2_with fail
            refine (rcheckAll_any _ _ _).mono ?_
            rintro e w3 ⟨rfl, hb3⟩
            rw [CK.out]
            have q3 : Below wr.heap.size wr w3 := new1.trans (hb3.mono (by simp))
            have bx0 : w3.cell? ⟨wr.heap.size, 7, none⟩ = some (.int .i64 x) := (hb3.cell (p := ⟨wr.heap.size, 7, none⟩) (by simp)).trans (by rw [World.cell?_alloc_new]; rfl)
            have bx1 : w3.cell? ⟨wr.heap.size, 8, none⟩ = some (.int .i64 y) := (hb3.cell (p := ⟨wr.heap.size, 8, none⟩) (by simp)).trans (by rw [World.cell?_alloc_new]; rfl)
            obtain ⟨c6, c7, c8⟩ := carry2 q3 hzr c3 c4 c5
            obtain ⟨ay0, ay1⟩ := carry1 q3 hzr2 ax0 ax1
            have hB2 : Below w.heap.size w w3 := hBr.trans (q3.mono hBr.size)
            have hz4 : wr.heap.size < w3.heap.size := by have := hb3.size; simp at this; omega
            clear hb3 q3 c3 c4 c5 ax0 ax1 hBr
            go_wp2
            refine bodyPost_ret (v := tri (0, 0, e)) (by simp [tri, results, Try.results37, go_sem, c6, c7]) rfl ⟨by rw [FE.out], ?_⟩
            repeat (first | exact hB2 | (refine Below.setCell ?_ (by first | (simp; done) | (simp; omega)) _) | (refine Below.alloc ?_ (by first | (simp; done) | (simp; omega)) _) | (refine Below.drew ?_) | (refine below_drewN ?_ _))
      · have hkl : k = cs.length := by omega
        subst hkl
        have hf := HG.out
        rw [List.drop_length] at hf
        cases hf
  · rw [free_bad hre]
    go_enter Try.func37, Try.ntmps37
    go_wp2_with fail
    refine (HU.out _ (HA.out.below (Nat.le_refl _) new2)).mono ?_
    rintro e w1 ⟨rfl, hb⟩
    obtain ⟨d1, d2, d4, d5⟩ := old2 hb
    have hB2 : Below w.heap.size w w1 := new2.trans (hb.mono (by simp; omega))
    have c1 : w1.cell? ⟨w.heap.size + 1, 0, none⟩ = some (.int .i64 0) := d2 0
    have c2 : w1.cell? ⟨w.heap.size + 1, 1, none⟩ = some (.int .i64 0) := d2 1
    clear hb d1 d2
    have hz1 : w.heap.size < w1.heap.size := by omega
    go_wp2
    refine bodyPost_ret (v := tri (0, 0, re)) (by simp [tri, results, Try.results37, go_sem, c1, c2, d5]) rfl ⟨rfl, ?_⟩
    repeat (first | exact hB2 | (refine Below.setCell ?_ (by first | (simp; done) | (simp; omega)) _) | (refine Below.alloc ?_ (by first | (simp; done) | (simp; omega)) _) | (refine Below.drew ?_) | (refine below_drewN ?_ _))

end Go.Proofs.Ytnaphpgbmjpicaa
