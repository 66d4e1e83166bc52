/- What is free of a claim. -/
import Derived.Test.YtnaphpgbmjpicaaP4
namespace Go.Proofs.Ytnaphpgbmjpicaa
open Go.RowKit

attribute [local go_sem] run_store_one

/-- What is free, where R is used, and o are the amounts of the first claim of the name. -/
def freeFrom (R : Int × Int × Int) (o : Option Cl) : Int × Int × Int :=
  if R.2.2 ≠ 0 then (0, 0, R.2.2) else match o with
  | none => (0, 0, 5)
  | some c => if chkAll c.x c.y ≠ 0 then (0, 0, chkAll c.x c.y) else (max 0 (c.x - R.1), max 0 (c.y - R.2.1), 0)
def freeOf (n : Sn) (s : ByteArray) : Int × Int × Int := freeFrom (usedOf n s) (n.cs.find? fun c => c.name.toList == s.toList)
theorem free_bad {a b e : Int} {o : Option Cl} (h : (e != 0) = true) : freeFrom (a, b, e) o = (0, 0, e) := by
  have h : e ≠ 0 := by simpa using h
  simp [freeFrom, h]
theorem free_chk {a b : Int} {c : Cl} (h : (chkAll c.x c.y != 0) = true) : freeFrom (a, b, 0) (some c) = (0, 0, chkAll c.x c.y) := by
  have h : chkAll c.x c.y ≠ 0 := by simpa using h
  simp [freeFrom, h]
theorem free_ok {a b : Int} {c : Cl} (h : (chkAll c.x c.y != 0) = false) : freeFrom (a, b, 0) (some c) = (max 0 (c.x - a), max 0 (c.y - b), 0) := by
  have h : chkAll c.x c.y = 0 := by simpa using h
  simp [freeFrom, h]

theorem add_box {x y z u : Int} (h : (addE x y z u != 0) = false) : (0 ≤ addV x y z u x z ∧ addV x y z u x z ≤ 1125899906842624) ∧ 0 ≤ addV x y z u y u ∧ addV x y z u y u ≤ 1125899906842624 := by
  have h0 : addE x y z u = 0 := by simpa using h
  unfold addV
  rw [if_pos h0, if_pos h0]
  unfold addE at h0
  split at h0
  · rename_i hb
    split at h0
    · rename_i hs
      obtain ⟨⟨⟨a1, a2⟩, a3, a4⟩, ⟨a5, a6⟩, a7, a8⟩ := both_zero_iff.1 hb
      omega
    · cases h0
  · rename_i hb
    exact absurd h0 hb
/-- A sum lies within the limits. -/
theorem sum_box : ∀ (ps : List (Int × Int)) (s t : Int) (o : Bool), (0 ≤ s ∧ s ≤ 1125899906842624) ∧ (0 ≤ t ∧ t ≤ 1125899906842624) → (0 ≤ (sumGo s t o ps).1 ∧ (sumGo s t o ps).1 ≤ 1125899906842624) ∧ 0 ≤ (sumGo s t o ps).2.1 ∧ (sumGo s t o ps).2.1 ≤ 1125899906842624
  | [], s, t, false, h => by rw [(sum_end s t).1]; exact h
  | [], s, t, true, h => by rw [(sum_end s t).2]; simp
  | (x, y) :: r, s, t, o, h => by
    rcases h1 : (chkAll x y != 0) with _ | _
    · cases o with
      | true => rw [sum_over h1]; exact sum_box r s t true h
      | false =>
        rcases h2 : (addE s t x y != 0) with _ | _
        · rw [sum_step h1 h2]; exact sum_box r _ _ false (add_box h2)
        · rw [sum_turn h1 h2]; exact sum_box r s t true h
    · rw [sum_bad h1]; simp
theorem sumIf_zero {is : Bool} {l : List (Int × Int)} {a b e : Int} (h : sumIf is l = (a, b, e)) (he : (e != 0) = false) : is = true ∧ (0 ≤ a ∧ a ≤ 1125899906842624) ∧ 0 ≤ b ∧ b ≤ 1125899906842624 := by
  cases is with
  | false => cases h; cases he
  | true =>
    have hb := sum_box l 0 0 false (by decide)
    have h' : sumGo 0 0 false l = (a, b, e) := h
    rw [h'] at hb
    exact ⟨rfl, hb⟩
theorem idx_at {α : Type} [Inhabited α] {p : α → Bool} : ∀ (cs : List α) (k : Nat), cs.any p = true → ∃ j, j < cs.length ∧ idxGo p k cs = ((k + j : Nat) : Int) ∧ cs.find? p = some (cs.getD j default)
  | [], k, h => by simp at h
  | c :: r, k, h => by
    by_cases hc : p c = true
    · exact ⟨0, by simp, by simp [idxGo, hc], by simp [List.find?, hc]⟩
    · obtain ⟨j, hj, h1, h2⟩ := idx_at r (k + 1) (by simpa [hc] using h)
      refine ⟨j + 1, by simpa using hj, ?_, ?_⟩
      · simp only [idxGo, if_neg hc, h1]; congr 1; omega
      · have hc' : p c = false := by simpa using hc
        simp [List.find?, hc', h2]


set_option maxRecDepth 100000 in
set_option maxHeartbeats 4000000 in
theorem free_any (n : Sn) (s : ByteArray) (w : World) (hA : n.Ok w) :
    Calls Try.prog 36 #[n.val, .string s] w fun e w' => e = .returned (tri (freeOf n s)) ∧ Below w.heap.size w w' := by
  have hU := fun (w : World) (h : n.Ok w) => used_any n s w h
  unfold freeOf
  obtain ⟨r0, r1, re, hR⟩ : ∃ r0 r1 re, usedOf n s = (r0, r1, re) := ⟨_, _, _, rfl⟩
  rw [hR] at hU ⊢
  have hz := fun h => sumIf_zero (a := r0) (b := r1) (e := re) hR h
  clear hR
  obtain ⟨s0, s1, s2, s3, s4, s5, s6, pa, ps, pcap, qa, qs, qcap, ca, cs, ccap, s10, s11, s12, s13, k0, k1, k2, k3, k4, k5, k6, k10, k11, k12, k13⟩ := n
  have HA := Lib.hid hA
  clear hA
  show Calls Try.prog 36 #[.agg #[s0, s1, s2, s3, s4, s5, s6, .slice pa ps.length pcap, .slice qa qs.length qcap, .slice ca cs.length ccap, s10, s11, s12, s13], .string s] w _
  have HU : Hid (∀ (w : World), Sn.Ok ⟨s0, s1, s2, s3, s4, s5, s6, pa, ps, pcap, qa, qs, qcap, ca, cs, ccap, s10, s11, s12, s13, k0, k1, k2, k3, k4, k5, k6, k10, k11, k12, k13⟩ w → Calls Try.prog 34 #[.agg #[s0, s1, s2, s3, s4, s5, s6, .slice pa ps.length pcap, .slice qa qs.length qcap, .slice ca cs.length ccap, s10, s11, s12, s13], .string s] w fun e w' => e = .returned (.tuple #[.agg #[.int .i64 r0, .int .i64 r1], .int .i64 re]) ∧ Below w.heap.size w w') := Lib.hid hU
  clear hU
  have hl1 : cs.length ≤ 9223372036854775807 := by have := HA.out.lc; dsimp only at this; omega
  rcases hre : (re != 0) with _ | _
  · obtain ⟨hany, hb0, hb1⟩ := hz hre
    obtain ⟨j, hj, hidx, hfind⟩ := idx_at (p := fun c : Cl => c.name.toList == s.toList) cs 0 hany
    have e0 : re = 0 := by simpa using hre
    subst e0
    dsimp only
    rw [hfind]
    rw [Nat.zero_add] at hidx
    have hcon := fun (w : World) (hA : Rw w ca 15 (cs.map Cl.cells)) (B : Nat) (hB : B < w.heap.size) (hc : w.cell? ⟨B, 0, none⟩ = some (.string s)) => index45_46 cs ca ccap B s w hA hl1 hB hc
    rw [hidx] at hcon
    have HC := Lib.hid hcon
    obtain ⟨c, hcc⟩ : ∃ c, cs.getD j default = c := ⟨_, rfl⟩
    rw [hcc]
    have hcell := fun (w : World) (hA : Rw w ca 15 (cs.map Cl.cells)) => hA.cl hj
    rw [hcc] at hcell
    have HX := Lib.hid hcell
    have hgoal : ∀ R, R = freeFrom (r0, r1, 0) (some c) → (Calls Try.prog 36 #[.agg #[s0, s1, s2, s3, s4, s5, s6, .slice pa ps.length pcap, .slice qa qs.length qcap, .slice ca cs.length ccap, s10, s11, s12, s13], .string s] w fun e w' => e = .returned (tri R) ∧ Below w.heap.size w w') → Calls Try.prog 36 #[.agg #[s0, s1, s2, s3, s4, s5, s6, .slice pa ps.length pcap, .slice qa qs.length qcap, .slice ca cs.length ccap, s10, s11, s12, s13], .string s] w fun e w' => e = .returned (tri (freeFrom (r0, r1, 0) (some c))) ∧ Below w.heap.size w w' := by
      rintro R rfl h; exact h
    clear hcon hidx hany hfind hz hcell
    obtain ⟨x, hx⟩ : ∃ x, c.x = x := ⟨_, rfl⟩
    obtain ⟨y, hy⟩ : ∃ y, c.y = y := ⟨_, rfl⟩
    have HX2 : Hid (∀ (w : World), Rw w ca 15 (cs.map Cl.cells) → ∃ b off, ca = some ⟨b, off, none⟩ ∧ b < w.heap.size ∧ w.cell? ⟨b, off + j * 15 + 7, none⟩ = some (.int .i64 x) ∧ w.cell? ⟨b, off + j * 15 + 8, none⟩ = some (.int .i64 y)) := by
      intro w h
      obtain ⟨b, off, e, l, _, hc⟩ := HX.out w h
      exact ⟨b, off, e, l, by rw [← hx]; exact hc 7 _ rfl, by rw [← hy]; exact hc 8 _ rfl⟩
    rcases hck : (chkAll c.x c.y != 0) with _ | _
    · have hg := fun u v (hu : max 0 (c.x - r0) = u) (hv : max 0 (c.y - r1) = v) => hgoal (u, v, 0) (by rw [free_ok hck, hu, hv])
      clear hgoal HX hcc
      obtain ⟨⟨x0, x1⟩, y0, y1⟩ := chkAll_zero_iff.1 (show chkAll c.x c.y = 0 by simpa using hck)
      have hck0 : chkAll c.x c.y = 0 := by simpa using hck
      rw [hx] at x0 x1 hck0 hg
      rw [hy] at y0 y1 hck0 hg
      have CK := Lib.hid hck0
      clear hx hy hck hck0
      rcases Int.lt_or_le r0 x with l0 | l0
      · rcases Int.lt_or_le r1 y with l1 | l1
        · refine hg (x - r0) (y - r1) (by omega) (by omega) ?_
          clear hg
          go_enter Try.func36, Try.ntmps36
          go_wp2_with fail
          refine (HU.out _ (HA.out.below (Nat.le_refl _) new3)).mono ?_
          rintro e w1 ⟨rfl, hb⟩
          obtain ⟨d1, d2, d3, d4, d5⟩ := old3 hb
          have hB1 : Below w.heap.size w w1 := bel3 hb
          have hP : w1.cell? ⟨w.heap.size, 9, none⟩ = some (.slice ca cs.length ccap) := d1 9
          have hS : w1.cell? ⟨w.heap.size + 1, 0, none⟩ = some (.string s) := d2 0
          have c1 : w1.cell? ⟨w.heap.size + 1 + 1, 0, none⟩ = some (.int .i64 0) := d3 0
          have c2 : w1.cell? ⟨w.heap.size + 1 + 1, 1, none⟩ = some (.int .i64 0) := d3 1
          clear hb d1 d2 d3
          have hz1 : w.heap.size < w1.heap.size := by omega
          have hz2 : w.heap.size + 1 < w1.heap.size := by omega
          go_wp2_with fail
          refine (HC.out _ ((HA.out.claims.below (Nat.le_refl _) hB1).below (Nat.le_refl _) new1) (w.heap.size + 1) (by simp; omega) ((World.cell?_alloc_lt _ _ _ hz2).trans hS)).mono ?_
          rintro e w2 ⟨rfl, hb2⟩
          obtain ⟨ax0, ax1⟩ := box1 hb2
          have q2 : Below w1.heap.size w1 w2 := new1.trans (hb2.mono (by simp))
          have hP2 := (q2.cell (p := ⟨w.heap.size, 9, none⟩) hz1).trans hP
          obtain ⟨c3, c4, c5⟩ := carry2 q2 d5 c1 c2 d4
          have hB2' : Below w.heap.size w w2 := hB1.trans (q2.mono hB1.size)
          have hz3 : w1.heap.size < w2.heap.size := by have := hb2.size; simp at this; omega
          obtain ⟨b, off, rfl, hbl, hx7, hx8⟩ := HX2.out w2 (HA.out.claims.below (Nat.le_refl _) hB2')
          have hjl : (j : Int) < (cs.length : Int) := by omega
          clear hb2 q2 c1 c2 d4 hP hS hB1
          go_wp2_with fail
          refine (checkAll_any _ _ _).mono ?_
          rintro e w3 ⟨rfl, hb3⟩
          rw [CK.out]
          obtain ⟨bx0, bx1, bx2⟩ : w3.cell? ⟨w2.heap.size, 0, none⟩ = some (.int .i64 x) ∧ w3.cell? ⟨w2.heap.size, 1, none⟩ = some (.int .i64 y) ∧ ∀ i, w3.frozen? ⟨w2.heap.size, i, none⟩ = false := by
            obtain ⟨h1, h2⟩ := box1 hb3
            exact ⟨h1, h2, fun i => (hb3.frozen (p := ⟨w2.heap.size, i, none⟩) (by simp)).trans (World.frozen?_alloc_new _ _ _ _)⟩
          have q3 : Below w2.heap.size w2 w3 := new1.trans (hb3.mono (by simp))
          obtain ⟨c6, c7, c8⟩ := carry2 q3 (by omega) c3 c4 c5
          obtain ⟨ay0, ay1⟩ := carry1 q3 hz3 ax0 ax1
          have hB3 : Below w.heap.size w w3 := hB2'.trans (q3.mono hB2'.size)
          have hz4 : w2.heap.size < w3.heap.size := by have := hb3.size; simp at this; omega
          clear hb3 q3 c3 c4 c5 ax0 ax1 hB2' hP2 hx7 hx8
          go_wp2_with fail
          refine wp_loop_rounds 3 ?_
          rw [rounds_succ]
          go_wp2
          go_region
          go_wp2
          rw [rounds_succ]
          go_wp2
          go_region
          go_wp2
          rw [rounds_succ]
          go_wp2
          have hB2 := hB3
          refine bodyPost_ret (v := tri (x - r0, y - r1, 0)) (by simp [tri, results, Try.results36, go_sem, c6, c7]) rfl ⟨rfl, ?_⟩
          repeat (first | exact hB2 | (refine Below.setCell ?_ (by first | (simp; done) | (simp; omega)) _) | (refine Below.alloc ?_ (by first | (simp; done) | (simp; omega)) _) | (refine Below.drew ?_) | (refine below_drewN ?_ _))
        · refine hg (x - r0) (0) (by omega) (by omega) ?_
          clear hg
          go_enter Try.func36, Try.ntmps36
          go_wp2_with fail
          refine (HU.out _ (HA.out.below (Nat.le_refl _) new3)).mono ?_
          rintro e w1 ⟨rfl, hb⟩
          obtain ⟨d1, d2, d3, d4, d5⟩ := old3 hb
          have hB1 : Below w.heap.size w w1 := bel3 hb
          have hP : w1.cell? ⟨w.heap.size, 9, none⟩ = some (.slice ca cs.length ccap) := d1 9
          have hS : w1.cell? ⟨w.heap.size + 1, 0, none⟩ = some (.string s) := d2 0
          have c1 : w1.cell? ⟨w.heap.size + 1 + 1, 0, none⟩ = some (.int .i64 0) := d3 0
          have c2 : w1.cell? ⟨w.heap.size + 1 + 1, 1, none⟩ = some (.int .i64 0) := d3 1
          clear hb d1 d2 d3
          have hz1 : w.heap.size < w1.heap.size := by omega
          have hz2 : w.heap.size + 1 < w1.heap.size := by omega
          go_wp2_with fail
          refine (HC.out _ ((HA.out.claims.below (Nat.le_refl _) hB1).below (Nat.le_refl _) new1) (w.heap.size + 1) (by simp; omega) ((World.cell?_alloc_lt _ _ _ hz2).trans hS)).mono ?_
          rintro e w2 ⟨rfl, hb2⟩
          obtain ⟨ax0, ax1⟩ := box1 hb2
          have q2 : Below w1.heap.size w1 w2 := new1.trans (hb2.mono (by simp))
          have hP2 := (q2.cell (p := ⟨w.heap.size, 9, none⟩) hz1).trans hP
          obtain ⟨c3, c4, c5⟩ := carry2 q2 d5 c1 c2 d4
          have hB2' : Below w.heap.size w w2 := hB1.trans (q2.mono hB1.size)
          have hz3 : w1.heap.size < w2.heap.size := by have := hb2.size; simp at this; omega
          obtain ⟨b, off, rfl, hbl, hx7, hx8⟩ := HX2.out w2 (HA.out.claims.below (Nat.le_refl _) hB2')
          have hjl : (j : Int) < (cs.length : Int) := by omega
          clear hb2 q2 c1 c2 d4 hP hS hB1
          go_wp2_with fail
          refine (checkAll_any _ _ _).mono ?_
          rintro e w3 ⟨rfl, hb3⟩
          rw [CK.out]
          obtain ⟨bx0, bx1, bx2⟩ : w3.cell? ⟨w2.heap.size, 0, none⟩ = some (.int .i64 x) ∧ w3.cell? ⟨w2.heap.size, 1, none⟩ = some (.int .i64 y) ∧ ∀ i, w3.frozen? ⟨w2.heap.size, i, none⟩ = false := by
            obtain ⟨h1, h2⟩ := box1 hb3
            exact ⟨h1, h2, fun i => (hb3.frozen (p := ⟨w2.heap.size, i, none⟩) (by simp)).trans (World.frozen?_alloc_new _ _ _ _)⟩
          have q3 : Below w2.heap.size w2 w3 := new1.trans (hb3.mono (by simp))
          obtain ⟨c6, c7, c8⟩ := carry2 q3 (by omega) c3 c4 c5
          obtain ⟨ay0, ay1⟩ := carry1 q3 hz3 ax0 ax1
          have hB3 : Below w.heap.size w w3 := hB2'.trans (q3.mono hB2'.size)
          have hz4 : w2.heap.size < w3.heap.size := by have := hb3.size; simp at this; omega
          clear hb3 q3 c3 c4 c5 ax0 ax1 hB2' hP2 hx7 hx8
          go_wp2_with fail
          refine wp_loop_rounds 3 ?_
          rw [rounds_succ]
          go_wp2
          go_region
          go_wp2
          rw [rounds_succ]
          go_wp2
          go_region
          go_wp2
          rw [rounds_succ]
          go_wp2
          have hB2 := hB3
          refine bodyPost_ret (v := tri (x - r0, 0, 0)) (by simp [tri, results, Try.results36, go_sem, c6, c7]) rfl ⟨rfl, ?_⟩
          repeat (first | exact hB2 | (refine Below.setCell ?_ (by first | (simp; done) | (simp; omega)) _) | (refine Below.alloc ?_ (by first | (simp; done) | (simp; omega)) _) | (refine Below.drew ?_) | (refine below_drewN ?_ _))
      · rcases Int.lt_or_le r1 y with l1 | l1
        · refine hg (0) (y - r1) (by omega) (by omega) ?_
          clear hg
          go_enter Try.func36, Try.ntmps36
          go_wp2_with fail
          refine (HU.out _ (HA.out.below (Nat.le_refl _) new3)).mono ?_
          rintro e w1 ⟨rfl, hb⟩
          obtain ⟨d1, d2, d3, d4, d5⟩ := old3 hb
          have hB1 : Below w.heap.size w w1 := bel3 hb
          have hP : w1.cell? ⟨w.heap.size, 9, none⟩ = some (.slice ca cs.length ccap) := d1 9
          have hS : w1.cell? ⟨w.heap.size + 1, 0, none⟩ = some (.string s) := d2 0
          have c1 : w1.cell? ⟨w.heap.size + 1 + 1, 0, none⟩ = some (.int .i64 0) := d3 0
          have c2 : w1.cell? ⟨w.heap.size + 1 + 1, 1, none⟩ = some (.int .i64 0) := d3 1
          clear hb d1 d2 d3
          have hz1 : w.heap.size < w1.heap.size := by omega
          have hz2 : w.heap.size + 1 < w1.heap.size := by omega
          go_wp2_with fail
          refine (HC.out _ ((HA.out.claims.below (Nat.le_refl _) hB1).below (Nat.le_refl _) new1) (w.heap.size + 1) (by simp; omega) ((World.cell?_alloc_lt _ _ _ hz2).trans hS)).mono ?_
          rintro e w2 ⟨rfl, hb2⟩
          obtain ⟨ax0, ax1⟩ := box1 hb2
          have q2 : Below w1.heap.size w1 w2 := new1.trans (hb2.mono (by simp))
          have hP2 := (q2.cell (p := ⟨w.heap.size, 9, none⟩) hz1).trans hP
          obtain ⟨c3, c4, c5⟩ := carry2 q2 d5 c1 c2 d4
          have hB2' : Below w.heap.size w w2 := hB1.trans (q2.mono hB1.size)
          have hz3 : w1.heap.size < w2.heap.size := by have := hb2.size; simp at this; omega
          obtain ⟨b, off, rfl, hbl, hx7, hx8⟩ := HX2.out w2 (HA.out.claims.below (Nat.le_refl _) hB2')
          have hjl : (j : Int) < (cs.length : Int) := by omega
          clear hb2 q2 c1 c2 d4 hP hS hB1
          go_wp2_with fail
          refine (checkAll_any _ _ _).mono ?_
          rintro e w3 ⟨rfl, hb3⟩
          rw [CK.out]
          obtain ⟨bx0, bx1, bx2⟩ : w3.cell? ⟨w2.heap.size, 0, none⟩ = some (.int .i64 x) ∧ w3.cell? ⟨w2.heap.size, 1, none⟩ = some (.int .i64 y) ∧ ∀ i, w3.frozen? ⟨w2.heap.size, i, none⟩ = false := by
            obtain ⟨h1, h2⟩ := box1 hb3
            exact ⟨h1, h2, fun i => (hb3.frozen (p := ⟨w2.heap.size, i, none⟩) (by simp)).trans (World.frozen?_alloc_new _ _ _ _)⟩
          have q3 : Below w2.heap.size w2 w3 := new1.trans (hb3.mono (by simp))
          obtain ⟨c6, c7, c8⟩ := carry2 q3 (by omega) c3 c4 c5
          obtain ⟨ay0, ay1⟩ := carry1 q3 hz3 ax0 ax1
          have hB3 : Below w.heap.size w w3 := hB2'.trans (q3.mono hB2'.size)
          have hz4 : w2.heap.size < w3.heap.size := by have := hb3.size; simp at this; omega
          clear hb3 q3 c3 c4 c5 ax0 ax1 hB2' hP2 hx7 hx8
          go_wp2_with fail
          refine wp_loop_rounds 3 ?_
          rw [rounds_succ]
          go_wp2
          go_region
          go_wp2
          rw [rounds_succ]
          go_wp2
          go_region
          go_wp2
          rw [rounds_succ]
          go_wp2
          have hB2 := hB3
          refine bodyPost_ret (v := tri (0, y - r1, 0)) (by simp [tri, results, Try.results36, go_sem, c6, c7]) rfl ⟨rfl, ?_⟩
          repeat (first | exact hB2 | (refine Below.setCell ?_ (by first | (simp; done) | (simp; omega)) _) | (refine Below.alloc ?_ (by first | (simp; done) | (simp; omega)) _) | (refine Below.drew ?_) | (refine below_drewN ?_ _))
        · refine hg (0) (0) (by omega) (by omega) ?_
          clear hg
          go_enter Try.func36, Try.ntmps36
          go_wp2_with fail
          refine (HU.out _ (HA.out.below (Nat.le_refl _) new3)).mono ?_
          rintro e w1 ⟨rfl, hb⟩
          obtain ⟨d1, d2, d3, d4, d5⟩ := old3 hb
          have hB1 : Below w.heap.size w w1 := bel3 hb
          have hP : w1.cell? ⟨w.heap.size, 9, none⟩ = some (.slice ca cs.length ccap) := d1 9
          have hS : w1.cell? ⟨w.heap.size + 1, 0, none⟩ = some (.string s) := d2 0
          have c1 : w1.cell? ⟨w.heap.size + 1 + 1, 0, none⟩ = some (.int .i64 0) := d3 0
          have c2 : w1.cell? ⟨w.heap.size + 1 + 1, 1, none⟩ = some (.int .i64 0) := d3 1
          clear hb d1 d2 d3
          have hz1 : w.heap.size < w1.heap.size := by omega
          have hz2 : w.heap.size + 1 < w1.heap.size := by omega
          go_wp2_with fail
          refine (HC.out _ ((HA.out.claims.below (Nat.le_refl _) hB1).below (Nat.le_refl _) new1) (w.heap.size + 1) (by simp; omega) ((World.cell?_alloc_lt _ _ _ hz2).trans hS)).mono ?_
          rintro e w2 ⟨rfl, hb2⟩
          obtain ⟨ax0, ax1⟩ := box1 hb2
          have q2 : Below w1.heap.size w1 w2 := new1.trans (hb2.mono (by simp))
          have hP2 := (q2.cell (p := ⟨w.heap.size, 9, none⟩) hz1).trans hP
          obtain ⟨c3, c4, c5⟩ := carry2 q2 d5 c1 c2 d4
          have hB2' : Below w.heap.size w w2 := hB1.trans (q2.mono hB1.size)
          have hz3 : w1.heap.size < w2.heap.size := by have := hb2.size; simp at this; omega
          obtain ⟨b, off, rfl, hbl, hx7, hx8⟩ := HX2.out w2 (HA.out.claims.below (Nat.le_refl _) hB2')
          have hjl : (j : Int) < (cs.length : Int) := by omega
          clear hb2 q2 c1 c2 d4 hP hS hB1
          go_wp2_with fail
          refine (checkAll_any _ _ _).mono ?_
          rintro e w3 ⟨rfl, hb3⟩
          rw [CK.out]
          obtain ⟨bx0, bx1, bx2⟩ : w3.cell? ⟨w2.heap.size, 0, none⟩ = some (.int .i64 x) ∧ w3.cell? ⟨w2.heap.size, 1, none⟩ = some (.int .i64 y) ∧ ∀ i, w3.frozen? ⟨w2.heap.size, i, none⟩ = false := by
            obtain ⟨h1, h2⟩ := box1 hb3
            exact ⟨h1, h2, fun i => (hb3.frozen (p := ⟨w2.heap.size, i, none⟩) (by simp)).trans (World.frozen?_alloc_new _ _ _ _)⟩
          have q3 : Below w2.heap.size w2 w3 := new1.trans (hb3.mono (by simp))
          obtain ⟨c6, c7, c8⟩ := carry2 q3 (by omega) c3 c4 c5
          obtain ⟨ay0, ay1⟩ := carry1 q3 hz3 ax0 ax1
          have hB3 : Below w.heap.size w w3 := hB2'.trans (q3.mono hB2'.size)
          have hz4 : w2.heap.size < w3.heap.size := by have := hb3.size; simp at this; omega
          clear hb3 q3 c3 c4 c5 ax0 ax1 hB2' hP2 hx7 hx8
          go_wp2_with fail
          refine wp_loop_rounds 3 ?_
          rw [rounds_succ]
          go_wp2
          go_region
          go_wp2
          rw [rounds_succ]
          go_wp2
          go_region
          go_wp2
          rw [rounds_succ]
          go_wp2
          have hB2 := hB3
          refine bodyPost_ret (v := tri (0, 0, 0)) (by simp [tri, results, Try.results36, go_sem, c6, c7]) rfl ⟨rfl, ?_⟩
          repeat (first | exact hB2 | (refine Below.setCell ?_ (by first | (simp; done) | (simp; omega)) _) | (refine Below.alloc ?_ (by first | (simp; done) | (simp; omega)) _) | (refine Below.drew ?_) | (refine below_drewN ?_ _))
    · refine hgoal _ (free_chk hck).symm ?_
      clear hgoal HX hcc
      obtain ⟨e, he⟩ : ∃ e, chkAll c.x c.y = e := ⟨_, rfl⟩
      rw [he] at hck ⊢
      rw [hx, hy] at he
      have CK := Lib.hid he
      clear hx hy he
      go_enter Try.func36, Try.ntmps36
      go_wp2_with fail
      refine (HU.out _ (HA.out.below (Nat.le_refl _) new3)).mono ?_
      rintro e w1 ⟨rfl, hb⟩
      obtain ⟨d1, d2, d3, d4, d5⟩ := old3 hb
      have hB1 : Below w.heap.size w w1 := bel3 hb
      have hP : w1.cell? ⟨w.heap.size, 9, none⟩ = some (.slice ca cs.length ccap) := d1 9
      have hS : w1.cell? ⟨w.heap.size + 1, 0, none⟩ = some (.string s) := d2 0
      have c1 : w1.cell? ⟨w.heap.size + 1 + 1, 0, none⟩ = some (.int .i64 0) := d3 0
      have c2 : w1.cell? ⟨w.heap.size + 1 + 1, 1, none⟩ = some (.int .i64 0) := d3 1
      clear hb d1 d2 d3
      have hz1 : w.heap.size < w1.heap.size := by omega
      have hz2 : w.heap.size + 1 < w1.heap.size := by omega
      go_wp2_with fail
      refine (HC.out _ ((HA.out.claims.below (Nat.le_refl _) hB1).below (Nat.le_refl _) new1) (w.heap.size + 1) (by simp; omega) ((World.cell?_alloc_lt _ _ _ hz2).trans hS)).mono ?_
      rintro e w2 ⟨rfl, hb2⟩
      obtain ⟨ax0, ax1⟩ := box1 hb2
      have q2 : Below w1.heap.size w1 w2 := new1.trans (hb2.mono (by simp))
      have hP2 := (q2.cell (p := ⟨w.heap.size, 9, none⟩) hz1).trans hP
      obtain ⟨c3, c4, c5⟩ := carry2 q2 d5 c1 c2 d4
      have hB2' : Below w.heap.size w w2 := hB1.trans (q2.mono hB1.size)
      have hz3 : w1.heap.size < w2.heap.size := by have := hb2.size; simp at this; omega
      obtain ⟨b, off, rfl, hbl, hx7, hx8⟩ := HX2.out w2 (HA.out.claims.below (Nat.le_refl _) hB2')
      have hjl : (j : Int) < (cs.length : Int) := by omega
      clear hb2 q2 c1 c2 d4 hP hS hB1
      go_wp2_with fail
      refine (checkAll_any _ _ _).mono ?_
      rintro e w3 ⟨rfl, hb3⟩
      rw [CK.out]
      obtain ⟨bx0, bx1, bx2⟩ : w3.cell? ⟨w2.heap.size, 0, none⟩ = some (.int .i64 x) ∧ w3.cell? ⟨w2.heap.size, 1, none⟩ = some (.int .i64 y) ∧ ∀ i, w3.frozen? ⟨w2.heap.size, i, none⟩ = false := by
        obtain ⟨h1, h2⟩ := box1 hb3
        exact ⟨h1, h2, fun i => (hb3.frozen (p := ⟨w2.heap.size, i, none⟩) (by simp)).trans (World.frozen?_alloc_new _ _ _ _)⟩
      have q3 : Below w2.heap.size w2 w3 := new1.trans (hb3.mono (by simp))
      obtain ⟨c6, c7, c8⟩ := carry2 q3 (by omega) c3 c4 c5
      obtain ⟨ay0, ay1⟩ := carry1 q3 hz3 ax0 ax1
      have hB3 : Below w.heap.size w w3 := hB2'.trans (q3.mono hB2'.size)
      have hz4 : w2.heap.size < w3.heap.size := by have := hb3.size; simp at this; omega
      clear hb3 q3 c3 c4 c5 ax0 ax1 hB2' hP2 hx7 hx8
      go_wp2
      have hB2 := hB3
      refine bodyPost_ret (v := tri (0, 0, e)) (by simp [tri, results, Try.results36, go_sem, c6, c7]) rfl ⟨rfl, ?_⟩
      repeat (first | exact hB2 | (refine Below.setCell ?_ (by first | (simp; done) | (simp; omega)) _) | (refine Below.alloc ?_ (by first | (simp; done) | (simp; omega)) _) | (refine Below.drew ?_) | (refine below_drewN ?_ _))
  · rw [free_bad hre]
    go_enter Try.func36, Try.ntmps36
    go_wp2_with fail
    refine (HU.out _ (HA.out.below (Nat.le_refl _) new3)).mono ?_
    rintro e w1 ⟨rfl, hb⟩
    obtain ⟨d1, d2, d3, d4, d5⟩ := old3 hb
    have hB2 : Below w.heap.size w w1 := bel3 hb
    have c1 : w1.cell? ⟨w.heap.size + 1 + 1, 0, none⟩ = some (.int .i64 0) := d3 0
    have c2 : w1.cell? ⟨w.heap.size + 1 + 1, 1, none⟩ = some (.int .i64 0) := d3 1
    clear hb d1 d2 d3
    have hz1 : w.heap.size < w1.heap.size := by omega
    have hz2 : w.heap.size + 1 < w1.heap.size := by omega
    go_wp2
    refine bodyPost_ret (v := tri (0, 0, re)) (by simp [tri, results, Try.results36, go_sem, c1, c2, d5]) rfl ⟨rfl, ?_⟩
    repeat (first | exact hB2 | (refine Below.setCell ?_ (by first | (simp; done) | (simp; omega)) _) | (refine Below.alloc ?_ (by first | (simp; done) | (simp; omega)) _) | (refine Below.drew ?_) | (refine below_drewN ?_ _))

end Go.Proofs.Ytnaphpgbmjpicaa
