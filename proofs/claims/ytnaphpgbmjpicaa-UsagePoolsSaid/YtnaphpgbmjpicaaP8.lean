/- What is used, free, and of a pool, is what the document says: UsageTells answers true. No condition. -/
import Derived.Test.YtnaphpgbmjpicaaP7
namespace Go.Proofs.Ytnaphpgbmjpicaa
open Go.RowKit
attribute [local go_sem] eqIn26 eqG26 run_store_one

theorem sn_cells {w : World} {b : Nat} {s0 s1 s2 s3 s4 s5 s6 s10 s11 s12 s13 : Value} {pa qa ca : Option Addr} {ps : List Pd} {qs : List Pl} {cs : List Cl} {pcap qcap ccap : Nat} (h : ∀ j, w.cell? ⟨b, j, none⟩ = (#[s0, s1, s2, s3, s4, s5, s6, .slice pa ps.length pcap, .slice qa qs.length qcap, .slice ca cs.length ccap, s10, s11, s12, s13] : Array Value)[j]?) : w.cell? ⟨b, 0, none⟩ = some (s0) ∧ w.cell? ⟨b, 1, none⟩ = some (s1) ∧ w.cell? ⟨b, 2, none⟩ = some (s2) ∧ w.cell? ⟨b, 3, none⟩ = some (s3) ∧ w.cell? ⟨b, 4, none⟩ = some (s4) ∧ w.cell? ⟨b, 5, none⟩ = some (s5) ∧ w.cell? ⟨b, 6, none⟩ = some (s6) ∧ w.cell? ⟨b, 7, none⟩ = some (.slice pa ps.length pcap) ∧ w.cell? ⟨b, 8, none⟩ = some (.slice qa qs.length qcap) ∧ w.cell? ⟨b, 9, none⟩ = some (.slice ca cs.length ccap) ∧ w.cell? ⟨b, 10, none⟩ = some (s10) ∧ w.cell? ⟨b, 11, none⟩ = some (s11) ∧ w.cell? ⟨b, 12, none⟩ = some (s12) ∧ w.cell? ⟨b, 13, none⟩ = some (s13) :=
  ⟨h 0, h 1, h 2, h 3, h 4, h 5, h 6, h 7, h 8, h 9, h 10, h 11, h 12, h 13⟩

set_option maxRecDepth 100000 in
set_option maxHeartbeats 8000000 in
theorem usageTells_walk (n : Sn) (s p : ByteArray) (w : World) (hA : n.Ok w) :
    Calls Try.prog 10 #[n.val, .string s, .string p] w fun e w' => e = .returned (.bool true) ∧ Below w.heap.size w w' := by
  have U1 := fun (w : World) (h : n.Ok w) => used_any n s w h
  have U2 := fun (w : World) (h : n.Ok w) => rused_any n s w h
  have F1 := fun (w : World) (h : n.Ok w) => free_any n s w h
  have F2 := fun (w : World) (h : n.Ok w) => rfree_any n s w h
  have P1 := fun (w : World) (h : n.Ok w) => pool_any n p w h
  have P2 := fun (w : World) (h : n.Ok w) => rpool_any n p w h
  obtain ⟨a0, a1, ae, hR⟩ : ∃ r0 r1 re, usedOf n s = (r0, r1, re) := ⟨_, _, _, rfl⟩
  obtain ⟨f0, f1, fe, hF⟩ : ∃ r0 r1 re, freeOf n s = (r0, r1, re) := ⟨_, _, _, rfl⟩
  obtain ⟨p0, p1, pe, hP⟩ : ∃ r0 r1 re, poolOf n p = (r0, r1, re) := ⟨_, _, _, rfl⟩
  rw [hR] at U1 U2
  rw [hF] at F1 F2
  rw [hP] at P1 P2
  clear hR hF hP
  obtain ⟨s0, s1, s2, s3, s4, s5, s6, pa, ps, pcap, qa, qs, qcap, ca, cs, ccap, s10, s11, s12, s13, k0, k1, k2, k3, k4, k5, k6, k10, k11, k12, k13⟩ := n
  have OK := Lib.hid hA
  clear hA
  show Calls Try.prog 10 #[.agg #[s0, s1, s2, s3, s4, s5, s6, .slice pa ps.length pcap, .slice qa qs.length qcap, .slice ca cs.length ccap, s10, s11, s12, s13], .string s, .string p] w _
  have HU1 : Hid (∀ (w : World), Sn.Ok ⟨s0, s1, s2, s3, s4, s5, s6, pa, ps, pcap, qa, qs, qcap, ca, cs, ccap, s10, s11, s12, s13, k0, k1, k2, k3, k4, k5, k6, k10, k11, k12, k13⟩ w → Calls Try.prog 34 #[.agg #[s0, s1, s2, s3, s4, s5, s6, .slice pa ps.length pcap, .slice qa qs.length qcap, .slice ca cs.length ccap, s10, s11, s12, s13], .string s] w fun e w' => e = .returned (.tuple #[.agg #[.int .i64 a0, .int .i64 a1], .int .i64 ae]) ∧ Below w.heap.size w w') := Lib.hid U1
  have HU2 : Hid (∀ (w : World), Sn.Ok ⟨s0, s1, s2, s3, s4, s5, s6, pa, ps, pcap, qa, qs, qcap, ca, cs, ccap, s10, s11, s12, s13, k0, k1, k2, k3, k4, k5, k6, k10, k11, k12, k13⟩ w → Calls Try.prog 35 #[.agg #[s0, s1, s2, s3, s4, s5, s6, .slice pa ps.length pcap, .slice qa qs.length qcap, .slice ca cs.length ccap, s10, s11, s12, s13], .string s] w fun e w' => e = .returned (.tuple #[.agg #[.int .i64 a0, .int .i64 a1], .int .i64 ae]) ∧ Below w.heap.size w w') := Lib.hid U2
  have HF1 : Hid (∀ (w : World), Sn.Ok ⟨s0, s1, s2, s3, s4, s5, s6, pa, ps, pcap, qa, qs, qcap, ca, cs, ccap, s10, s11, s12, s13, k0, k1, k2, k3, k4, k5, k6, k10, k11, k12, k13⟩ w → Calls Try.prog 36 #[.agg #[s0, s1, s2, s3, s4, s5, s6, .slice pa ps.length pcap, .slice qa qs.length qcap, .slice ca cs.length ccap, s10, s11, s12, s13], .string s] w fun e w' => e = .returned (.tuple #[.agg #[.int .i64 f0, .int .i64 f1], .int .i64 fe]) ∧ Below w.heap.size w w') := Lib.hid F1
  have HF2 : Hid (∀ (w : World), Sn.Ok ⟨s0, s1, s2, s3, s4, s5, s6, pa, ps, pcap, qa, qs, qcap, ca, cs, ccap, s10, s11, s12, s13, k0, k1, k2, k3, k4, k5, k6, k10, k11, k12, k13⟩ w → Calls Try.prog 37 #[.agg #[s0, s1, s2, s3, s4, s5, s6, .slice pa ps.length pcap, .slice qa qs.length qcap, .slice ca cs.length ccap, s10, s11, s12, s13], .string s] w fun e w' => e = .returned (.tuple #[.agg #[.int .i64 f0, .int .i64 f1], .int .i64 fe]) ∧ Below w.heap.size w w') := Lib.hid F2
  have HP1 : Hid (∀ (w : World), Sn.Ok ⟨s0, s1, s2, s3, s4, s5, s6, pa, ps, pcap, qa, qs, qcap, ca, cs, ccap, s10, s11, s12, s13, k0, k1, k2, k3, k4, k5, k6, k10, k11, k12, k13⟩ w → Calls Try.prog 38 #[.agg #[s0, s1, s2, s3, s4, s5, s6, .slice pa ps.length pcap, .slice qa qs.length qcap, .slice ca cs.length ccap, s10, s11, s12, s13], .string p] w fun e w' => e = .returned (.tuple #[.agg #[.int .i64 p0, .int .i64 p1], .int .i64 pe]) ∧ Below w.heap.size w w') := Lib.hid P1
  have HP2 : Hid (∀ (w : World), Sn.Ok ⟨s0, s1, s2, s3, s4, s5, s6, pa, ps, pcap, qa, qs, qcap, ca, cs, ccap, s10, s11, s12, s13, k0, k1, k2, k3, k4, k5, k6, k10, k11, k12, k13⟩ w → Calls Try.prog 39 #[.agg #[s0, s1, s2, s3, s4, s5, s6, .slice pa ps.length pcap, .slice qa qs.length qcap, .slice ca cs.length ccap, s10, s11, s12, s13], .string p] w fun e w' => e = .returned (.tuple #[.agg #[.int .i64 p0, .int .i64 p1], .int .i64 pe]) ∧ Below w.heap.size w w') := Lib.hid P2
  clear U1 U2 F1 F2 P1 P2
  go_enter Try.func10, Try.ntmps10
  go_wp2_with fail
  refine (live13_any _).mono ?_
  rintro er w1 ⟨rfl, hb1⟩
  have q1 : Below w.heap.size w w1 := new1.trans (hb1.mono (by simp))
  have HC1 : Hid (∀ j, w1.cell? ⟨w.heap.size, j, none⟩ = (#[s0, s1, s2, s3, s4, s5, s6, .slice pa ps.length pcap, .slice qa qs.length qcap, .slice ca cs.length ccap, s10, s11, s12, s13] : Array Value)[j]?) := Lib.hid fun j => (hb1.cell (p := ⟨w.heap.size, j, none⟩) (by simp)).trans (World.cell?_alloc_new _ _ _ _)
  have OK1 := Lib.hid (OK.out.below (Nat.le_refl _) q1)
  have hB1 := q1
  have y1 : w.heap.size < w1.heap.size := by have := hb1.size; simp at this; omega
  clear hb1 q1 OK
  obtain ⟨t0, t1, t2, t3, t4, t5, t6, t7, t8, t9, t10, t11, t12, t13⟩ := sn_cells HC1.out
  go_wp2_with fail
  refine (HU1.out _ OK1.out).mono ?_
  rintro er w2 ⟨rfl, hb2⟩
  have q2 : Below w1.heap.size w1 w2 := hb2
  have HC2 : Hid (∀ j, w2.cell? ⟨w.heap.size, j, none⟩ = (#[s0, s1, s2, s3, s4, s5, s6, .slice pa ps.length pcap, .slice qa qs.length qcap, .slice ca cs.length ccap, s10, s11, s12, s13] : Array Value)[j]?) := Lib.hid fun j => (q2.cell (p := ⟨w.heap.size, j, none⟩) (by show w.heap.size < _; omega)).trans (HC1.out j)
  have OK2 := Lib.hid (OK1.out.below (Nat.le_refl _) q2)
  have z2 : w1.heap.size ≤ w2.heap.size := hb2.size
  have hB2 : Below w.heap.size w w2 := hB1.trans (q2.mono hB1.size)
  have y2 : w.heap.size < w2.heap.size := by omega
  clear hb2 q2 hB1 t0 t1 t2 t3 t4 t5 t6 t7 t8 t9 t10 t11 t12 t13 HC1 OK1
  obtain ⟨t0, t1, t2, t3, t4, t5, t6, t7, t8, t9, t10, t11, t12, t13⟩ := sn_cells HC2.out
  go_wp2_with fail
  refine (HU2.out _ (OK2.out.below (Nat.le_refl _) new1)).mono ?_
  rintro er w3 ⟨rfl, hb3⟩
  have q3 : Below w2.heap.size w2 w3 := new1.trans (hb3.mono (by simp))
  obtain ⟨u2, v2⟩ := box1 hb3
  have HC3 : Hid (∀ j, w3.cell? ⟨w.heap.size, j, none⟩ = (#[s0, s1, s2, s3, s4, s5, s6, .slice pa ps.length pcap, .slice qa qs.length qcap, .slice ca cs.length ccap, s10, s11, s12, s13] : Array Value)[j]?) := Lib.hid fun j => (q3.cell (p := ⟨w.heap.size, j, none⟩) (by show w.heap.size < _; omega)).trans (HC2.out j)
  have OK3 := Lib.hid (OK2.out.below (Nat.le_refl _) q3)
  have z3 : w2.heap.size < w3.heap.size := by have := hb3.size; simp at this; omega
  have hB3 : Below w.heap.size w w3 := hB2.trans (q3.mono hB2.size)
  have y3 : w.heap.size < w3.heap.size := by omega
  clear hb3 q3 hB2 t0 t1 t2 t3 t4 t5 t6 t7 t8 t9 t10 t11 t12 t13 HC2 OK2
  obtain ⟨t0, t1, t2, t3, t4, t5, t6, t7, t8, t9, t10, t11, t12, t13⟩ := sn_cells HC3.out
  go_wp2_with fail
  refine (HF1.out _ (OK3.out.below (Nat.le_refl _) new1)).mono ?_
  rintro er w4 ⟨rfl, hb4⟩
  have q4 : Below w3.heap.size w3 w4 := new1.trans (hb4.mono (by simp))
  obtain ⟨u3, v3⟩ := box1 hb4
  have HC4 : Hid (∀ j, w4.cell? ⟨w.heap.size, j, none⟩ = (#[s0, s1, s2, s3, s4, s5, s6, .slice pa ps.length pcap, .slice qa qs.length qcap, .slice ca cs.length ccap, s10, s11, s12, s13] : Array Value)[j]?) := Lib.hid fun j => (q4.cell (p := ⟨w.heap.size, j, none⟩) (by show w.heap.size < _; omega)).trans (HC3.out j)
  have OK4 := Lib.hid (OK3.out.below (Nat.le_refl _) q4)
  obtain ⟨u2_4, v2_4⟩ := carry1 q4 (by omega) u2 v2
  have z4 : w3.heap.size < w4.heap.size := by have := hb4.size; simp at this; omega
  have hB4 : Below w.heap.size w w4 := hB3.trans (q4.mono hB3.size)
  have y4 : w.heap.size < w4.heap.size := by omega
  clear hb4 q4 hB3 t0 t1 t2 t3 t4 t5 t6 t7 t8 t9 t10 t11 t12 t13 HC3 OK3 u2 v2
  obtain ⟨t0, t1, t2, t3, t4, t5, t6, t7, t8, t9, t10, t11, t12, t13⟩ := sn_cells HC4.out
  go_wp2_with fail
  refine (HF2.out _ (OK4.out.below (Nat.le_refl _) new1)).mono ?_
  rintro er w5 ⟨rfl, hb5⟩
  have q5 : Below w4.heap.size w4 w5 := new1.trans (hb5.mono (by simp))
  obtain ⟨u4, v4⟩ := box1 hb5
  have HC5 : Hid (∀ j, w5.cell? ⟨w.heap.size, j, none⟩ = (#[s0, s1, s2, s3, s4, s5, s6, .slice pa ps.length pcap, .slice qa qs.length qcap, .slice ca cs.length ccap, s10, s11, s12, s13] : Array Value)[j]?) := Lib.hid fun j => (q5.cell (p := ⟨w.heap.size, j, none⟩) (by show w.heap.size < _; omega)).trans (HC4.out j)
  have OK5 := Lib.hid (OK4.out.below (Nat.le_refl _) q5)
  obtain ⟨u2_5, v2_5⟩ := carry1 q5 (by omega) u2_4 v2_4
  obtain ⟨u3_5, v3_5⟩ := carry1 q5 (by omega) u3 v3
  have z5 : w4.heap.size < w5.heap.size := by have := hb5.size; simp at this; omega
  have hB5 : Below w.heap.size w w5 := hB4.trans (q5.mono hB4.size)
  have y5 : w.heap.size < w5.heap.size := by omega
  clear hb5 q5 hB4 t0 t1 t2 t3 t4 t5 t6 t7 t8 t9 t10 t11 t12 t13 HC4 OK4 u2_4 v2_4 u3 v3
  obtain ⟨t0, t1, t2, t3, t4, t5, t6, t7, t8, t9, t10, t11, t12, t13⟩ := sn_cells HC5.out
  go_wp2_with fail
  refine (HP1.out _ (OK5.out.below (Nat.le_refl _) new1)).mono ?_
  rintro er w6 ⟨rfl, hb6⟩
  have q6 : Below w5.heap.size w5 w6 := new1.trans (hb6.mono (by simp))
  obtain ⟨u5, v5⟩ := box1 hb6
  have HC6 : Hid (∀ j, w6.cell? ⟨w.heap.size, j, none⟩ = (#[s0, s1, s2, s3, s4, s5, s6, .slice pa ps.length pcap, .slice qa qs.length qcap, .slice ca cs.length ccap, s10, s11, s12, s13] : Array Value)[j]?) := Lib.hid fun j => (q6.cell (p := ⟨w.heap.size, j, none⟩) (by show w.heap.size < _; omega)).trans (HC5.out j)
  have OK6 := Lib.hid (OK5.out.below (Nat.le_refl _) q6)
  obtain ⟨u2_6, v2_6⟩ := carry1 q6 (by omega) u2_5 v2_5
  obtain ⟨u3_6, v3_6⟩ := carry1 q6 (by omega) u3_5 v3_5
  obtain ⟨u4_6, v4_6⟩ := carry1 q6 (by omega) u4 v4
  have z6 : w5.heap.size < w6.heap.size := by have := hb6.size; simp at this; omega
  have hB6 : Below w.heap.size w w6 := hB5.trans (q6.mono hB5.size)
  have y6 : w.heap.size < w6.heap.size := by omega
  clear hb6 q6 hB5 t0 t1 t2 t3 t4 t5 t6 t7 t8 t9 t10 t11 t12 t13 HC5 OK5 u2_5 v2_5 u3_5 v3_5 u4 v4
  obtain ⟨t0, t1, t2, t3, t4, t5, t6, t7, t8, t9, t10, t11, t12, t13⟩ := sn_cells HC6.out
  go_wp2_with fail
  refine (HP2.out _ (OK6.out.below (Nat.le_refl _) new1)).mono ?_
  rintro er w7 ⟨rfl, hb7⟩
  have q7 : Below w6.heap.size w6 w7 := new1.trans (hb7.mono (by simp))
  obtain ⟨u6, v6⟩ := box1 hb7
  obtain ⟨u2_7, v2_7⟩ := carry1 q7 (by omega) u2_6 v2_6
  obtain ⟨u3_7, v3_7⟩ := carry1 q7 (by omega) u3_6 v3_6
  obtain ⟨u4_7, v4_7⟩ := carry1 q7 (by omega) u4_6 v4_6
  obtain ⟨u5_7, v5_7⟩ := carry1 q7 (by omega) u5 v5
  have z7 : w6.heap.size < w7.heap.size := by have := hb7.size; simp at this; omega
  have hB7 : Below w.heap.size w w7 := hB6.trans (q7.mono hB6.size)
  have y7 : w.heap.size < w7.heap.size := by omega
  clear hb7 q7 hB6 t0 t1 t2 t3 t4 t5 t6 t7 t8 t9 t10 t11 t12 t13 HC6 OK6 u2_6 v2_6 u3_6 v3_6 u4_6 v4_6 u5 v5
  have zz2 : w2.heap.size < w7.heap.size := by omega
  have zz3 : w3.heap.size < w7.heap.size := by omega
  have zz4 : w4.heap.size < w7.heap.size := by omega
  have zz5 : w5.heap.size < w7.heap.size := by omega
  go_wp2_with fail
  go_ret
  exact ⟨rfl, by first | exact hB7 | exact hB7.alloc (by have := hB7.size; omega) _⟩
end Go.Proofs.Ytnaphpgbmjpicaa
