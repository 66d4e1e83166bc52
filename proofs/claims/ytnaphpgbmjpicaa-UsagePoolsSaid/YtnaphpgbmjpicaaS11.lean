/- A claim less is just its own less: UsagePools answers true. No condition. -/
import Derived.Test.YtnaphpgbmjpicaaS10
namespace Go.Proofs.Ytnaphpgbmjpicaa
open Go.ChangeShapes Go.WideShapes Go.ChangeAt Go.RowKit
attribute [local go_sem] eqIn26 eqG26 run_store_one RegRel.relUpon RegRel.opOk

theorem info62 : (Try.prog.info? 62).map (fun i => (i.zero, i.size, i.bytes)) = some (some (.agg #[.string .empty, .string .empty, .int .i64 0, .string .empty, .string .empty, .string .empty, .int .i64 0, .int .i64 0, .int .i64 0, .slice none 0 0, .int .i64 0, .string .empty, .int .i64 0, .int .i64 0, .bool false]), 15, 184) := by kernel_rfl

set_option maxRecDepth 100000 in
set_option maxHeartbeats 8000000 in
theorem usagePools_walk (n : Sn) (s : ByteArray) (m : Int) (w : World) (hA : n.Ok w) (hca : n.ca = none → n.cs.length = 0 ∧ n.ccap = 0) (hcap : n.cs.length ≤ n.ccap) (hsz184 : n.cs.length * 184 ≤ 140737488355328) :
    Calls Try.prog 11 #[n.val, .string s, .int .i64 m] w fun e w' => e = .returned (.bool true) ∧ Below w.heap.size w w' := by
  have U1 := fun (w : World) (h : n.Ok w) => pool_any n s w h
  obtain ⟨a0, a1, ae, hR⟩ : ∃ r0 r1 re, poolOf n s = (r0, r1, re) := ⟨_, _, _, rfl⟩
  rw [hR] at U1
  obtain ⟨s0, s1, s2, s3, s4, s5, s6, pa, ps, pcap, qa, qs, qcap, ca, cs, ccap, s10, s11, s12, s13, k0, k1, k2, k3, k4, k5, k6, k10, k11, k12, k13⟩ := n
  have OK := Lib.hid hA
  have HR := Lib.hid hR
  clear hA hR
  dsimp only at hca hcap hsz184
  show Calls Try.prog 11 #[.agg #[s0, s1, s2, s3, s4, s5, s6, .slice pa ps.length pcap, .slice qa qs.length qcap, .slice ca cs.length ccap, s10, s11, s12, s13], .string s, .int .i64 m] w _
  have HU1 : Hid (∀ (w : World), Sn.Ok ⟨s0, s1, s2, s3, s4, s5, s6, pa, ps, pcap, qa, qs, qcap, ca, cs, ccap, s10, s11, s12, s13, k0, k1, k2, k3, k4, k5, k6, k10, k11, k12, k13⟩ w → Calls Try.prog 38 #[.agg #[s0, s1, s2, s3, s4, s5, s6, .slice pa ps.length pcap, .slice qa qs.length qcap, .slice ca cs.length ccap, s10, s11, s12, s13], .string s] w fun e w' => e = .returned (.tuple #[.agg #[.int .i64 a0, .int .i64 a1], .int .i64 ae]) ∧ Below w.heap.size w w') := Lib.hid U1
  clear U1
  have hl2 : cs.length * 184 ≤ 140737488355328 := hsz184
  have hl1 : cs.length ≤ 4611686018427387904 := by have := OK.out.lc; dsimp only at this; omega
  rcases hae : (ae != 0) with _ | _
  · rcases hlen : (((cs.length : Int)) == 0) with _ | _
    · have e0 : ae = 0 := by simpa using hae
      have hpos : 0 < cs.length := by
        have h : ¬ ((cs.length : Int) = 0) := by simpa using hlen
        omega
      subst e0
      go_enter Try.func11, Try.ntmps11
      go_wp2_with fail
      refine (live13_any _).mono ?_
      rintro er w1 ⟨rfl, hb1⟩
      have q1 : Below w.heap.size w w1 := new1.trans (hb1.mono (by simp))
      have HC1 : Hid (∀ j, w1.cell? ⟨w.heap.size, j, none⟩ = (#[s0, s1, s2, s3, s4, s5, s6, .slice pa ps.length pcap, .slice qa qs.length qcap, .slice ca cs.length ccap, s10, s11, s12, s13] : Array Value)[j]?) := Lib.hid fun j => (hb1.cell (p := ⟨w.heap.size, j, none⟩) (by simp)).trans (World.cell?_alloc_new _ _ _ _)
      have OK1 := Lib.hid (OK.out.below (Nat.le_refl _) q1)
      have hB1 := q1
      have y1 : w.heap.size < w1.heap.size := by have := hb1.size; simp at this; omega
      clear hb1 q1 OK
      obtain ⟨t0, t1, t2, t3, t4, t5, t6, t7, t8, t9, t10, t11, t12, t13⟩ := sn_cells HC1.out
      go_wp2_with fail
      refine (HU1.out _ OK1.out).mono ?_
      rintro er w2 ⟨rfl, hb2⟩
      have HC2 : Hid (∀ j, w2.cell? ⟨w.heap.size, j, none⟩ = (#[s0, s1, s2, s3, s4, s5, s6, .slice pa ps.length pcap, .slice qa qs.length qcap, .slice ca cs.length ccap, s10, s11, s12, s13] : Array Value)[j]?) := Lib.hid fun j => (hb2.cell (p := ⟨w.heap.size, j, none⟩) y1).trans (HC1.out j)
      have OK2 := Lib.hid (OK1.out.below (Nat.le_refl _) hb2)
      have z2 : w1.heap.size ≤ w2.heap.size := hb2.size
      have hB2 : Below w.heap.size w w2 := hB1.trans (hb2.mono hB1.size)
      have y2 : w.heap.size < w2.heap.size := by omega
      clear hb2 hB1 t0 t1 t2 t3 t4 t5 t6 t7 t8 t9 t10 t11 t12 t13 HC1 OK1
      obtain ⟨t0, t1, t2, t3, t4, t5, t6, t7, t8, t9, t10, t11, t12, t13⟩ := sn_cells HC2.out
      go_wp2_with fail
      go_quiet (fail)
      obtain ⟨k, hk, hkv⟩ := which_at m hpos (by omega)
      rw [hkv]
      obtain ⟨t0, t1, t2, t3, t4, t5, t6, t7, t8, t9, t10, t11, t12, t13⟩ := sn_cells HC2.out
      obtain ⟨b, off, hpe⟩ : ∃ b off, ca = some ⟨b, off, none⟩ := by
        obtain ⟨b, off, e, _⟩ := OK2.out.claims.cl hk
        exact ⟨b, off, e⟩
      subst hpe
      go_wp2_with fail
      generalize hW8 : (World.alloc (World.drewN (World.alloc w2 _) _) _) = W8
      obtain ⟨i0, hi, hz0, hz1, hz2⟩ := info_parts info62
      have HI := Lib.hid hi
      have HZ0 := Lib.hid hz0
      have HZ1 := Lib.hid hz1
      have HZ2 := Lib.hid hz2
      clear hi hz0 hz1 hz2
      have tW : W8.cell? ⟨w.heap.size, 9, none⟩ = some (.slice (some ⟨b, off, none⟩) cs.length ccap) := by
        rw [← hW8, World.cell?_alloc_lt _ _ _ (by simp; omega)]
        exact (World.cell?_alloc_lt _ _ _ y2).trans t9
      have yW : w.heap.size < W8.heap.size := by rw [← hW8]; simp; omega
      have hRw : Rw W8 (some ⟨b, off, none⟩) 15 ((cs.take k).map Cl.cells) := by
        have h := OK2.out.claims.below (Nat.le_refl _) (show Below w2.heap.size w2 W8 by rw [← hW8]; exact (below_drewN new1 _).alloc (by simp) _)
        rw [List.map_take]; exact h.take k
      have RW8 := Lib.hid hRw
      clear hRw
      obtain ⟨A9, hA9⟩ : ∃ A9, (if ccap = k + 1 then some (⟨b, off, none⟩ : Addr) else some ⟨b, off + (k + 1) * 15, none⟩) = A9 := ⟨_, rfl⟩
      refine RegRel.wp_region_bel 10 4 (by kernel_rfl) (by kernel_rfl) [RegRel.is (.pointer (some ⟨w.heap.size, 9, none⟩)), RegRel.is (.slice (some ⟨b, off, none⟩) cs.length ccap), RegRel.is (.int .i64 k), RegRel.is (.slice (some ⟨b, off, none⟩) k ccap), ⟨none, fun v _ w' => w'.ownsRow W8.heap.size 62 15 v k ((cs.take k).flatMap Cl.cells)⟩,
        RegRel.is (.pointer (some ⟨w.heap.size, 9, none⟩)), RegRel.is (.slice (some ⟨b, off, none⟩) cs.length ccap), RegRel.is (.int .i64 k), RegRel.is (.int .i64 ((k : Int) + 1)), RegRel.is (.slice A9 (cs.length - (k + 1)) (ccap - (k + 1)))] ?_ rfl (by kernel_rfl) ?_ ?_
      · have hs : RegRel.Stable (fun v (_ : Value) w' => World.ownsRow w' W8.heap.size 62 15 v k ((cs.take k).flatMap Cl.cells)) := fun v v' w w' hb h => own_stable hb h
        simp [RegRel.AllStable, RegRel.stable_is, RegRel.tough_is, hs]
      · simp only [List.take_succ_cons, List.take_zero, RegRel.OpsOk, RegRel.puts]
        refine ⟨?_, ?_, ?_, ?_, ?_, ?_, ?_, ?_, ?_, ?_, trivial⟩
        rotate_left 4
        · intro u w' hC hD
          simp [RegRel.DepsOk, Region.binds, RegRel.ent, RegRel.is] at hD
          obtain ⟨v', w2, hr, hown, hgr, _⟩ := run_append_own (P := Try.prog) w' W8.heap.size 49 49 62 i0 _ 15 184 Try.underlying49 HI.out HZ0.out HZ1.out HZ2.out rfl (by decide) (.slice none 0 0) 0 [] (World.ownsRow_nil _ _ _ _) ⟨b, off, none⟩ k ccap ((cs.take k).flatMap Cl.cells)
            (by rw [rows_len cl_len, List.length_take, Nat.min_eq_left (by omega)]) (rw_news cl_len (by decide) (RW8.out.below (Nat.le_refl _) hC) _ rfl) (cl_one _) (by unfold maxLen; omega) (by omega) hC.size
          rw [Nat.zero_add] at hown
          rw [List.nil_append] at hown
          unfold RegRel.opOk
          rw [if_pos (by simp [Region.wanted])]
          unfold execOp
          simp [resolve, invoke, builtin, hD, hr, Act.eval, Act.put, RegRel.relUpon, Result.andThen, RegRel.ent, RegRel.step, RegRel.upd]
          have hbl : Below w'.heap.size w' w2 := ⟨hgr.os, hgr.tape, hgr.output, hgr.size, fun k hk => hgr.block k hk (by simp [Value.ownBlock])⟩
          exact ⟨hown, hbl.mono hC.size, RegRel.Shaped.of_below hbl⟩
        all_goals
          intro u w' hC hD
          try simp [RegRel.DepsOk, Region.binds, RegRel.ent, RegRel.is] at hD
          have e1 := (hC.cell (p := ⟨w.heap.size, 9, none⟩) yW).trans tW
          go_simp
        all_goals (try simp [RegRel.ent, RegRel.is, RegRel.step, RegRel.upd, Below.refl])
        · exact (IntWalk.i64_left _).trans (IntWalk.wrap64_in _ (by omega))
        · rw [if_pos (by omega)]
          simp [RegRel.relUpon, RegRel.step, Below.refl]
        · rw [if_pos (by omega)]
          simp [RegRel.relUpon, RegRel.step, Below.refl]
      · intro u w9 hC hv
        simp only [List.take_succ_cons, List.take_zero, List.drop_succ_cons, List.drop_zero, RegRel.puts]
        simp [RegRel.allV, RegRel.is] at hv
        obtain ⟨g0, g1, g2, g3, v4, g5, g6, g7, g8, g9⟩ := hv
        have hRd : Rw w9 A9 15 ((cs.drop (k + 1)).map Cl.cells) := by
          rw [← hA9]
          split
          · have e : cs.drop (k + 1) = [] := List.drop_eq_nil_of_le (by omega)
            rw [e]
            exact fun i r hr => by simp at hr
          · rw [List.map_drop]
            have h := OK2.out.claims.below (Nat.le_refl _) (show Below w2.heap.size w2 W8 by rw [← hW8]; exact (below_drewN new1 _).alloc (by simp) _)
            exact (h.below (Nat.le_refl _) hC).drop (k + 1)
        have hAn : A9 = none → cs.length - (k + 1) = 0 ∧ ccap - (k + 1) = 0 := by
          rintro rfl
          split at hA9 <;> cases hA9
        have z8 : W8.heap.size = w2.heap.size + 2 := by rw [← hW8]; simp
        have T8 : ∀ j, W8.cell? ⟨w2.heap.size + 1, j, none⟩ = (#[s0, s1, s2, s3, s4, s5, s6, .slice pa ps.length pcap, .slice qa qs.length qcap, .slice (some ⟨b, off, none⟩) cs.length ccap, s10, s11, s12, s13] : Array Value)[j]? := fun j => by
          rw [← hW8, World.cell?_alloc_at _ _ _ _ (by simp)]
        have T8f : ∀ j, W8.frozen? ⟨w2.heap.size + 1, j, none⟩ = false := fun j => by
          rw [← hW8, World.frozen?_alloc_at _ _ _ _ (by simp)]
        have a80 : W8.cell? ⟨w2.heap.size, 0, none⟩ = some (.int .i64 a0) := by
          rw [← hW8, World.cell?_alloc_lt _ _ _ (by simp)]
          exact (World.cell?_alloc_new _ _ _ _).trans rfl
        have a81 : W8.cell? ⟨w2.heap.size, 1, none⟩ = some (.int .i64 a1) := by
          rw [← hW8, World.cell?_alloc_lt _ _ _ (by simp)]
          exact (World.cell?_alloc_new _ _ _ _).trans rfl
        have h28 : Below w2.heap.size w2 W8 := by rw [← hW8]; exact (below_drewN new1 _).alloc (by simp) _
        clear t0 t1 t2 t3 t4 t5 t6 t7 t8 t9 t10 t11 t12 t13 hW8 tW RW8 hA9
        have RD := Lib.hid hRd
        have AN := Lib.hid hAn
        have TC8 := Lib.hid T8
        have TF8 := Lib.hid T8f
        clear hRd hAn T8 T8f
        have hsz9 : W8.heap.size ≤ w9.heap.size := hC.size
        go_wp2_with (at_builtin; refine wpList_append_all rfl _ _ 49 rfl W8.heap.size 62 i0 _ 15 184 Try.underlying49 HI.out HZ0.out HZ1.out HZ2.out rfl (by decide) (u 4) k ((cs.take k).flatMap Cl.cells) ?ce v4 A9 (cs.length - (k + 1)) (ccap - (k + 1)) ((cs.drop (k + 1)).flatMap Cl.cells) ?cx ?c0 ?c1 ?c2 ?c3 ?c4 ?c5 ?c6 ?_)
        case ce => go_simp
        case cx => go_simp
        case c0 => exact AN.out
        case c1 => rw [rows_len cl_len, List.length_drop]
        case c2 => exact rw_news cl_len (by decide) RD.out
        case c3 => exact cl_one _
        case c4 => unfold maxLen; omega
        case c5 => omega
        case c6 => exact hsz9
        intro v' wA hown hgrow
        obtain ⟨NP, hNP⟩ : ∃ NP, cs.take k ++ cs.drop (k + 1) = NP := ⟨_, rfl⟩
        have hNl : k + (cs.length - (k + 1)) = NP.length := by rw [← hNP]; simp; omega
        rw [← List.flatMap_append, hNP, hNl] at hown
        have hbA : Below W8.heap.size W8 wA := hC.grown hgrow hsz9 (fun g hg => (v4.lt g hg).1)
        obtain ⟨A2, cap2, rfl, -⟩ := own_rw cl_len hown
        obtain ⟨W, hW⟩ : ∃ W : World, W = wA.setCell ⟨w2.heap.size + 1, 9, none⟩ (.slice A2 NP.length cap2) := ⟨_, rfl⟩
        have hRn : Rw W A2 15 (NP.map Cl.cells) := by
          rw [hW]
          obtain ⟨a', c', e', h'⟩ := own_rw cl_len (own_set hown (p := ⟨w2.heap.size + 1, 9, none⟩) (by show w2.heap.size + 1 < _; omega) (.slice A2 NP.length cap2))
          cases e'
          exact h'
        have gA : wA.frozen? ⟨w2.heap.size + 1, 9, none⟩ = false := (hbA.frozen (p := ⟨w2.heap.size + 1, 9, none⟩) (by show w2.heap.size + 1 < _; omega)).trans (TF8.out 9)
        have TA : ∀ j, wA.cell? ⟨w2.heap.size + 1, j, none⟩ = (#[s0, s1, s2, s3, s4, s5, s6, .slice pa ps.length pcap, .slice qa qs.length qcap, .slice (some ⟨b, off, none⟩) cs.length ccap, s10, s11, s12, s13] : Array Value)[j]? := fun j => (hbA.cell (p := ⟨w2.heap.size + 1, j, none⟩) (by show w2.heap.size + 1 < _; omega)).trans (TC8.out j)
        have b2 : Below w2.heap.size w2 W := by rw [hW]; exact (h28.trans (hbA.mono (by omega))).setCell (by simp) _
        have b8 : Below (w2.heap.size + 1) W8 W := by rw [hW]; exact (hbA.mono (by omega)).setCell (by simp) _
        have TW : ∀ j, W.cell? ⟨w2.heap.size + 1, j, none⟩ = (#[s0, s1, s2, s3, s4, s5, s6, .slice pa ps.length pcap, .slice qa qs.length qcap, .slice A2 NP.length cap2, s10, s11, s12, s13] : Array Value)[j]? := fun j => by
          rw [hW]
          by_cases hj : j = 9
          · subst hj
            exact World.cell?_setCell_same _ _ _ (TA 9)
          · rw [World.cell?_setCell_other _ _ _ _ (by intro h; cases h; exact hj rfl), TA j]
            rcases j with _ | _ | _ | _ | _ | _ | _ | _ | _ | _ | j <;> first | rfl | exact absurd rfl hj
        obtain ⟨t0, t1, t2, t3, t4, t5, t6, t7, t8, t9, t10, t11, t12, t13⟩ := sn_cells TA
        clear TA
        obtain ⟨x0, x1⟩ := carry1 b8 (by omega) a80 a81
        have zW : w2.heap.size + 1 < W.heap.size := by have := b8.size; omega
        have hBW : Below w.heap.size w W := hB2.trans (b2.mono hB2.size)
        obtain ⟨c0, c1, hU2, hno, hyes⟩ := pools_plain (n := ⟨s0, s1, s2, s3, s4, s5, s6, pa, ps, pcap, qa, qs, qcap, some ⟨b, off, none⟩, cs, ccap, s10, s11, s12, s13, k0, k1, k2, k3, k4, k5, k6, k10, k11, k12, k13⟩) (s := s) hk A2 cap2 HR.out
        dsimp only at hU2 hno hyes
        rw [hNP] at hU2
        have OW : Sn.Ok ⟨s0, s1, s2, s3, s4, s5, s6, pa, ps, pcap, qa, qs, qcap, A2, NP, cap2, s10, s11, s12, s13, k0, k1, k2, k3, k4, k5, k6, k10, k11, k12, k13⟩ W := by
          have h := OK2.out.below (Nat.le_refl _) b2
          exact ⟨h.pods, h.pools, hRn, h.lp, h.lq, by have := h.lc; dsimp only at this ⊢; omega⟩
        have OLD := Lib.hid (OK2.out.below (Nat.le_refl _) b2)
        have HCW : Hid (∀ j, W.cell? ⟨w.heap.size, j, none⟩ = (#[s0, s1, s2, s3, s4, s5, s6, .slice pa ps.length pcap, .slice qa qs.length qcap, .slice (some ⟨b, off, none⟩) cs.length ccap, s10, s11, s12, s13] : Array Value)[j]?) := Lib.hid fun j => (b2.cell (p := ⟨w.heap.size, j, none⟩) y2).trans (HC2.out j)
        have U2 := fun (w : World) (h : Sn.Ok ⟨s0, s1, s2, s3, s4, s5, s6, pa, ps, pcap, qa, qs, qcap, A2, NP, cap2, s10, s11, s12, s13, k0, k1, k2, k3, k4, k5, k6, k10, k11, k12, k13⟩ w) => pool_any _ s w h
        rw [show poolOf ⟨s0, s1, s2, s3, s4, s5, s6, pa, ps, pcap, qa, qs, qcap, A2, NP, cap2, s10, s11, s12, s13, k0, k1, k2, k3, k4, k5, k6, k10, k11, k12, k13⟩ s = (c0, c1, 0) from hU2] at U2
        have HU2 : Hid (∀ (w : World), Sn.Ok ⟨s0, s1, s2, s3, s4, s5, s6, pa, ps, pcap, qa, qs, qcap, A2, NP, cap2, s10, s11, s12, s13, k0, k1, k2, k3, k4, k5, k6, k10, k11, k12, k13⟩ w → Calls Try.prog 38 #[.agg #[s0, s1, s2, s3, s4, s5, s6, .slice pa ps.length pcap, .slice qa qs.length qcap, .slice A2 NP.length cap2, s10, s11, s12, s13], .string s] w fun e w' => e = .returned (.tuple #[.agg #[.int .i64 c0, .int .i64 c1], .int .i64 0]) ∧ Below w.heap.size w w') := Lib.hid U2
        have NO := Lib.hid hno
        have YES := Lib.hid hyes
        have OKW := Lib.hid OW
        have TCW := Lib.hid TW
        clear hRn hown hgrow hC v4 RD AN g0 g1 g2 g3 g5 g6 g7 g8 g9 a80 a81 TC8 TF8 OK2 h28 hbA U2 hU2 hno hyes OW TW b2 b8 hB2 hNP HU1 HR HC2
        go_wp2_with fail
        rw [← hW]
        clear t0 t1 t2 t3 t4 t5 t6 t7 t8 t9 t10 t11 t12 t13 gA
        refine (HU2.out _ OKW.out).mono ?_
        rintro er w4 ⟨rfl, hb4⟩
        have HC4 : Hid (∀ j, w4.cell? ⟨w.heap.size, j, none⟩ = (#[s0, s1, s2, s3, s4, s5, s6, .slice pa ps.length pcap, .slice qa qs.length qcap, .slice (some ⟨b, off, none⟩) cs.length ccap, s10, s11, s12, s13] : Array Value)[j]?) := Lib.hid fun j => (hb4.cell (p := ⟨w.heap.size, j, none⟩) (by show w.heap.size < _; omega)).trans (HCW.out j)
        have OLD4 := Lib.hid (OLD.out.below (Nat.le_refl _) hb4)
        obtain ⟨x2, x3⟩ := carry1 hb4 (by omega) x0 x1
        have hB4 : Below w.heap.size w w4 := hBW.trans (hb4.mono hBW.size)
        have z4 : W.heap.size ≤ w4.heap.size := hb4.size
        clear hb4 x0 x1 TCW OKW hBW hW HCW OLD HU2
        have z42 : w2.heap.size < w4.heap.size := by omega
        have z40 : w.heap.size < w4.heap.size := by omega
        obtain ⟨b', off', heq, hbl, hq, hc⟩ := OLD4.out.claims.cl hk
        cases heq
        rcases hp : cs.getD k default with ⟨name, pool, c2, c3, c4, c5, c6, x, y, c9, c10, c11, c12, c13, c14, h2, h3, h4, h5, h6, h9, h10, h11, h12, h13, h14⟩
        have NO2 := NO.out
        have YES2 := YES.out
        rw [hp] at hc NO2 YES2
        dsimp only at NO2 YES2
        have hc1 : w4.cell? ⟨b, off + k * 15 + 1, none⟩ = some (.string pool) := hc 1 _ rfl
        have hc7 : w4.cell? ⟨b, off + k * 15 + 7, none⟩ = some (.int .i64 x) := hc 7 _ rfl
        have hc8 : w4.cell? ⟨b, off + k * 15 + 8, none⟩ = some (.int .i64 y) := hc 8 _ rfl
        clear hc hq hp NO YES
        obtain ⟨t0, t1, t2, t3, t4, t5, t6, t7, t8, t9, t10, t11, t12, t13⟩ := sn_cells HC4.out
        rcases hpool : (pool.toList == s.toList) with _ | _
        · obtain ⟨rfl, rfl⟩ := NO2 hpool
          have hne := hpool
          clear NO2 YES2
          go_wp2_with fail
          go_ret
          exact ⟨rfl, by first | exact hB4 | exact hB4.alloc (by have := hB4.size; omega) _⟩
        · obtain ⟨e0, e1, e2⟩ := YES2 hpool
          clear NO2 YES2
          have he := Lib.hid e0
          have hx := Lib.hid e1
          have hy := Lib.hid e2
          clear e0 e1 e2
          go_wp2_with fail
          generalize hW5 : World.alloc w4 _ = W5
          have q5 : Below w4.heap.size w4 W5 := by rw [← hW5]; exact new1
          have z5 : W5.heap.size = w4.heap.size + 1 := by rw [← hW5]; simp
          have v0 : W5.cell? ⟨w4.heap.size, 0, none⟩ = some (.int .i64 c0) := by rw [← hW5, World.cell?_alloc_new]; rfl
          have v1 : W5.cell? ⟨w4.heap.size, 1, none⟩ = some (.int .i64 c1) := by rw [← hW5, World.cell?_alloc_new]; rfl
          obtain ⟨x4, x5⟩ := carry1 q5 z42 x2 x3
          have u9 : W5.cell? ⟨w.heap.size, 9, none⟩ = some (.slice (some ⟨b, off, none⟩) cs.length ccap) := (q5.cell (p := ⟨w.heap.size, 9, none⟩) z40).trans t9
          have u7 : W5.cell? ⟨b, off + k * 15 + 7, none⟩ = some (.int .i64 x) := (q5.cell (p := ⟨b, off + k * 15 + 7, none⟩) hbl).trans hc7
          have u8 : W5.cell? ⟨b, off + k * 15 + 8, none⟩ = some (.int .i64 y) := (q5.cell (p := ⟨b, off + k * 15 + 8, none⟩) hbl).trans hc8
          have hB5 : Below w.heap.size w W5 := hB4.trans (q5.mono hB4.size)
          have l1 : w4.heap.size < W5.heap.size := by omega
          have l2 : w.heap.size < W5.heap.size := by omega
          have l3 : b < W5.heap.size := by omega
          have l4 : w2.heap.size < W5.heap.size := by omega
          clear hW5 q5 z5 x2 x3 t0 t1 t2 t3 t4 t5 t6 t7 t8 t9 t10 t11 t12 t13 hc1 hc7 hc8 hB4 HC4 OLD4
          refine RegRel.wp_region_bel 13 12 (by kernel_rfl) (by kernel_rfl) [RegRel.is (.agg #[.int .i64 c0, .int .i64 c1]), RegRel.is (.pointer (some ⟨w.heap.size, 9, none⟩)), RegRel.is (.slice (some ⟨b, off, none⟩) cs.length ccap), RegRel.is (.int .i64 k), RegRel.is (.pointer (some ⟨b, off + k * 15, none⟩)), RegRel.is (.pointer (some ⟨b, off + k * 15 + 7, none⟩)), RegRel.is (.agg #[.int .i64 x, .int .i64 y]),
            RegRel.is (.tuple #[.agg #[.int .i64 (addV c0 c1 x y c0 x), .int .i64 (addV c0 c1 x y c1 y)], .int .i64 (addE c0 c1 x y)]), RegRel.is (.tuple #[.agg #[.int .i64 (addV c0 c1 x y c0 x), .int .i64 (addV c0 c1 x y c1 y)], .int .i64 (addE c0 c1 x y)]),
            RegRel.is (.agg #[.int .i64 (addV c0 c1 x y c0 x), .int .i64 (addV c0 c1 x y c1 y)]), RegRel.is (.int .i64 (addE c0 c1 x y)), RegRel.fresh W5.heap.size 2, RegRel.filled W5.heap.size 11 [.int .i64 (addV c0 c1 x y c0 x), .int .i64 (addV c0 c1 x y c1 y)]]
            (by simp [RegRel.AllStable, RegRel.stable_is, RegRel.tough_is, RegRel.stable_fresh, RegRel.tough_fresh, RegRel.stable_filled]) rfl (by kernel_rfl) ?_ ?_
          · simp only [List.take_succ_cons, List.take_zero, RegRel.OpsOk, RegRel.puts]
            refine ⟨?_, ?_, ?_, ?_, ?_, ?_, ?_, ?_, ?_, ?_, ?_, ?_, ?_, trivial⟩
            rotate_left 12
            · intro u w' hC hD
              simp [RegRel.DepsOk, Region.binds, RegRel.ent, RegRel.is, RegRel.fresh] at hD
              obtain ⟨⟨n, hn, h1, h3, c, ⟨ty, h4⟩, h5⟩, h10, _⟩ := hD
              obtain ⟨p, q, h6, h7, h8, h9⟩ := RegRel.two_cells h4 h5
              have H6 := Lib.hid h6
              clear h4 h5 h6
              go_simp
              simp only [RegRel.ent, RegRel.filled, RegRel.step, RegRel.upd]
              exact RegRel.store_step hn h1 h3 H6.out
            all_goals
              intro u w' hC hD
              try simp [RegRel.DepsOk, Region.binds, RegRel.ent, RegRel.is] at hD
              have e1 := (hC.cell (p := ⟨w4.heap.size, 0, none⟩) l1).trans v0
              have e2 := (hC.cell (p := ⟨w4.heap.size, 1, none⟩) l1).trans v1
              have e3 := (hC.cell (p := ⟨w.heap.size, 9, none⟩) l2).trans u9
              have e4 := (hC.cell (p := ⟨b, off + k * 15 + 7, none⟩) l3).trans u7
              have e5 := (hC.cell (p := ⟨b, off + k * 15 + 8, none⟩) l3).trans u8
              go_simp
            all_goals (try simp [RegRel.ent, RegRel.is, RegRel.step, RegRel.upd, Below.refl])
            · exact (add_any _ _ _ _ _).mono fun e w'' ⟨he, hb⟩ => ⟨_, he, rfl, hb⟩
            · exact ⟨RegRel.fresh_new _ #[_, _] _ hC.size, RegRel.below_new _ _⟩
          · intro u w6 hb6 hv
            simp only [List.take_succ_cons, List.take_zero, List.drop_succ_cons, List.drop_zero, RegRel.puts]
            simp [RegRel.allV, RegRel.is, RegRel.filled] at hv
            obtain ⟨g0, g1, g2, g3, g4, g5, g6, g7, g8, g9, g10, _, hv⟩ := hv
            obtain ⟨n, g11, n1, n2, n3, n4, n5⟩ := hv.cells2
            clear hv
            rw [hx.out] at n3
            rw [hy.out] at n4
            rw [he.out] at g10
            obtain ⟨x6, x7⟩ := carry1 hb6 l4 x4 x5
            have hB6 : Below w.heap.size w w6 := hB5.trans (hb6.mono hB5.size)
            clear hb6 x4 x5 hB5 v0 v1 u7 u8 u9
            go_wp2_with fail
            go_ret
            exact ⟨rfl, by first | exact hB6 | exact hB6.alloc (by have := hB6.size; omega) _⟩
    · have e0 : ae = 0 := by simpa using hae
      subst e0
      go_enter Try.func11, Try.ntmps11
      go_wp2_with fail
      refine (live13_any _).mono ?_
      rintro er w1 ⟨rfl, hb1⟩
      have q1 : Below w.heap.size w w1 := new1.trans (hb1.mono (by simp))
      have HC1 : Hid (∀ j, w1.cell? ⟨w.heap.size, j, none⟩ = (#[s0, s1, s2, s3, s4, s5, s6, .slice pa ps.length pcap, .slice qa qs.length qcap, .slice ca cs.length ccap, s10, s11, s12, s13] : Array Value)[j]?) := Lib.hid fun j => (hb1.cell (p := ⟨w.heap.size, j, none⟩) (by simp)).trans (World.cell?_alloc_new _ _ _ _)
      have OK1 := Lib.hid (OK.out.below (Nat.le_refl _) q1)
      have hB1 := q1
      have y1 : w.heap.size < w1.heap.size := by have := hb1.size; simp at this; omega
      clear hb1 q1 OK
      obtain ⟨t0, t1, t2, t3, t4, t5, t6, t7, t8, t9, t10, t11, t12, t13⟩ := sn_cells HC1.out
      go_wp2_with fail
      refine (HU1.out _ OK1.out).mono ?_
      rintro er w2 ⟨rfl, hb2⟩
      have HC2 : Hid (∀ j, w2.cell? ⟨w.heap.size, j, none⟩ = (#[s0, s1, s2, s3, s4, s5, s6, .slice pa ps.length pcap, .slice qa qs.length qcap, .slice ca cs.length ccap, s10, s11, s12, s13] : Array Value)[j]?) := Lib.hid fun j => (hb2.cell (p := ⟨w.heap.size, j, none⟩) y1).trans (HC1.out j)
      have OK2 := Lib.hid (OK1.out.below (Nat.le_refl _) hb2)
      have z2 : w1.heap.size ≤ w2.heap.size := hb2.size
      have hB2 : Below w.heap.size w w2 := hB1.trans (hb2.mono hB1.size)
      have y2 : w.heap.size < w2.heap.size := by omega
      clear hb2 hB1 t0 t1 t2 t3 t4 t5 t6 t7 t8 t9 t10 t11 t12 t13 HC1 OK1
      obtain ⟨t0, t1, t2, t3, t4, t5, t6, t7, t8, t9, t10, t11, t12, t13⟩ := sn_cells HC2.out
      go_wp2_with fail
      go_ret
      exact ⟨rfl, by first | exact hB2 | exact hB2.alloc (by have := hB2.size; omega) _⟩
  · skip
    go_enter Try.func11, Try.ntmps11
    go_wp2_with fail
    refine (live13_any _).mono ?_
    rintro er w1 ⟨rfl, hb1⟩
    have q1 : Below w.heap.size w w1 := new1.trans (hb1.mono (by simp))
    have HC1 : Hid (∀ j, w1.cell? ⟨w.heap.size, j, none⟩ = (#[s0, s1, s2, s3, s4, s5, s6, .slice pa ps.length pcap, .slice qa qs.length qcap, .slice ca cs.length ccap, s10, s11, s12, s13] : Array Value)[j]?) := Lib.hid fun j => (hb1.cell (p := ⟨w.heap.size, j, none⟩) (by simp)).trans (World.cell?_alloc_new _ _ _ _)
    have OK1 := Lib.hid (OK.out.below (Nat.le_refl _) q1)
    have hB1 := q1
    have y1 : w.heap.size < w1.heap.size := by have := hb1.size; simp at this; omega
    clear hb1 q1 OK
    obtain ⟨t0, t1, t2, t3, t4, t5, t6, t7, t8, t9, t10, t11, t12, t13⟩ := sn_cells HC1.out
    go_wp2_with fail
    refine (HU1.out _ OK1.out).mono ?_
    rintro er w2 ⟨rfl, hb2⟩
    have HC2 : Hid (∀ j, w2.cell? ⟨w.heap.size, j, none⟩ = (#[s0, s1, s2, s3, s4, s5, s6, .slice pa ps.length pcap, .slice qa qs.length qcap, .slice ca cs.length ccap, s10, s11, s12, s13] : Array Value)[j]?) := Lib.hid fun j => (hb2.cell (p := ⟨w.heap.size, j, none⟩) y1).trans (HC1.out j)
    have OK2 := Lib.hid (OK1.out.below (Nat.le_refl _) hb2)
    have z2 : w1.heap.size ≤ w2.heap.size := hb2.size
    have hB2 : Below w.heap.size w w2 := hB1.trans (hb2.mono hB1.size)
    have y2 : w.heap.size < w2.heap.size := by omega
    clear hb2 hB1 t0 t1 t2 t3 t4 t5 t6 t7 t8 t9 t10 t11 t12 t13 HC1 OK1
    clear HC2
    go_wp2_with fail
    go_ret
    exact ⟨rfl, by first | exact hB2 | exact hB2.alloc (by have := hB2.size; omega) _⟩

set_option maxRecDepth 100000 in
theorem usagePools_lifted (os : Os) (started : os.Started) (H : Type) (enc : TypeId × Value → H) :
    ReturnsInHanded {} Try.checked os 11 .any (Rows.usagePoolsSpec.pre6 enc Try.prog Try.f11 Rows.usagePoolsRow.domain false) (Rows.usagePoolsSpec.post enc Try.prog Try.f11 false true false false) := by
  refine returnsInHanded_of_change_sized (C := Try.checked) own started (by kernel_rfl) Try.func11
    (ChangeSpec.witness6 (enc := enc) (C := Try.checked) false ⟨#[], #[.agg #[.int .i64 0, .int .i64 0, .int .i64 0, .int .i64 0, .int .i64 0, .int .i64 0, .slice none 0 0, .slice none 0 0, .slice none 0 0, .slice none 0 0, .slice none 0 0, .slice none 0 0, .slice none 0 0, .slice none 0 0], .string .empty, .int .i64 0], []⟩ 8 (by kernel_rfl) (by kernel_rfl) (by kernel_rfl) (by kernel_rfl)) ?_
  intro W base args ds gs before hval0 hW hcnd hsz _
  have hval : ∀ (j : Nat) t v, Try.f11.params[j]? = some t → args[j]? = some v → Value.okWide Try.prog W .any base t v := hval0
  have hW' := hW
  obtain ⟨pp, qq, hA0, hV, rfl, hfz, hnd⟩ := hW
  have hA : DataW.TrodAll enc Try.prog W 0 (fun _ => true) true Try.f11.params.toList args.toList ds pp := hA0
  rw [Try.params11] at hA hval
  obtain ⟨v0, vs0, d0, ds0, p0, q0, hargs, rfl, rfl, k0, r0⟩ := trodAll_cons hA
  obtain ⟨v1, vs1, d1, ds1, p1, q1, rfl, rfl, rfl, k1, r1⟩ := trodAll_cons r0
  obtain ⟨v2, vs2, d2, ds2, p2, q2, rfl, rfl, rfl, k2, r2⟩ := trodAll_cons r1
  obtain ⟨rfl, rfl, rfl⟩ := trodAll_nil r2
  obtain rfl : args = #[v0, v1, v2] := by cases args; simp_all
  obtain ⟨rfl, rfl⟩ := trodVars_none hV
  have lt0 : ∀ x ∈ p0, x.block < W.heap.size := by obtain ⟨m, hm⟩ := k0; exact DataW.trod_lt m _ _ _ hm
  have lt1 : ∀ x ∈ p1, x.block < W.heap.size := by obtain ⟨m, hm⟩ := k1; exact DataW.trod_lt m _ _ _ hm
  have lt2 : ∀ x ∈ p2, x.block < W.heap.size := by obtain ⟨m, hm⟩ := k2; exact DataW.trod_lt m _ _ _ hm
  obtain ⟨n, rfl, hp1, hq1, hc1, hp2, hc2, hp3, hc3, parts, hd, hzp, hzq, hzc⟩ := open55 (hval 0 55 v0 rfl rfl) k0
  have hd' : _ = some (DataW.agg parts) := congrArg some hd
  obtain ⟨lp200, lp⟩ := len16 (j := 0) hsz rfl hd' (i := 3) (ft := 47) (by rw [Try.underlying55]; rfl) Try.underlying47 bytes76 (by decide) hzp
  obtain ⟨lq120, lq⟩ := len16 (j := 0) hsz rfl hd' (i := 4) (ft := 48) (by rw [Try.underlying55]; rfl) Try.underlying48 bytes71 (by decide) hzq
  obtain ⟨lc184, lc⟩ := len16 (j := 0) hsz rfl hd' (i := 5) (ft := 49) (by rw [Try.underlying55]; rfl) Try.underlying49 bytes62 (by decide) hzc
  have hok : n.Ok W := ⟨hp1, hq1, hc1, lp, lq, lc⟩
  obtain ⟨s, rfl⟩ := okWide_string Try.underlying9 (hval 1 9 v1 rfl rfl)
  obtain ⟨m, rfl⟩ := okWide_int Try.underlying3 (hval 2 3 v2 rfl rfl)
  clear hA0 hval0
  refine (usagePools_walk n s m W hok hc2 hc3 lc184).mono fun e W' ⟨he, bel⟩ => ?_
  subst he
  exact ⟨_, rfl, _, _, _, [], _, [], hW', trodAll_mk1 (shut_bool Try.underlying4 _), (trodAll_cons_mk (Below.trod laidOut (by kernel_rfl) (of_decide_eq_true (by kernel_rfl)) k0 bel lt0) (trodAll_cons_mk (Below.trod laidOut (by kernel_rfl) (of_decide_eq_true (by kernel_rfl)) k1 bel lt1) (trodAll_cons_mk (Below.trod laidOut (by kernel_rfl) (of_decide_eq_true (by kernel_rfl)) k2 bel lt2) trodAll_mk0))), rfl, bel.frame _, fun h => by cases h⟩

theorem usagePools_over : Rows.usagePoolsRow.holds Try.pinned (OpenSpec.ofChange Rows.usagePoolsSpec) :=
  OpenClaim.holds_of_wide 11 Try.f11 rfl rfl rfl rfl rfl rfl rfl ⟨rfl, rfl, rfl, rfl, rfl⟩ rfl rfl rfl rfl rfl (by kernel_rfl) Try.func11 (by kernel_rfl)
    (of_decide_eq_true (by kernel_rfl)) (by unfold Func.isWrapper; first | (rw [if_pos (by decide +kernel)]; kernel_rfl) | (rw [if_neg (by decide +kernel)]; exact ⟨rfl, rfl⟩))
    (fun os started H enc _ => usagePools_lifted os started H enc)

theorem usagePools_holds : Rows.UsagePoolsSaid := usagePools_over

end Go.Proofs.Ytnaphpgbmjpicaa
