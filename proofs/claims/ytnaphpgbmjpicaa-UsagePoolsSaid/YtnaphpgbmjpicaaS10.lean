/- A pod less uses no more, and frees no less: UsageLess answers true. No condition. -/
import Derived.Test.YtnaphpgbmjpicaaP11
namespace Go.Proofs.Ytnaphpgbmjpicaa
open Go.ChangeShapes Go.WideShapes Go.ChangeAt Go.RowKit
attribute [local go_sem] eqIn26 eqG26 run_store_one RegRel.relUpon RegRel.opOk

theorem info76 : (Try.prog.info? 76).map (fun i => (i.zero, i.size, i.bytes)) = some (some (.agg #[.string .empty, .string .empty, .int .i64 0, .int .i64 0, .int .i64 0, .slice none 0 0, .slice none 0 0, .slice none 0 0, .slice none 0 0, .slice none 0 0, .int .i64 0, .string .empty]), 12, 200) := by kernel_rfl

theorem own_set {e : TypeId} {size n B : Nat} {xs : List Value} {v : Value} {w : World} (h : w.ownsRow B e size v n xs) {p : Addr} (hp : p.block < B) (u : Value) : (w.setCell p u).ownsRow B e size v n xs := by
  refine h.kept (row := some p.block) ⟨rfl, rfl, rfl, by simp [World.setCell], fun k _ hne => Below.heap_setCell _ _ _ _ (by simpa using hne)⟩ ?_
  cases hv : v.ownBlock with
  | none => exact .inl rfl
  | some g => exact .inr (fun e => by have := (h.lt g hv).1; cases e; omega)

set_option maxRecDepth 100000 in
set_option maxHeartbeats 8000000 in
theorem usageLess_walk (n : Sn) (s : ByteArray) (m : Int) (w : World) (hA : n.Ok w) (hpa : n.pa = none → n.ps.length = 0 ∧ n.pcap = 0) (hcap : n.ps.length ≤ n.pcap) (hsz200 : n.ps.length * 200 ≤ 140737488355328) :
    Calls Try.prog 13 #[n.val, .string s, .int .i64 m] w fun e w' => e = .returned (.bool true) ∧ Below w.heap.size w w' := by
  have U1 := fun (w : World) (h : n.Ok w) => used_any n s w h
  have F1 := fun (w : World) (h : n.Ok w) => free_any n s w h
  obtain ⟨a0, a1, ae, hR⟩ : ∃ r0 r1 re, usedOf n s = (r0, r1, re) := ⟨_, _, _, rfl⟩
  obtain ⟨f0, f1, fe, hF⟩ : ∃ r0 r1 re, freeOf n s = (r0, r1, re) := ⟨_, _, _, rfl⟩
  rw [hR] at U1
  rw [hF] at F1
  obtain ⟨s0, s1, s2, s3, s4, s5, s6, pa, ps, pcap, qa, qs, qcap, ca, cs, ccap, s10, s11, s12, s13, k0, k1, k2, k3, k4, k5, k6, k10, k11, k12, k13⟩ := n
  have OK := Lib.hid hA
  have HR := Lib.hid hR
  have HFR := Lib.hid hF
  clear hA hR hF
  dsimp only at hpa hcap hsz200
  show Calls Try.prog 13 #[.agg #[s0, s1, s2, s3, s4, s5, s6, .slice pa ps.length pcap, .slice qa qs.length qcap, .slice ca cs.length ccap, s10, s11, s12, s13], .string s, .int .i64 m] w _
  have HU1 : Hid (∀ (w : World), Sn.Ok ⟨s0, s1, s2, s3, s4, s5, s6, pa, ps, pcap, qa, qs, qcap, ca, cs, ccap, s10, s11, s12, s13, k0, k1, k2, k3, k4, k5, k6, k10, k11, k12, k13⟩ w → Calls Try.prog 34 #[.agg #[s0, s1, s2, s3, s4, s5, s6, .slice pa ps.length pcap, .slice qa qs.length qcap, .slice ca cs.length ccap, s10, s11, s12, s13], .string s] w fun e w' => e = .returned (.tuple #[.agg #[.int .i64 a0, .int .i64 a1], .int .i64 ae]) ∧ Below w.heap.size w w') := Lib.hid U1
  have HF1 : Hid (∀ (w : World), Sn.Ok ⟨s0, s1, s2, s3, s4, s5, s6, pa, ps, pcap, qa, qs, qcap, ca, cs, ccap, s10, s11, s12, s13, k0, k1, k2, k3, k4, k5, k6, k10, k11, k12, k13⟩ w → Calls Try.prog 36 #[.agg #[s0, s1, s2, s3, s4, s5, s6, .slice pa ps.length pcap, .slice qa qs.length qcap, .slice ca cs.length ccap, s10, s11, s12, s13], .string s] w fun e w' => e = .returned (.tuple #[.agg #[.int .i64 f0, .int .i64 f1], .int .i64 fe]) ∧ Below w.heap.size w w') := Lib.hid F1
  clear U1 F1
  have hl2 : ps.length * 200 ≤ 140737488355328 := hsz200
  have hl1 : ps.length ≤ 4611686018427387904 := by have := OK.out.lp; dsimp only at this; omega
  rcases hae : (ae != 0) with _ | _
  · rcases hfe : (fe != 0) with _ | _
    · rcases hlen : (((ps.length : Int)) == 0) with _ | _
      · have e0 : ae = 0 := by simpa using hae
        have e1 : fe = 0 := by simpa using hfe
        have hpos : 0 < ps.length := by
          have h : ¬ ((ps.length : Int) = 0) := by simpa using hlen
          omega
        subst e0; subst e1
        go_enter Try.func13, Try.ntmps13
        go_wp2_with fail
        refine (live13_any _).mono ?_
        rintro er w1 ⟨rfl, hb1⟩
        have q1 : Below w.heap.size w w1 := new1.trans (hb1.mono (by simp))
        have HC1 : Hid (∀ j, w1.cell? ⟨w.heap.size, j, none⟩ = (#[s0, s1, s2, s3, s4, s5, s6, .slice pa ps.length pcap, .slice qa qs.length qcap, .slice ca cs.length ccap, s10, s11, s12, s13] : Array Value)[j]?) := Lib.hid fun j => (hb1.cell (p := ⟨w.heap.size, j, none⟩) (by simp)).trans (World.cell?_alloc_new _ _ _ _)
        have OK1 := Lib.hid (OK.out.below (Nat.le_refl _) q1)
        have hB1 := q1
        have y1 : w.heap.size < w1.heap.size := by have := hb1.size; simp at this; omega
        clear hb1 q1 OK
        obtain ⟨t0, t1, t2, t3, t4, t5, t6, t7, t8, t9, t10, t11, t12, t13⟩ := sn_cells HC1.out
        go_wp2_with fail
        refine (HU1.out _ OK1.out).mono ?_
        rintro er w2 ⟨rfl, hb2⟩
        have HC2 : Hid (∀ j, w2.cell? ⟨w.heap.size, j, none⟩ = (#[s0, s1, s2, s3, s4, s5, s6, .slice pa ps.length pcap, .slice qa qs.length qcap, .slice ca cs.length ccap, s10, s11, s12, s13] : Array Value)[j]?) := Lib.hid fun j => (hb2.cell (p := ⟨w.heap.size, j, none⟩) y1).trans (HC1.out j)
        have OK2 := Lib.hid (OK1.out.below (Nat.le_refl _) hb2)
        have z2 : w1.heap.size ≤ w2.heap.size := hb2.size
        have hB2 : Below w.heap.size w w2 := hB1.trans (hb2.mono hB1.size)
        have y2 : w.heap.size < w2.heap.size := by omega
        clear hb2 hB1 t0 t1 t2 t3 t4 t5 t6 t7 t8 t9 t10 t11 t12 t13 HC1 OK1
        obtain ⟨t0, t1, t2, t3, t4, t5, t6, t7, t8, t9, t10, t11, t12, t13⟩ := sn_cells HC2.out
        go_wp2_with fail
        refine (HF1.out _ (OK2.out.below (Nat.le_refl _) new1)).mono ?_
        rintro er w3 ⟨rfl, hb3⟩
        have q3 : Below w2.heap.size w2 w3 := new1.trans (hb3.mono (by simp))
        obtain ⟨u2, v2⟩ := box1 hb3
        have HC3 : Hid (∀ j, w3.cell? ⟨w.heap.size, j, none⟩ = (#[s0, s1, s2, s3, s4, s5, s6, .slice pa ps.length pcap, .slice qa qs.length qcap, .slice ca cs.length ccap, s10, s11, s12, s13] : Array Value)[j]?) := Lib.hid fun j => (q3.cell (p := ⟨w.heap.size, j, none⟩) y2).trans (HC2.out j)
        have OK3 := Lib.hid (OK2.out.below (Nat.le_refl _) q3)
        have z3 : w2.heap.size < w3.heap.size := by have := hb3.size; simp at this; omega
        have hB3 : Below w.heap.size w w3 := hB2.trans (q3.mono hB2.size)
        have y3 : w.heap.size < w3.heap.size := by omega
        clear hb3 q3 hB2 t0 t1 t2 t3 t4 t5 t6 t7 t8 t9 t10 t11 t12 t13 HC2 OK2
        obtain ⟨t0, t1, t2, t3, t4, t5, t6, t7, t8, t9, t10, t11, t12, t13⟩ := sn_cells HC3.out
        go_wp2_with fail
        go_quiet (fail)
        obtain ⟨k, hk, hkv⟩ := which_at m hpos (by omega)
        rw [hkv]
        obtain ⟨t0, t1, t2, t3, t4, t5, t6, t7, t8, t9, t10, t11, t12, t13⟩ := sn_cells HC3.out
        obtain ⟨b, off, hpe⟩ : ∃ b off, pa = some ⟨b, off, none⟩ := by
          obtain ⟨b, off, e, _⟩ := OK3.out.pods.pd hk
          exact ⟨b, off, e⟩
        subst hpe
        go_wp2_with fail
        generalize hW8 : (World.alloc (World.drewN (World.alloc w3 _) _) _) = W8
        obtain ⟨i0, hi, hz0, hz1, hz2⟩ := info_parts info76
        have HI := Lib.hid hi
        have HZ0 := Lib.hid hz0
        have HZ1 := Lib.hid hz1
        have HZ2 := Lib.hid hz2
        clear hi hz0 hz1 hz2
        have tW : W8.cell? ⟨w.heap.size, 7, none⟩ = some (.slice (some ⟨b, off, none⟩) ps.length pcap) := by
          rw [← hW8, World.cell?_alloc_lt _ _ _ (by simp; omega)]
          exact (World.cell?_alloc_lt _ _ _ y3).trans t7
        have yW : w.heap.size < W8.heap.size := by rw [← hW8]; simp; omega
        have hRw : Rw W8 (some ⟨b, off, none⟩) 12 ((ps.take k).map Pd.cells) := by
          have h := OK3.out.pods.below (Nat.le_refl _) (show Below w3.heap.size w3 W8 by rw [← hW8]; exact (below_drewN new1 _).alloc (by simp) _)
          rw [List.map_take]; exact h.take k
        have RW8 := Lib.hid hRw
        clear hRw
        obtain ⟨A9, hA9⟩ : ∃ A9, (if pcap = k + 1 then some (⟨b, off, none⟩ : Addr) else some ⟨b, off + (k + 1) * 12, none⟩) = A9 := ⟨_, rfl⟩
        refine RegRel.wp_region_bel 10 4 (by kernel_rfl) (by kernel_rfl) [RegRel.is (.pointer (some ⟨w.heap.size, 7, none⟩)), RegRel.is (.slice (some ⟨b, off, none⟩) ps.length pcap), RegRel.is (.int .i64 k), RegRel.is (.slice (some ⟨b, off, none⟩) k pcap), ⟨none, fun v _ w' => w'.ownsRow W8.heap.size 76 12 v k ((ps.take k).flatMap Pd.cells)⟩,
          RegRel.is (.pointer (some ⟨w.heap.size, 7, none⟩)), RegRel.is (.slice (some ⟨b, off, none⟩) ps.length pcap), RegRel.is (.int .i64 k), RegRel.is (.int .i64 ((k : Int) + 1)), RegRel.is (.slice A9 (ps.length - (k + 1)) (pcap - (k + 1)))] ?_ rfl (by kernel_rfl) ?_ ?_
        · have hs : RegRel.Stable (fun v (_ : Value) w' => World.ownsRow w' W8.heap.size 76 12 v k ((ps.take k).flatMap Pd.cells)) := fun v v' w w' hb h => own_stable hb h
          simp [RegRel.AllStable, RegRel.stable_is, RegRel.tough_is, hs]
        · simp only [List.take_succ_cons, List.take_zero, RegRel.OpsOk, RegRel.puts]
          refine ⟨?_, ?_, ?_, ?_, ?_, ?_, ?_, ?_, ?_, ?_, trivial⟩
          rotate_left 4
          · intro u w' hC hD
            simp [RegRel.DepsOk, Region.binds, RegRel.ent, RegRel.is] at hD
            obtain ⟨v', w2, hr, hown, hgr, _⟩ := run_append_own (P := Try.prog) w' W8.heap.size 47 47 76 i0 _ 12 200 Try.underlying47 HI.out HZ0.out HZ1.out HZ2.out rfl (by decide) (.slice none 0 0) 0 [] (World.ownsRow_nil _ _ _ _) ⟨b, off, none⟩ k pcap ((ps.take k).flatMap Pd.cells)
              (by rw [rows_len pd_len, List.length_take, Nat.min_eq_left (by omega)]) (rw_news pd_len (by decide) (RW8.out.below (Nat.le_refl _) hC) _ rfl) (pd_one _) (by unfold maxLen; omega) (by omega) hC.size
            rw [Nat.zero_add] at hown
            rw [List.nil_append] at hown
            unfold RegRel.opOk
            rw [if_pos (by simp [Region.wanted])]
            unfold execOp
            simp [resolve, invoke, builtin, hD, hr, Act.eval, Act.put, RegRel.relUpon, Result.andThen, RegRel.ent, RegRel.step, RegRel.upd]
            have hbl : Below w'.heap.size w' w2 := ⟨hgr.os, hgr.tape, hgr.output, hgr.size, fun k hk => hgr.block k hk (by simp [Value.ownBlock])⟩
            exact ⟨hown, hbl.mono hC.size, RegRel.Shaped.of_below hbl⟩
          all_goals
            intro u w' hC hD
            try simp [RegRel.DepsOk, Region.binds, RegRel.ent, RegRel.is] at hD
            have e1 := (hC.cell (p := ⟨w.heap.size, 7, none⟩) yW).trans tW
            go_simp
          all_goals (try simp [RegRel.ent, RegRel.is, RegRel.step, RegRel.upd, Below.refl])
          · exact (IntWalk.i64_left _).trans (IntWalk.wrap64_in _ (by omega))
          · rw [if_pos (by omega)]
            simp [RegRel.relUpon, RegRel.step, Below.refl]
          · rw [if_pos (by omega)]
            simp [RegRel.relUpon, RegRel.step, Below.refl]
        · intro u w9 hC hv
          simp only [List.take_succ_cons, List.take_zero, List.drop_succ_cons, List.drop_zero, RegRel.puts]
          simp [RegRel.allV, RegRel.is] at hv
          obtain ⟨g0, g1, g2, g3, v4, g5, g6, g7, g8, g9⟩ := hv
          have hRd : Rw w9 A9 12 ((ps.drop (k + 1)).map Pd.cells) := by
            rw [← hA9]
            split
            · have e : ps.drop (k + 1) = [] := List.drop_eq_nil_of_le (by omega)
              rw [e]
              exact fun i r hr => by simp at hr
            · rw [List.map_drop]
              have h := OK3.out.pods.below (Nat.le_refl _) (show Below w3.heap.size w3 W8 by rw [← hW8]; exact (below_drewN new1 _).alloc (by simp) _)
              exact (h.below (Nat.le_refl _) hC).drop (k + 1)
          have hAn : A9 = none → ps.length - (k + 1) = 0 ∧ pcap - (k + 1) = 0 := by
            rintro rfl
            split at hA9 <;> cases hA9
          have OK8 : Sn.Ok ⟨s0, s1, s2, s3, s4, s5, s6, some ⟨b, off, none⟩, ps, pcap, qa, qs, qcap, ca, cs, ccap, s10, s11, s12, s13, k0, k1, k2, k3, k4, k5, k6, k10, k11, k12, k13⟩ W8 := OK3.out.below (Nat.le_refl _) (show Below w3.heap.size w3 W8 by rw [← hW8]; exact (below_drewN new1 _).alloc (by simp) _)
          have z8 : W8.heap.size = w3.heap.size + 2 := by rw [← hW8]; simp
          have T8 : ∀ j, W8.cell? ⟨w3.heap.size + 1, j, none⟩ = (#[s0, s1, s2, s3, s4, s5, s6, .slice (some ⟨b, off, none⟩) ps.length pcap, .slice qa qs.length qcap, .slice ca cs.length ccap, s10, s11, s12, s13] : Array Value)[j]? := fun j => by
            rw [← hW8, World.cell?_alloc_at _ _ _ _ (by simp)]
          have T8f : ∀ j, W8.frozen? ⟨w3.heap.size + 1, j, none⟩ = false := fun j => by
            rw [← hW8, World.frozen?_alloc_at _ _ _ _ (by simp)]
          have a80 : W8.cell? ⟨w2.heap.size, 0, none⟩ = some (.int .i64 a0) := by
            rw [← hW8, World.cell?_alloc_lt _ _ _ (by simp; omega)]
            exact (World.cell?_alloc_lt _ _ _ z3).trans u2
          have a81 : W8.cell? ⟨w2.heap.size, 1, none⟩ = some (.int .i64 a1) := by
            rw [← hW8, World.cell?_alloc_lt _ _ _ (by simp; omega)]
            exact (World.cell?_alloc_lt _ _ _ z3).trans v2
          have f80 : W8.cell? ⟨w3.heap.size, 0, none⟩ = some (.int .i64 f0) := by
            rw [← hW8, World.cell?_alloc_lt _ _ _ (by simp)]
            exact (World.cell?_alloc_new _ _ _ _).trans rfl
          have f81 : W8.cell? ⟨w3.heap.size, 1, none⟩ = some (.int .i64 f1) := by
            rw [← hW8, World.cell?_alloc_lt _ _ _ (by simp)]
            exact (World.cell?_alloc_new _ _ _ _).trans rfl
          have hB8 : Below w.heap.size w W8 := by
            rw [← hW8]; exact (below_drewN (hB3.alloc hB3.size _) _).alloc (by have := hB3.size; simp; omega) _
          have h38 : Below w3.heap.size w3 W8 := by rw [← hW8]; exact (below_drewN new1 _).alloc (by simp) _
          clear t0 t1 t2 t3 t4 t5 t6 t7 t8 t9 t10 t11 t12 t13 HC3 hW8 tW RW8 hA9
          have RD := Lib.hid hRd
          have AN := Lib.hid hAn
          have TC8 := Lib.hid T8
          have TF8 := Lib.hid T8f
          have OW8 := Lib.hid OK8
          clear hRd hAn T8 T8f OK8
          have hsz9 : W8.heap.size ≤ w9.heap.size := hC.size
          go_wp2_with (at_builtin; refine wpList_append_all rfl _ _ 47 rfl W8.heap.size 76 i0 _ 12 200 Try.underlying47 HI.out HZ0.out HZ1.out HZ2.out rfl (by decide) (u 4) k ((ps.take k).flatMap Pd.cells) ?ce v4 A9 (ps.length - (k + 1)) (pcap - (k + 1)) ((ps.drop (k + 1)).flatMap Pd.cells) ?cx ?c0 ?c1 ?c2 ?c3 ?c4 ?c5 ?c6 ?_)
          case ce => go_simp
          case cx => go_simp
          case c0 => exact AN.out
          case c1 => rw [rows_len pd_len, List.length_drop]
          case c2 => exact rw_news pd_len (by decide) RD.out
          case c3 => exact pd_one _
          case c4 => unfold maxLen; omega
          case c5 => omega
          case c6 => exact hsz9
          intro v' wA hown hgrow
          obtain ⟨NP, hNP⟩ : ∃ NP, ps.take k ++ ps.drop (k + 1) = NP := ⟨_, rfl⟩
          have hNl : k + (ps.length - (k + 1)) = NP.length := by rw [← hNP]; simp; omega
          rw [← List.flatMap_append, hNP, hNl] at hown
          have hbA : Below W8.heap.size W8 wA := hC.grown hgrow hsz9 (fun g hg => (v4.lt g hg).1)
          obtain ⟨A2, cap2, rfl, -⟩ := own_rw pd_len hown
          obtain ⟨W, hW⟩ : ∃ W : World, W = wA.setCell ⟨w3.heap.size + 1, 7, none⟩ (.slice A2 NP.length cap2) := ⟨_, rfl⟩
          have hRn : Rw W A2 12 (NP.map Pd.cells) := by
            rw [hW]
            obtain ⟨a', c', e', h'⟩ := own_rw pd_len (own_set hown (p := ⟨w3.heap.size + 1, 7, none⟩) (by show w3.heap.size + 1 < _; omega) (.slice A2 NP.length cap2))
            cases e'
            exact h'
          have gA : wA.frozen? ⟨w3.heap.size + 1, 7, none⟩ = false := (hbA.frozen (p := ⟨w3.heap.size + 1, 7, none⟩) (by show w3.heap.size + 1 < _; omega)).trans (TF8.out 7)
          have TA : ∀ j, wA.cell? ⟨w3.heap.size + 1, j, none⟩ = (#[s0, s1, s2, s3, s4, s5, s6, .slice (some ⟨b, off, none⟩) ps.length pcap, .slice qa qs.length qcap, .slice ca cs.length ccap, s10, s11, s12, s13] : Array Value)[j]? := fun j => (hbA.cell (p := ⟨w3.heap.size + 1, j, none⟩) (by show w3.heap.size + 1 < _; omega)).trans (TC8.out j)
          have b3 : Below w3.heap.size w3 W := by rw [hW]; exact (h38.trans (hbA.mono (by omega))).setCell (by simp) _
          have b8 : Below (w3.heap.size + 1) W8 W := by rw [hW]; exact (hbA.mono (by omega)).setCell (by simp) _
          have TW : ∀ j, W.cell? ⟨w3.heap.size + 1, j, none⟩ = (#[s0, s1, s2, s3, s4, s5, s6, .slice A2 NP.length cap2, .slice qa qs.length qcap, .slice ca cs.length ccap, s10, s11, s12, s13] : Array Value)[j]? := fun j => by
            rw [hW]
            by_cases hj : j = 7
            · subst hj
              exact World.cell?_setCell_same _ _ _ (TA 7)
            · rw [World.cell?_setCell_other _ _ _ _ (by intro h; cases h; exact hj rfl), TA j]
              rcases j with _ | _ | _ | _ | _ | _ | _ | _ | j <;> first | rfl | exact absurd rfl hj
          obtain ⟨t0, t1, t2, t3, t4, t5, t6, t7, t8, t9, t10, t11, t12, t13⟩ := sn_cells TA
          clear TA
          obtain ⟨x0, x1⟩ := carry1 b3 z3 u2 v2
          obtain ⟨y0, y1⟩ := carry1 b8 (by omega) f80 f81
          have zW : w3.heap.size + 1 < W.heap.size := by have := b8.size; omega
          have hBW : Below w.heap.size w W := hB3.trans (b3.mono hB3.size)
          obtain ⟨c0, c1, d0, d1, hU2, hF2, hfc, hfd⟩ := less_plain (n := ⟨s0, s1, s2, s3, s4, s5, s6, some ⟨b, off, none⟩, ps, pcap, qa, qs, qcap, ca, cs, ccap, s10, s11, s12, s13, k0, k1, k2, k3, k4, k5, k6, k10, k11, k12, k13⟩) (s := s) hk A2 cap2 HR.out HFR.out
          dsimp only at hU2 hF2
          rw [hNP] at hU2 hF2
          have OW : Sn.Ok ⟨s0, s1, s2, s3, s4, s5, s6, A2, NP, cap2, qa, qs, qcap, ca, cs, ccap, s10, s11, s12, s13, k0, k1, k2, k3, k4, k5, k6, k10, k11, k12, k13⟩ W := by
            have h := OK3.out.below (Nat.le_refl _) b3
            exact ⟨hRn, h.pools, h.claims, by have := h.lp; dsimp only at this ⊢; omega, h.lq, h.lc⟩
          have U2 := fun (w : World) (h : Sn.Ok ⟨s0, s1, s2, s3, s4, s5, s6, A2, NP, cap2, qa, qs, qcap, ca, cs, ccap, s10, s11, s12, s13, k0, k1, k2, k3, k4, k5, k6, k10, k11, k12, k13⟩ w) => used_any _ s w h
          have F2 := fun (w : World) (h : Sn.Ok ⟨s0, s1, s2, s3, s4, s5, s6, A2, NP, cap2, qa, qs, qcap, ca, cs, ccap, s10, s11, s12, s13, k0, k1, k2, k3, k4, k5, k6, k10, k11, k12, k13⟩ w) => free_any _ s w h
          rw [show usedOf ⟨s0, s1, s2, s3, s4, s5, s6, A2, NP, cap2, qa, qs, qcap, ca, cs, ccap, s10, s11, s12, s13, k0, k1, k2, k3, k4, k5, k6, k10, k11, k12, k13⟩ s = (c0, c1, 0) from hU2] at U2
          rw [show freeOf ⟨s0, s1, s2, s3, s4, s5, s6, A2, NP, cap2, qa, qs, qcap, ca, cs, ccap, s10, s11, s12, s13, k0, k1, k2, k3, k4, k5, k6, k10, k11, k12, k13⟩ s = (d0, d1, 0) from hF2] at F2
          have HU2 : Hid (∀ (w : World), Sn.Ok ⟨s0, s1, s2, s3, s4, s5, s6, A2, NP, cap2, qa, qs, qcap, ca, cs, ccap, s10, s11, s12, s13, k0, k1, k2, k3, k4, k5, k6, k10, k11, k12, k13⟩ w → Calls Try.prog 34 #[.agg #[s0, s1, s2, s3, s4, s5, s6, .slice A2 NP.length cap2, .slice qa qs.length qcap, .slice ca cs.length ccap, s10, s11, s12, s13], .string s] w fun e w' => e = .returned (.tuple #[.agg #[.int .i64 c0, .int .i64 c1], .int .i64 0]) ∧ Below w.heap.size w w') := Lib.hid U2
          have HF2 : Hid (∀ (w : World), Sn.Ok ⟨s0, s1, s2, s3, s4, s5, s6, A2, NP, cap2, qa, qs, qcap, ca, cs, ccap, s10, s11, s12, s13, k0, k1, k2, k3, k4, k5, k6, k10, k11, k12, k13⟩ w → Calls Try.prog 36 #[.agg #[s0, s1, s2, s3, s4, s5, s6, .slice A2 NP.length cap2, .slice qa qs.length qcap, .slice ca cs.length ccap, s10, s11, s12, s13], .string s] w fun e w' => e = .returned (.tuple #[.agg #[.int .i64 d0, .int .i64 d1], .int .i64 0]) ∧ Below w.heap.size w w') := Lib.hid F2
          have FC := Lib.hid hfc
          have FD := Lib.hid hfd
          have OKW := Lib.hid OW
          have TCW := Lib.hid TW
          clear hRn hown hgrow hC v4 RD AN g0 g1 g2 g3 g5 g6 g7 g8 g9 a80 a81 f80 f81 TC8 TF8 OK3 h38 hbA U2 F2 hU2 hF2 hfc hfd OW TW b3 b8 hB3 hB8 u2 v2 hNP OW8 HU1 HF1 HR HFR
          go_wp2_with fail
          rw [← hW]
          clear t0 t1 t2 t3 t4 t5 t6 t7 t8 t9 t10 t11 t12 t13 gA
          refine (HU2.out _ OKW.out).mono ?_
          rintro er w4 ⟨rfl, hb4⟩
          obtain ⟨x2, x3⟩ := carry1 hb4 (by omega) x0 x1
          obtain ⟨y2, y3⟩ := carry1 hb4 (by omega) y0 y1
          have TC4 : Hid (∀ j, w4.cell? ⟨w3.heap.size + 1, j, none⟩ = (#[s0, s1, s2, s3, s4, s5, s6, .slice A2 NP.length cap2, .slice qa qs.length qcap, .slice ca cs.length ccap, s10, s11, s12, s13] : Array Value)[j]?) := Lib.hid fun j => (hb4.cell (p := ⟨w3.heap.size + 1, j, none⟩) zW).trans (TCW.out j)
          have OK4 := Lib.hid (OKW.out.below (Nat.le_refl _) hb4)
          have hB4 : Below w.heap.size w w4 := hBW.trans (hb4.mono hBW.size)
          have z4 : W.heap.size ≤ w4.heap.size := hb4.size
          clear hb4 x0 x1 y0 y1 TCW OKW hBW hW
          have z44 : w3.heap.size + 1 < w4.heap.size := by omega
          have z43 : w3.heap.size < w4.heap.size := by omega
          have z42 : w2.heap.size < w4.heap.size := by omega
          obtain ⟨t0, t1, t2, t3, t4, t5, t6, t7, t8, t9, t10, t11, t12, t13⟩ := sn_cells TC4.out
          go_wp2_with fail
          refine (HF2.out _ (OK4.out.below (Nat.le_refl _) new1)).mono ?_
          rintro er w5 ⟨rfl, hb5⟩
          have q5 : Below w4.heap.size w4 w5 := new1.trans (hb5.mono (by simp))
          obtain ⟨c50, c51⟩ := box1 hb5
          obtain ⟨x4, x5⟩ := carry1 q5 z42 x2 x3
          obtain ⟨y4, y5⟩ := carry1 q5 z43 y2 y3
          have z5 : w4.heap.size < w5.heap.size := by have := hb5.size; simp at this; omega
          have hB5 : Below w.heap.size w w5 := hB4.trans (q5.mono hB4.size)
          clear hb5 q5 TC4 OK4 hB4 t0 t1 t2 t3 t4 t5 t6 t7 t8 t9 t10 t11 t12 t13 x2 x3 y2 y3
          have z52 : w2.heap.size < w5.heap.size := by omega
          have z53 : w3.heap.size < w5.heap.size := by omega
          go_wp2_with fail
          refine (fits_any _ _ _ _ _).mono ?_
          rintro er w6 ⟨rfl, hb6⟩
          rw [FC.out]
          have q6 : Below w5.heap.size w5 w6 := new1.trans (hb6.mono (by simp))
          obtain ⟨x6, x7⟩ := carry1 q6 z52 x4 x5
          obtain ⟨y6, y7⟩ := carry1 q6 z53 y4 y5
          obtain ⟨e60, e61⟩ := box1 hb6
          have z6 : w5.heap.size < w6.heap.size := by have := hb6.size; simp at this; omega
          have hB6 : Below w.heap.size w w6 := hB5.trans (q6.mono hB5.size)
          clear hb6 q6 x4 x5 y4 y5 hB5
          go_wp2_with fail
          refine (fits_any _ _ _ _ _).mono ?_
          rintro er w7 ⟨rfl, hb7⟩
          rw [FD.out]
          have hB7 : Below w.heap.size w w7 := hB6.trans (hb7.mono hB6.size)
          clear hb7 hB6
          go_wp2_with fail
          go_ret
          exact ⟨rfl, by first | exact hB7 | exact hB7.alloc (by have := hB7.size; omega) _⟩
      · have e0 : ae = 0 := by simpa using hae
        have e1 : fe = 0 := by simpa using hfe
        subst e0; subst e1
        go_enter Try.func13, Try.ntmps13
        go_wp2_with fail
        refine (live13_any _).mono ?_
        rintro er w1 ⟨rfl, hb1⟩
        have q1 : Below w.heap.size w w1 := new1.trans (hb1.mono (by simp))
        have HC1 : Hid (∀ j, w1.cell? ⟨w.heap.size, j, none⟩ = (#[s0, s1, s2, s3, s4, s5, s6, .slice pa ps.length pcap, .slice qa qs.length qcap, .slice ca cs.length ccap, s10, s11, s12, s13] : Array Value)[j]?) := Lib.hid fun j => (hb1.cell (p := ⟨w.heap.size, j, none⟩) (by simp)).trans (World.cell?_alloc_new _ _ _ _)
        have OK1 := Lib.hid (OK.out.below (Nat.le_refl _) q1)
        have hB1 := q1
        have y1 : w.heap.size < w1.heap.size := by have := hb1.size; simp at this; omega
        clear hb1 q1 OK
        obtain ⟨t0, t1, t2, t3, t4, t5, t6, t7, t8, t9, t10, t11, t12, t13⟩ := sn_cells HC1.out
        go_wp2_with fail
        refine (HU1.out _ OK1.out).mono ?_
        rintro er w2 ⟨rfl, hb2⟩
        have HC2 : Hid (∀ j, w2.cell? ⟨w.heap.size, j, none⟩ = (#[s0, s1, s2, s3, s4, s5, s6, .slice pa ps.length pcap, .slice qa qs.length qcap, .slice ca cs.length ccap, s10, s11, s12, s13] : Array Value)[j]?) := Lib.hid fun j => (hb2.cell (p := ⟨w.heap.size, j, none⟩) y1).trans (HC1.out j)
        have OK2 := Lib.hid (OK1.out.below (Nat.le_refl _) hb2)
        have z2 : w1.heap.size ≤ w2.heap.size := hb2.size
        have hB2 : Below w.heap.size w w2 := hB1.trans (hb2.mono hB1.size)
        have y2 : w.heap.size < w2.heap.size := by omega
        clear hb2 hB1 t0 t1 t2 t3 t4 t5 t6 t7 t8 t9 t10 t11 t12 t13 HC1 OK1
        obtain ⟨t0, t1, t2, t3, t4, t5, t6, t7, t8, t9, t10, t11, t12, t13⟩ := sn_cells HC2.out
        go_wp2_with fail
        refine (HF1.out _ (OK2.out.below (Nat.le_refl _) new1)).mono ?_
        rintro er w3 ⟨rfl, hb3⟩
        have q3 : Below w2.heap.size w2 w3 := new1.trans (hb3.mono (by simp))
        obtain ⟨u2, v2⟩ := box1 hb3
        have HC3 : Hid (∀ j, w3.cell? ⟨w.heap.size, j, none⟩ = (#[s0, s1, s2, s3, s4, s5, s6, .slice pa ps.length pcap, .slice qa qs.length qcap, .slice ca cs.length ccap, s10, s11, s12, s13] : Array Value)[j]?) := Lib.hid fun j => (q3.cell (p := ⟨w.heap.size, j, none⟩) y2).trans (HC2.out j)
        have OK3 := Lib.hid (OK2.out.below (Nat.le_refl _) q3)
        have z3 : w2.heap.size < w3.heap.size := by have := hb3.size; simp at this; omega
        have hB3 : Below w.heap.size w w3 := hB2.trans (q3.mono hB2.size)
        have y3 : w.heap.size < w3.heap.size := by omega
        clear hb3 q3 hB2 t0 t1 t2 t3 t4 t5 t6 t7 t8 t9 t10 t11 t12 t13 HC2 OK2
        obtain ⟨t0, t1, t2, t3, t4, t5, t6, t7, t8, t9, t10, t11, t12, t13⟩ := sn_cells HC3.out
        go_wp2_with fail
        go_ret
        exact ⟨rfl, by first | exact hB3 | exact hB3.alloc (by have := hB3.size; omega) _⟩
    · have e0 : ae = 0 := by simpa using hae
      subst e0
      go_enter Try.func13, Try.ntmps13
      go_wp2_with fail
      refine (live13_any _).mono ?_
      rintro er w1 ⟨rfl, hb1⟩
      have q1 : Below w.heap.size w w1 := new1.trans (hb1.mono (by simp))
      have HC1 : Hid (∀ j, w1.cell? ⟨w.heap.size, j, none⟩ = (#[s0, s1, s2, s3, s4, s5, s6, .slice pa ps.length pcap, .slice qa qs.length qcap, .slice ca cs.length ccap, s10, s11, s12, s13] : Array Value)[j]?) := Lib.hid fun j => (hb1.cell (p := ⟨w.heap.size, j, none⟩) (by simp)).trans (World.cell?_alloc_new _ _ _ _)
      have OK1 := Lib.hid (OK.out.below (Nat.le_refl _) q1)
      have hB1 := q1
      have y1 : w.heap.size < w1.heap.size := by have := hb1.size; simp at this; omega
      clear hb1 q1 OK
      obtain ⟨t0, t1, t2, t3, t4, t5, t6, t7, t8, t9, t10, t11, t12, t13⟩ := sn_cells HC1.out
      go_wp2_with fail
      refine (HU1.out _ OK1.out).mono ?_
      rintro er w2 ⟨rfl, hb2⟩
      have HC2 : Hid (∀ j, w2.cell? ⟨w.heap.size, j, none⟩ = (#[s0, s1, s2, s3, s4, s5, s6, .slice pa ps.length pcap, .slice qa qs.length qcap, .slice ca cs.length ccap, s10, s11, s12, s13] : Array Value)[j]?) := Lib.hid fun j => (hb2.cell (p := ⟨w.heap.size, j, none⟩) y1).trans (HC1.out j)
      have OK2 := Lib.hid (OK1.out.below (Nat.le_refl _) hb2)
      have z2 : w1.heap.size ≤ w2.heap.size := hb2.size
      have hB2 : Below w.heap.size w w2 := hB1.trans (hb2.mono hB1.size)
      have y2 : w.heap.size < w2.heap.size := by omega
      clear hb2 hB1 t0 t1 t2 t3 t4 t5 t6 t7 t8 t9 t10 t11 t12 t13 HC1 OK1
      obtain ⟨t0, t1, t2, t3, t4, t5, t6, t7, t8, t9, t10, t11, t12, t13⟩ := sn_cells HC2.out
      go_wp2_with fail
      refine (HF1.out _ (OK2.out.below (Nat.le_refl _) new1)).mono ?_
      rintro er w3 ⟨rfl, hb3⟩
      have q3 : Below w2.heap.size w2 w3 := new1.trans (hb3.mono (by simp))
      obtain ⟨u2, v2⟩ := box1 hb3
      have HC3 : Hid (∀ j, w3.cell? ⟨w.heap.size, j, none⟩ = (#[s0, s1, s2, s3, s4, s5, s6, .slice pa ps.length pcap, .slice qa qs.length qcap, .slice ca cs.length ccap, s10, s11, s12, s13] : Array Value)[j]?) := Lib.hid fun j => (q3.cell (p := ⟨w.heap.size, j, none⟩) y2).trans (HC2.out j)
      have OK3 := Lib.hid (OK2.out.below (Nat.le_refl _) q3)
      have z3 : w2.heap.size < w3.heap.size := by have := hb3.size; simp at this; omega
      have hB3 : Below w.heap.size w w3 := hB2.trans (q3.mono hB2.size)
      have y3 : w.heap.size < w3.heap.size := by omega
      clear hb3 q3 hB2 t0 t1 t2 t3 t4 t5 t6 t7 t8 t9 t10 t11 t12 t13 HC2 OK2
      clear HC3
      go_wp2_with fail
      go_ret
      exact ⟨rfl, by first | exact hB3 | exact hB3.alloc (by have := hB3.size; omega) _⟩
  · skip
    go_enter Try.func13, Try.ntmps13
    go_wp2_with fail
    refine (live13_any _).mono ?_
    rintro er w1 ⟨rfl, hb1⟩
    have q1 : Below w.heap.size w w1 := new1.trans (hb1.mono (by simp))
    have HC1 : Hid (∀ j, w1.cell? ⟨w.heap.size, j, none⟩ = (#[s0, s1, s2, s3, s4, s5, s6, .slice pa ps.length pcap, .slice qa qs.length qcap, .slice ca cs.length ccap, s10, s11, s12, s13] : Array Value)[j]?) := Lib.hid fun j => (hb1.cell (p := ⟨w.heap.size, j, none⟩) (by simp)).trans (World.cell?_alloc_new _ _ _ _)
    have OK1 := Lib.hid (OK.out.below (Nat.le_refl _) q1)
    have hB1 := q1
    have y1 : w.heap.size < w1.heap.size := by have := hb1.size; simp at this; omega
    clear hb1 q1 OK
    obtain ⟨t0, t1, t2, t3, t4, t5, t6, t7, t8, t9, t10, t11, t12, t13⟩ := sn_cells HC1.out
    go_wp2_with fail
    refine (HU1.out _ OK1.out).mono ?_
    rintro er w2 ⟨rfl, hb2⟩
    have HC2 : Hid (∀ j, w2.cell? ⟨w.heap.size, j, none⟩ = (#[s0, s1, s2, s3, s4, s5, s6, .slice pa ps.length pcap, .slice qa qs.length qcap, .slice ca cs.length ccap, s10, s11, s12, s13] : Array Value)[j]?) := Lib.hid fun j => (hb2.cell (p := ⟨w.heap.size, j, none⟩) y1).trans (HC1.out j)
    have OK2 := Lib.hid (OK1.out.below (Nat.le_refl _) hb2)
    have z2 : w1.heap.size ≤ w2.heap.size := hb2.size
    have hB2 : Below w.heap.size w w2 := hB1.trans (hb2.mono hB1.size)
    have y2 : w.heap.size < w2.heap.size := by omega
    clear hb2 hB1 t0 t1 t2 t3 t4 t5 t6 t7 t8 t9 t10 t11 t12 t13 HC1 OK1
    obtain ⟨t0, t1, t2, t3, t4, t5, t6, t7, t8, t9, t10, t11, t12, t13⟩ := sn_cells HC2.out
    go_wp2_with fail
    refine (HF1.out _ (OK2.out.below (Nat.le_refl _) new1)).mono ?_
    rintro er w3 ⟨rfl, hb3⟩
    have q3 : Below w2.heap.size w2 w3 := new1.trans (hb3.mono (by simp))
    obtain ⟨u2, v2⟩ := box1 hb3
    have HC3 : Hid (∀ j, w3.cell? ⟨w.heap.size, j, none⟩ = (#[s0, s1, s2, s3, s4, s5, s6, .slice pa ps.length pcap, .slice qa qs.length qcap, .slice ca cs.length ccap, s10, s11, s12, s13] : Array Value)[j]?) := Lib.hid fun j => (q3.cell (p := ⟨w.heap.size, j, none⟩) y2).trans (HC2.out j)
    have OK3 := Lib.hid (OK2.out.below (Nat.le_refl _) q3)
    have z3 : w2.heap.size < w3.heap.size := by have := hb3.size; simp at this; omega
    have hB3 : Below w.heap.size w w3 := hB2.trans (q3.mono hB2.size)
    have y3 : w.heap.size < w3.heap.size := by omega
    clear hb3 q3 hB2 t0 t1 t2 t3 t4 t5 t6 t7 t8 t9 t10 t11 t12 t13 HC2 OK2
    clear HC3
    go_wp2_with fail
    go_ret
    exact ⟨rfl, by first | exact hB3 | exact hB3.alloc (by have := hB3.size; omega) _⟩
set_option maxRecDepth 100000 in
theorem usageLess_lifted (os : Os) (started : os.Started) (H : Type) (enc : TypeId × Value → H) :
    ReturnsInHanded {} Try.checked os 13 .any (Rows.usageLessSpec.pre6 enc Try.prog Try.f13 Rows.usageLessRow.domain false) (Rows.usageLessSpec.post enc Try.prog Try.f13 false true false false) := by
  refine returnsInHanded_of_change_sized (C := Try.checked) own started (by kernel_rfl) Try.func13
    (ChangeSpec.witness6 (enc := enc) (C := Try.checked) false ⟨#[], #[.agg #[.int .i64 0, .int .i64 0, .int .i64 0, .int .i64 0, .int .i64 0, .int .i64 0, .slice none 0 0, .slice none 0 0, .slice none 0 0, .slice none 0 0, .slice none 0 0, .slice none 0 0, .slice none 0 0, .slice none 0 0], .string .empty, .int .i64 0], []⟩ 8 (by kernel_rfl) (by kernel_rfl) (by kernel_rfl) (by kernel_rfl)) ?_
  intro W base args ds gs before hval0 hW hcnd hsz _
  have hval : ∀ (j : Nat) t v, Try.f13.params[j]? = some t → args[j]? = some v → Value.okWide Try.prog W .any base t v := hval0
  have hW' := hW
  obtain ⟨pp, qq, hA0, hV, rfl, hfz, hnd⟩ := hW
  have hA : DataW.TrodAll enc Try.prog W 0 (fun _ => true) true Try.f13.params.toList args.toList ds pp := hA0
  rw [Try.params13] at hA hval
  obtain ⟨v0, vs0, d0, ds0, p0, q0, hargs, rfl, rfl, k0, r0⟩ := trodAll_cons hA
  obtain ⟨v1, vs1, d1, ds1, p1, q1, rfl, rfl, rfl, k1, r1⟩ := trodAll_cons r0
  obtain ⟨v2, vs2, d2, ds2, p2, q2, rfl, rfl, rfl, k2, r2⟩ := trodAll_cons r1
  obtain ⟨rfl, rfl, rfl⟩ := trodAll_nil r2
  obtain rfl : args = #[v0, v1, v2] := by cases args; simp_all
  obtain ⟨rfl, rfl⟩ := trodVars_none hV
  have lt0 : ∀ x ∈ p0, x.block < W.heap.size := by obtain ⟨m, hm⟩ := k0; exact DataW.trod_lt m _ _ _ hm
  have lt1 : ∀ x ∈ p1, x.block < W.heap.size := by obtain ⟨m, hm⟩ := k1; exact DataW.trod_lt m _ _ _ hm
  have lt2 : ∀ x ∈ p2, x.block < W.heap.size := by obtain ⟨m, hm⟩ := k2; exact DataW.trod_lt m _ _ _ hm
  obtain ⟨n, rfl, hp1, hq1, hc1, hp2, hc2, hp3, hc3, parts, hd, hzp, hzq, hzc⟩ := open55 (hval 0 55 v0 rfl rfl) k0
  have hd' : _ = some (DataW.agg parts) := congrArg some hd
  obtain ⟨lp200, lp⟩ := len16 (j := 0) hsz rfl hd' (i := 3) (ft := 47) (by rw [Try.underlying55]; rfl) Try.underlying47 bytes76 (by decide) hzp
  obtain ⟨lq120, lq⟩ := len16 (j := 0) hsz rfl hd' (i := 4) (ft := 48) (by rw [Try.underlying55]; rfl) Try.underlying48 bytes71 (by decide) hzq
  obtain ⟨lc184, lc⟩ := len16 (j := 0) hsz rfl hd' (i := 5) (ft := 49) (by rw [Try.underlying55]; rfl) Try.underlying49 bytes62 (by decide) hzc
  have hok : n.Ok W := ⟨hp1, hq1, hc1, lp, lq, lc⟩
  obtain ⟨s, rfl⟩ := okWide_string Try.underlying9 (hval 1 9 v1 rfl rfl)
  obtain ⟨m, rfl⟩ := okWide_int Try.underlying3 (hval 2 3 v2 rfl rfl)
  clear hA0 hval0
  refine (usageLess_walk n s m W hok hp2 hp3 lp200).mono fun e W' ⟨he, bel⟩ => ?_
  subst he
  exact ⟨_, rfl, _, _, _, [], _, [], hW', trodAll_mk1 (shut_bool Try.underlying4 _), (trodAll_cons_mk (Below.trod laidOut (by kernel_rfl) (of_decide_eq_true (by kernel_rfl)) k0 bel lt0) (trodAll_cons_mk (Below.trod laidOut (by kernel_rfl) (of_decide_eq_true (by kernel_rfl)) k1 bel lt1) (trodAll_cons_mk (Below.trod laidOut (by kernel_rfl) (of_decide_eq_true (by kernel_rfl)) k2 bel lt2) trodAll_mk0))), rfl, bel.frame _, fun h => by cases h⟩

theorem usageLess_over : Rows.usageLessRow.holds Try.pinned (OpenSpec.ofChange Rows.usageLessSpec) :=
  OpenClaim.holds_of_wide 13 Try.f13 rfl rfl rfl rfl rfl rfl rfl ⟨rfl, rfl, rfl, rfl, rfl⟩ rfl rfl rfl rfl rfl (by kernel_rfl) Try.func13 (by kernel_rfl)
    (of_decide_eq_true (by kernel_rfl)) (by unfold Func.isWrapper; first | (rw [if_pos (by decide +kernel)]; kernel_rfl) | (rw [if_neg (by decide +kernel)]; exact ⟨rfl, rfl⟩))
    (fun os started H enc _ => usageLess_lifted os started H enc)

theorem usageLess_holds : Rows.UsageLessSaid := usageLess_over

end Go.Proofs.Ytnaphpgbmjpicaa
