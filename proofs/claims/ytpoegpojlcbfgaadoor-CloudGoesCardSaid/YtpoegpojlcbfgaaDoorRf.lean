/- The reference's SetStock. -/
import Derived.Test.YtpoegpojlcbfgaaDoorRe
import Derived.Test.YtpoegpojlcbfgaaDoorR2
namespace Go.Proofs.YtpoegpojlcbfgaaDoor
open Go.RowKit
attribute [local go_sem] RegRel.relUpon RegRel.opOk

theorem info68 : (Tryd.prog.info? 68).map (fun i => (i.zero, i.size, i.bytes)) = some (some (.agg #[.string .empty, .string .empty, .string .empty, .int .i64 0]), 4, 56) := by kernel_rfl
theorem st_len (x : Of × Int) : (stCells x).length = 4 := rfl
theorem same_ne {a b : Of} (h : a ≠ b) : same a b = false := by rw [← Bool.not_eq_true, same_iff]; exact h
theorem set_at {o : Of} {n : Int} : ∀ {l : List (Of × Int)} {k : Nat} {m : Int}, l[k]? = some (o, m) → (∀ (j : Nat) (y : Of × Int), j < k → l[j]? = some y → y.1 ≠ o) → setStock o n l = l.set k (o, n)
  | [], _, _, h, _ => by simp at h
  | (o', m') :: r, 0, m, h, _ => by
    simp only [List.getElem?_cons_zero, Option.some.injEq, Prod.mk.injEq] at h
    obtain ⟨rfl, rfl⟩ := h
    unfold setStock
    rw [if_pos (same_self _), List.set_cons_zero]
  | (o', m') :: r, k + 1, m, h, hn => by
    have h0 : o' ≠ o := hn 0 _ (Nat.succ_pos _) rfl
    unfold setStock
    rw [if_neg (by rw [same_ne (Ne.symm h0)]; decide), List.set_cons_succ, set_at (l := r) (k := k) (m := m) (by simpa using h) (fun j y hj hy => hn (j + 1) y (by omega) (by simpa using hy))]
theorem set_new {o : Of} {n : Int} : ∀ {l : List (Of × Int)}, (∀ (j : Nat) (y : Of × Int), l[j]? = some y → y.1 ≠ o) → setStock o n l = l ++ [(o, n)]
  | [], _ => rfl
  | (o', m') :: r, hn => by
    have h0 : o' ≠ o := hn 0 _ rfl
    unfold setStock
    rw [if_neg (by rw [same_ne (Ne.symm h0)]; decide), List.cons_append, set_new (l := r) (fun j y hy => hn (j + 1) y (by simpa using hy))]
/-- The k-th stock's number. -/
theorem Rl.set_stock {w : World} {p : Nat} {c : Cd} {oi os on : Option Nat} {vi vs vn : Value} {k : Nat} {o : Of} {m n : Int} (h : Rl w p c oi os on vi vs vn) (hx : c.sk[k]? = some (o, m))
    {g off cap : Nat} (hv : vs = .slice (some ⟨g, off, none⟩) c.sk.length cap) (hg : os = some g) :
    Rl (w.setCell ⟨g, off + k * 4 + 3, none⟩ (.int .i64 n)) p { c with sk := c.sk.set k (o, n) } oi os on vi vs vn := by
  have hne := h.ne_s hg
  refine ⟨(Below.heap_setCell _ _ _ _ (Ne.symm hne.1)).trans h.head, h.is.kept fun g' hg' => Below.heap_setCell _ _ _ _ (fun e => hne.2.1 (by rw [hg', e])), ?_, h.ns.kept fun g' hg' => Below.heap_setCell _ _ _ _ (fun e => hne.2.2 (by rw [hg', e]))⟩
  exact Rowed.poke (x' := (o, n)) (u := .int .i64 n) st_len h.sk (i := k) (j := 3) hx (by omega) rfl hv

theorem of_ne {t z k t' z' k' : ByteArray} (h : ¬ (⟨t', z', k'⟩ : Of) = ⟨t, z, k⟩) : (¬ t'.toList = t.toList) ∨ (t'.toList = t.toList ∧ ¬ z'.toList = z.toList) ∨ (t'.toList = t.toList ∧ z'.toList = z.toList ∧ ¬ k'.toList = k.toList) := by
  by_cases a1 : t'.toList = t.toList
  · by_cases a2 : z'.toList = z.toList
    · refine .inr (.inr ⟨a1, a2, fun a3 => h (same_iff.1 ?_)⟩)
      simp [same, sq, a1, a2, a3]
    · exact .inr (.inl ⟨a1, a2⟩)
  · exact .inl a1

set_option maxRecDepth 100000 in
set_option maxHeartbeats 4000000 in
theorem rset_any (c : Cd) (p : Nat) (F : List Nat) (w : World) (o : Of) (n : Int) (h200 : c.sk.length ≤ 200) (h : Rown w p c F) :
    Calls Tryd.prog 21 #[.pointer (some ⟨p, 0, none⟩), o.val, .int .i64 n] w fun e w' => e = .returned (.int .i64 (setE o n)) ∧ ∃ F', Rown w' p (c.set o n) F' ∧ Step F F' w w' := by
  have HN := Lib.hid (rnamed_any o)
  have hB := Lib.hid (fun o : Obj => below_new w o)
  have HO := Lib.hid h
  obtain ⟨oi, os, on, vi, vs, vn, h, rfl⟩ := h
  have H := Lib.hid h
  obtain ⟨c0, c1, c2, c3, c4⟩ := h.cells
  have hp : p < w.heap.size := h.lt (mem_rfoot.2 (.inl rfl))
  obtain ⟨a, cap, rfl, -⟩ := h.sk.shape
  clear h
  by_cases h1 : n < -1
  · have e1 : setE o n = 1 := by unfold setE; rw [if_pos (.inl h1)]
    have e2 : c.set o n = c := by unfold Cd.set; rw [if_pos (.inl h1)]
    rw [e1, e2]
    clear e1 e2
    go_enter Tryd.func21, Tryd.ntmps21
    go_wp2_with fail
    go_ret
    exact ⟨rfl, _, HO.out.below (hB.out _), Step.of_below (hB.out _)⟩
  · rcases hn : namedB o with _ | _
    · have e1 : setE o n = 1 := by unfold setE; rw [if_pos (.inr hn)]
      have e2 : c.set o n = c := by unfold Cd.set; rw [if_pos (.inr hn)]
      rw [e1, e2]
      rw [hn] at HN
      clear e1 e2
      obtain ⟨t, z, k⟩ := o
      show Calls Tryd.prog 21 #[.pointer (some ⟨p, 0, none⟩), .agg #[.string t, .string z, .string k], .int .i64 n] w _
      clear hn
      go_enter Tryd.func21, Tryd.ntmps21
      go_wp2_with fail
      refine (HN.out _).mono ?_
      rintro er w1 ⟨rfl, hb⟩
      go_wp2_with fail
      go_ret
      have q := (hB.out _).trans (hb.mono (by simp))
      exact ⟨rfl, _, HO.out.below q, Step.of_below q⟩
    · have e1 : setE o n = 0 := by unfold setE; rw [if_neg (fun h => h.elim (fun h => h1 h) (fun h => by rw [hn] at h; cases h))]
      have e2 : c.set o n = { c with sk := setStock o n c.sk } := by unfold Cd.set; rw [if_neg (fun h => h.elim (fun h => h1 h) (fun h => by rw [hn] at h; cases h))]
      rw [e1, e2]
      rw [hn] at HN
      clear e1 e2 hn
      obtain ⟨t, z, k⟩ := o
      show Calls Tryd.prog 21 #[.pointer (some ⟨p, 0, none⟩), .agg #[.string t, .string z, .string k], .int .i64 n] w _
      obtain ⟨i0, hi, hz0, hz1, hz2⟩ := info_parts info68
      have HI := Lib.hid hi
      have HZ0 := Lib.hid hz0
      have HZ1 := Lib.hid hz1
      have HZ2 := Lib.hid hz2
      clear hi hz0 hz1 hz2
      go_enter Tryd.func21, Tryd.ntmps21
      go_wp2_with fail
      refine (HN.out _).mono ?_
      rintro er w1 ⟨rfl, hb⟩
      have q : Below w.heap.size w w1 := (hB.out _).trans (hb.mono (by simp))
      have dd : ∀ j, w1.cell? ⟨w.heap.size, j, none⟩ = (#[.string t, .string z, .string k] : Array Value)[j]? := fun j => (hb.cell (p := ⟨w.heap.size, j, none⟩) (by simp)).trans (by rw [World.cell?_alloc_at _ _ _ _ rfl])
      have z1 : w.heap.size < w1.heap.size := by have := hb.size; simp at this; omega
      have b0 := dd 0
      have b1 := dd 1
      have b2 := dd 2
      obtain ⟨d0, d1, d2, d3, d4⟩ := (H.out.below q).cells
      clear hb dd HN
      go_wp2_with fail
      go_loopw [20] (fun i wr => ∃ j : Nat, j ≤ c.sk.length ∧ i = .int .i64 j ∧ Below w1.heap.size w1 wr ∧ Hid (∀ (i : Nat) (y : Of × Int), i < j → c.sk[i]? = some y → y.1 ≠ ⟨t, z, k⟩))
        (fun i _ => c.sk.length - (intOf i).toNat)
      case atStart => exact ⟨0, Nat.zero_le _, rfl, Below.refl _ _, fun j y hj => absurd hj (Nat.not_lt_zero _)⟩
      case round =>
        obtain ⟨j, hj, rfl, hb, HX⟩ := hrel
        have hq : Below w.heap.size w wr := q.trans (hb.mono q.size)
        have hzr : w.heap.size < wr.heap.size := by have := hb.size; omega
        have hpr : p < wr.heap.size := by have := hq.size; omega
        have k0 : wr.cell? ⟨w.heap.size, 0, none⟩ = some (.string t) := (hb.cell (p := ⟨w.heap.size, 0, none⟩) z1).trans b0
        have k1 : wr.cell? ⟨w.heap.size, 1, none⟩ = some (.string z) := (hb.cell (p := ⟨w.heap.size, 1, none⟩) z1).trans b1
        have k2 : wr.cell? ⟨w.heap.size, 2, none⟩ = some (.string k) := (hb.cell (p := ⟨w.heap.size, 2, none⟩) z1).trans b2
        obtain ⟨m0, m1, m2, m3, m4⟩ := (H.out.below hq).cells
        by_cases hlt : j < c.sk.length
        · obtain ⟨x, hx⟩ : ∃ x, c.sk[j]? = some x := ⟨_, List.getElem?_eq_getElem hlt⟩
          obtain ⟨⟨t', z', k'⟩, m⟩ := x
          obtain ⟨g, off, cap', hv, ho, hg, -, hc, hfz⟩ := (H.out.below hq).sk.elt st_len hx
          cases hv
          have hc0 := hc 0 _ rfl
          have hc1 := hc 1 _ rfl
          have hc2 := hc 2 _ rfl
          have hc3 := hc 3 _ rfl
          have hf3 := hfz (off + j * 4 + 3)
          simp only [Nat.add_zero] at hc0
          go_wp2_with fail
          refine RegRel.wp_region_bel 9 9 (by kernel_rfl) (by kernel_rfl) [RegRel.is (.pointer (some ⟨p, 0, none⟩)), RegRel.is (.pointer (some ⟨p, 0, none⟩)), RegRel.is (.pointer (some ⟨p, 1, none⟩)), RegRel.is (.slice (some ⟨g, off, none⟩) c.sk.length cap), RegRel.is (.int .i64 j), RegRel.is (.pointer (some ⟨g, off + j * 4, none⟩)), RegRel.is (.pointer (some ⟨g, off + j * 4, none⟩)), RegRel.is (.agg #[.string t', .string z', .string k']), RegRel.is (.agg #[.string t, .string z, .string k])]
            (by simp [RegRel.AllStable, RegRel.stable_is, RegRel.tough_is]) rfl (by kernel_rfl) ?_ ?_
          · simp only [List.take_succ_cons, List.take_zero, RegRel.OpsOk, RegRel.puts]
            refine ⟨?_, ?_, ?_, ?_, ?_, ?_, ?_, ?_, ?_, trivial⟩
            all_goals
              intro u w' hC hD
              try simp [RegRel.DepsOk, Region.binds, RegRel.ent, RegRel.is] at hD
              have e1 := (hC.cell (p := ⟨p, 1, none⟩) hpr).trans m1
              have e2 := (hC.cell (p := ⟨w.heap.size, 0, none⟩) hzr).trans k0
              have e3 := (hC.cell (p := ⟨w.heap.size, 1, none⟩) hzr).trans k1
              have e4 := (hC.cell (p := ⟨w.heap.size, 2, none⟩) hzr).trans k2
              have e5 := (hC.cell (p := ⟨g, off + j * 4, none⟩) hg).trans hc0
              have e6 := (hC.cell (p := ⟨g, off + j * 4 + 1, none⟩) hg).trans hc1
              have e7 := (hC.cell (p := ⟨g, off + j * 4 + 2, none⟩) hg).trans hc2
              go_simp
            all_goals (try simp [RegRel.ent, RegRel.is, RegRel.step, RegRel.upd, Below.refl])
          · intro u w3 hC hv
            simp only [List.take_succ_cons, List.take_zero, List.drop_succ_cons, List.drop_zero, RegRel.puts]
            simp [RegRel.allV, RegRel.is] at hv
            obtain ⟨v0, v1, v2, v3, v4, v5, v6, v7, v8⟩ := hv
            have hb3 : Below w1.heap.size w1 w3 := hb.trans (hC.mono hb.size)
            have hq3 : Below w.heap.size w w3 := hq.trans (hC.mono hq.size)
            by_cases hs : (⟨t', z', k'⟩ : Of) = ⟨t, z, k⟩
            · cases hs
              have hsk := set_at (n := n) hx HX.out
              have SK := Lib.hid hsk
              have H3 := H.out.below hq3
              obtain ⟨s0, s1, s2, s3, s4⟩ := H3.cells
              have f3 : w3.cell? ⟨g, off + j * 4 + 3, none⟩ = some (.int .i64 m) := (hC.cell (p := ⟨g, off + j * 4 + 3, none⟩) hg).trans hc3
              have g3 : w3.frozen? ⟨g, off + j * 4 + 3, none⟩ = false := (World.frozen?_of_block (a := ⟨g, off + j * 4 + 3, none⟩) (hC.block g hg)).trans hf3
              have Q1 := Lib.hid (H3.set_stock (n := n) hx rfl ho)
              have S1 := Lib.hid (step_set (F := rfoot p oi os on) w3 (j := off + j * 4 + 3) (.int .i64 n) (mem_rfoot.2 (.inr (.inr (.inl ho)))))
              have HQ := Lib.hid hq3
              clear hc hfz hx HX ho hC hq3 hsk H3 hb hq
              go_wp2_with fail
              go_ret
              exact ⟨rfl, _, ⟨oi, os, on, vi, _, vn, by rw [SK.out]; exact Q1.out, rfl⟩, (Step.of_below HQ.out).trans S1.out⟩
            · have HX' : Hid (∀ (i : Nat) (y : Of × Int), i < j + 1 → c.sk[i]? = some y → y.1 ≠ ⟨t, z, k⟩) := fun i y hi hy => by
                rcases Nat.lt_succ_iff_lt_or_eq.1 hi with h | h
                · exact HX.out i y h hy
                · subst h
                  rw [hx] at hy; cases hy
                  exact hs
              have hs3 := of_ne hs
              clear hc hfz hx hs HX ho hC hq3 m0 m1 m2 m3 m4 k0 k1 k2
              rcases hs3 with h1 | ⟨h1, h2⟩ | ⟨h1, h2, h3⟩
              · go_wp2_with fail
                go_roundw
                case rel => exact ⟨j + 1, by omega, by go_num, hb3, HX'⟩
                case measure => simp [intOf]; omega
              · go_wp2_with fail
                go_roundw
                case rel => exact ⟨j + 1, by omega, by go_num, hb3, HX'⟩
                case measure => simp [intOf]; omega
              · go_wp2_with fail
                go_roundw
                case rel => exact ⟨j + 1, by omega, by go_num, hb3, HX'⟩
                case measure => simp [intOf]; omega
        · have hjl : j = c.sk.length := by omega
          subst hjl
          have hsk := set_new (n := n) (fun i y hy => HX.out i y (List.getElem?_eq_some_iff.1 hy).1 hy)
          have SK := Lib.hid hsk
          have Hr := Lib.hid (H.out.below hq)
          have HRW := Lib.hid (H.out.below hq).sk
          have hos : ∀ r, os = some r → r < wr.heap.size := fun r hr => (H.out.below hq).lt (mem_rfoot.2 (.inr (.inr (.inl hr))))
          have hpn : some p ≠ os := fun e => (Hr.out.ne_s e.symm).1 rfl
          have hzn : some w.heap.size ≠ os := fun e => absurd (H.out.lt (mem_rfoot.2 (.inr (.inr (.inl e.symm))))) (Nat.lt_irrefl _)
          have f1 := (H.out.below hq).free 1
          clear HX hsk
          go_wp2_with fail
          refine RegRel.wp_region_grow 10 9 os (fun w' => Rowed w' 68 4 os (.slice a c.sk.length cap) c.sk.length (c.sk.flatMap stCells)) (by kernel_rfl) (by kernel_rfl)
            [RegRel.is (.pointer (some ⟨p, 0, none⟩)), RegRel.is (.pointer (some ⟨p, 0, none⟩)), RegRel.is (.pointer (some ⟨p, 0, none⟩)), RegRel.is (.pointer (some ⟨p, 1, none⟩)), RegRel.is (.slice a c.sk.length cap), RegRel.is (.agg #[.string t, .string z, .string k]), RegRel.is (.int .i64 n), RegRel.is (.agg #[.string t, .string z, .string k, .int .i64 n]), ⟨none, fun v _ w' => ∃ g, v = .slice (some ⟨g, 0, none⟩) 1 1 ∧ wr.heap.size ≤ g ∧ g < w'.heap.size ∧ ∀ j u, ([.string t, .string z, .string k, .int .i64 n] : List Value)[j]? = some u → w'.cell? ⟨g, j, none⟩ = some u⟩,
             ⟨none, fun v _ w' => ∃ o' a' cap', v = .slice a' (c.sk.length + 1) cap' ∧ Rowed w' 68 4 o' v (c.sk.length + 1) ((c.sk.flatMap stCells) ++ [.string t, .string z, .string k, .int .i64 n]) ∧ (o' = os ∨ ∃ g, o' = some g ∧ wr.heap.size ≤ g)⟩]
            rfl ?hst rfl HRW.out (fun _ h => h) (fun _ _ h hb => h.below hb) ?_ ?_
          case hst =>
            intro j e hj
            rcases j with _ | _ | _ | _ | _ | _ | _ | _ | _ | _ | j
            all_goals first | (have e1 := Option.some.inj hj; subst e1) | (simp at hj; done)
            · exact ⟨RegRel.stable_is _, .inr (RegRel.toughG_is _ _ _)⟩
            · exact ⟨RegRel.stable_is _, .inr (RegRel.toughG_is _ _ _)⟩
            · exact ⟨RegRel.stable_is _, .inr (RegRel.toughG_is _ _ _)⟩
            · exact ⟨RegRel.stable_is _, .inr (RegRel.toughG_is _ _ _)⟩
            · exact ⟨RegRel.stable_is _, .inr (RegRel.toughG_is _ _ _)⟩
            · exact ⟨RegRel.stable_is _, .inr (RegRel.toughG_is _ _ _)⟩
            · exact ⟨RegRel.stable_is _, .inr (RegRel.toughG_is _ _ _)⟩
            · exact ⟨RegRel.stable_is _, .inr (RegRel.toughG_is _ _ _)⟩
            · refine ⟨?_, .inr ?_⟩
              · rintro v v' w1 w2 hb ⟨g, rfl, h1, h2, h3⟩
                exact ⟨g, rfl, h1, Nat.lt_of_lt_of_le h2 hb.size, fun j u hj => (hb.cell (p := ⟨g, j, none⟩) h2).trans (h3 j u hj)⟩
              · rintro v v' w1 w2 _ hg ⟨g, rfl, h1, h2, h3⟩
                exact ⟨g, rfl, h1, Nat.lt_of_lt_of_le h2 hg.size, fun j u hj => hg.cell (h3 j u hj) (fun e => by have := hos g e.symm; omega)⟩
            · refine ⟨?_, .inl rfl⟩
              rintro v v' w1 w2 hb ⟨o', a', cap', rfl, h1, h2⟩
              exact ⟨o', a', cap', rfl, h1.below hb, h2⟩
          · simp only [List.take_succ_cons, List.take_zero, RegRel.OpsOk, RegRel.puts]
            refine ⟨?_, ?_, ?_, ?_, ?_, ?_, ?_, ?_, ?_, ?_, trivial⟩
            rotate_left 9
            · intro u w' hC hD
              simp [RegRel.DepsOk, Region.binds, RegRel.ent, RegRel.is] at hD
              obtain ⟨d4, g, d6, i1, i2, i3⟩ := hD
              obtain ⟨v', wA, o', hr, hrow, hgr, hfr, hold⟩ := run_append_rowed (P := Tryd.prog) w' 64 64 68 i0 _ 4 56 Tryd.underlying64 HI.out HZ0.out HZ1.out HZ2.out rfl os (.slice a c.sk.length cap) c.sk.length _ hC.2 ⟨g, 0, none⟩ 1 1 [.string t, .string z, .string k, .int .i64 n] rfl (fun j u hj => by rw [Addr.add_lit, Nat.zero_add]; exact i3 j u hj) (by simp [Value.oneCell']) (by decide) (by unfold maxLen; omega) (by omega)
              obtain ⟨a', cap', rfl, -⟩ := hrow.shape
              have hW : wr.heap.size ≤ w'.heap.size := hC.1.size
              have hfr' : o' = os ∨ ∃ g, o' = some g ∧ wr.heap.size ≤ g := by
                rcases hfr with e | ⟨g', e, h1, _⟩
                · exact .inl e
                · exact .inr ⟨g', e, by omega⟩
              have hk2 : Rowed wA 68 4 os (.slice a c.sk.length cap) c.sk.length (c.sk.flatMap stCells) := hold
              unfold RegRel.opOk
              rw [if_pos (by simp [Region.wanted])]
              unfold execOp
              simp [resolve, invoke, builtin, d4, d6, hr, Act.eval, Act.put, RegRel.relUpon, Result.andThen, RegRel.ent, RegRel.growSt, RegRel.upd]
              exact ⟨⟨o', hrow, hfr'⟩, hgr, hk2⟩
            all_goals
              intro u w' hC hD
              try simp [RegRel.DepsOk, Region.binds, RegRel.ent, RegRel.is] at hD
              have e1 : w'.cell? ⟨p, 1, none⟩ = _ := (World.cell?_of_block (a := ⟨p, 1, none⟩) (hC.1.block p hpr hpn)).trans m1
              have e2 : w'.cell? ⟨w.heap.size, 0, none⟩ = _ := (World.cell?_of_block (a := ⟨w.heap.size, 0, none⟩) (hC.1.block w.heap.size hzr hzn)).trans k0
              have e3 : w'.cell? ⟨w.heap.size, 1, none⟩ = _ := (World.cell?_of_block (a := ⟨w.heap.size, 1, none⟩) (hC.1.block w.heap.size hzr hzn)).trans k1
              have e4 : w'.cell? ⟨w.heap.size, 2, none⟩ = _ := (World.cell?_of_block (a := ⟨w.heap.size, 2, none⟩) (hC.1.block w.heap.size hzr hzn)).trans k2
              go_simp
            all_goals (try simp [RegRel.ent, RegRel.is, RegRel.growSt, RegRel.upd, Below.refl])
            · have h : wr.heap.size ≤ w'.heap.size := hC.1.size
              exact ⟨by omega, below_new _ _⟩
          · intro u w6 hC hv
            simp only [List.take_succ_cons, List.take_zero, List.drop_succ_cons, List.drop_zero, RegRel.puts]
            simp [RegRel.allV, RegRel.is] at hv
            obtain ⟨g0, g1, g2, g3, g4, g5, g6, g7, g8, ⟨⟨a', cap', g9⟩, o', hr, hfr⟩⟩ := hv
            rw [g9] at hr
            have hgr : wr.grownBy w6 os := ⟨hC.1.os, hC.1.tape, hC.1.output, hC.1.size, fun k hk hn => hC.1.block k hk hn⟩
            have hf : Fresh wr w6 os o' := by
              rcases hfr with e | ⟨g, e, h1⟩
              · exact .inl e
              · exact .inr ⟨g, e, h1, hr.lt e⟩
            have hr' : Rowed w6 68 4 o' (.slice a' (c.sk.length + 1) cap') (c.sk ++ [((⟨t, z, k⟩ : Of), n)]).length ((c.sk ++ [((⟨t, z, k⟩ : Of), n)]).flatMap stCells) := by
              rw [List.length_append, List.flatMap_append]
              exact hr
            obtain ⟨q1, q2⟩ := Hr.out.set_sk hgr hr' hf
            have Q1 := Lib.hid q1
            have Q2 := Lib.hid q2
            have f5 : w6.frozen? ⟨p, 1, none⟩ = false := (World.frozen?_of_block (a := ⟨p, 1, none⟩) (hgr.block p hpr hpn)).trans f1
            have f6 : w6.cell? ⟨p, 1, none⟩ = some (.slice a c.sk.length cap) := (World.cell?_of_block (a := ⟨p, 1, none⟩) (hgr.block p hpr hpn)).trans m1
            have HQ := Lib.hid hq
            clear q1 q2 hr hr' hf hfr hgr hC hq hb
            go_wp2_with fail
            go_ret
            exact ⟨rfl, _, ⟨oi, o', on, vi, _, vn, by rw [SK.out]; exact Q1.out, rfl⟩, (Step.of_below HQ.out).trans Q2.out⟩
end Go.Proofs.YtpoegpojlcbfgaaDoor
