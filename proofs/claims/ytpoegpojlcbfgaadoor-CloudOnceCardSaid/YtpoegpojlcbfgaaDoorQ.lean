/- A token launches one instance at the most: CloudOnce, walked. -/
import Derived.Test.YtpoegpojlcbfgaaDoorP
namespace Go.Proofs.YtpoegpojlcbfgaaDoor
open Go.RowKit

set_option maxRecDepth 100000 in
set_option maxHeartbeats 8000000 in
theorem cloudOnce_walk (ops : List Opr) (a : Option Addr) (cap : Nat) (w : World) (hA : Om w a ops) (hl : ops.length ≤ 9223372036854775807) :
    Calls Tryd.prog 3 #[.slice a ops.length cap] w fun e w' => e = .returned (.bool true) ∧ Below w.heap.size w w' := by
  have HA := Lib.hid hA
  clear hA
  by_cases h200 : 200 < ops.length
  · go_enter Tryd.func3, Tryd.ntmps3
    go_wp2_with fail
    refine (live_any _).mono ?_
    rintro er w1 ⟨rfl, hb1⟩
    go_wp2_with fail
    refine (new_any _).mono ?_
    rintro er w2 ⟨p, F, rfl, hO, hS⟩
    go_wp2_with fail
    go_ret
    exact ⟨rfl, hb1.trans (hS.below hb1.size (fun k hk => by cases hk))⟩
  · obtain ⟨i0, hi, hz0, hz1, hz2⟩ := info_parts info9
    have HI := Lib.hid hi
    have HZ0 := Lib.hid hz0
    have HZ1 := Lib.hid hz1
    have HZ2 := Lib.hid hz2
    clear hi hz0 hz1 hz2
    go_enter Tryd.func3, Tryd.ntmps3
    go_wp2_with fail
    refine (live_any _).mono ?_
    rintro er w1 ⟨rfl, hb1⟩
    go_wp2_with fail
    refine (new_any _).mono ?_
    rintro er w2 ⟨p, F, rfl, hO, hS⟩
    have hb2 : Below w.heap.size w w2 := hb1.trans (hS.below hb1.size (fun k hk => by cases hk))
    have hF : ∀ k ∈ F, w.heap.size ≤ k := hS.far hb1.size (fun k hk => by cases hk)
    have HO2 := Lib.hid hO
    clear hb1 hS hO
    go_wp2_with fail
    go_loopw [5, 6, 30] (fun tv iv i wr => ∃ (k : Nat) (c : Cd) (F : List Nat) (qA qB : Option Nat), k ≤ ops.length ∧ i = .int .i64 k ∧ Below w.heap.size w wr ∧ Hid (Fine c.is) ∧ Hid (Own wr p c F) ∧ Hid (Rowed wr 9 1 qA tv c.is.length (strs (c.is.map In.tok))) ∧ Hid (Rowed wr 9 1 qB iv c.is.length (strs (c.is.map In.id))) ∧ Hid (∀ k ∈ F, w.heap.size ≤ k) ∧ Hid (∀ g, qA = some g → w.heap.size ≤ g ∧ g ∉ F) ∧ Hid (∀ g, qB = some g → w.heap.size ≤ g ∧ g ∉ F) ∧ Hid (∀ g, qB = some g → some g ≠ qA))
      (fun _ _ i _ => ops.length - (intOf i).toNat)
    case atStart => exact ⟨0, Cd.new, F, none, none, Nat.zero_le _, rfl, hb2, Fine.nil, HO2, Rowed.nil _ _ _, Rowed.nil _ _ _, hF, fun g hg => (by cases hg), fun g hg => (by cases hg), fun g hg => (by cases hg)⟩
    case round =>
      obtain ⟨k, c, F, qA, qB, hk, rfl, hb, HFI, HO, H1, H2, HF, G1, G2, G12⟩ := hrel
      by_cases hlt : k < ops.length
      · obtain ⟨x, hx⟩ : ∃ x, ops[k]? = some x := ⟨_, List.getElem?_eq_getElem hlt⟩
        obtain ⟨b, off, rfl, hbl, hcs, hsz⟩ := (HA.out.below (Nat.le_refl _) hb) k x hx
        have hc0 := hcs 0 _ rfl
        have hc1 := hcs 1 _ rfl
        have hc2 := hcs 2 _ rfl
        have hc3 := hcs 3 _ rfl
        have hc4 := hcs 4 _ rfl
        have hc5 := hcs 5 _ rfl
        have hc6 := hcs 6 _ rfl
        simp only [Nat.add_zero] at hc0
        clear hx
        rcases hd : (x.d == 1) with _ | _
        · obtain ⟨e0, e, he⟩ : ∃ e0 e, launchE c x.t x.o x.n = (e0, e) := ⟨_, _, rfl⟩
          have hg := launch_good HFI.out x.t x.o x.n he
          have hL := fun (w : World) (h : Own w p c F) => launch_any c p F w x.t x.o x.n hsz HFI.out.len h
          rw [he] at hL
          have HL := Lib.hid hL
          clear hL he
          rcases hg with ⟨h0, h1⟩ | ⟨h0, h1, j, y0, hj, ht, hid⟩ | ⟨h0, ⟨y, his, hyt, hyi⟩, hnew, hgood⟩
          · rw [h1] at HL
            clear h1
            go_wp2_with fail
            refine (HL.out _ (HO.out.below (below_new wr _))).mono ?_
            rintro er w3 ⟨rfl, F', hO', hS'⟩
            have hS := (Step.of_below (F := F) (below_new wr (.cells #[.int .i64 x.d, .string x.t, .string x.o.t, .string x.o.z, .string x.o.k, .int .i64 x.n, .bool x.cl] 30))).trans hS'
            obtain ⟨r1, n1⟩ := keep_row hS H1.out (fun g hg => (G1.out g hg).2)
            obtain ⟨r2, n2⟩ := keep_row hS H2.out (fun g hg => (G2.out g hg).2)
            have hb' : Below w.heap.size w w3 := hb.trans (hS.below hb.size HF.out)
            have HF' := Lib.hid (hS.far hb.size HF.out)
            have G1' := Lib.hid (fun g (hg : qA = some g) => And.intro (G1.out g hg).1 (n1 g hg))
            have G2' := Lib.hid (fun g (hg : qB = some g) => And.intro (G2.out g hg).1 (n2 g hg))
            have H1' := Lib.hid r1
            have H2' := Lib.hid r2
            have HO' := Lib.hid hO'
            have tx : w3.cell? ⟨wr.heap.size, 1, none⟩ = some (.string x.t) := (hS'.cell (p := ⟨wr.heap.size, 1, none⟩) (by simp) (HO.out.new_not (Nat.le_refl _))).trans (by rw [World.cell?_alloc_new]; rfl)
            clear hO' hS' hS r1 r2 n1 n2 HO H1 H2 HF G1 G2 hb hbl hcs
            clear tx
            go_wp2_with fail
            go_roundw
            case rel => exact ⟨k + 1, c, F', qA, qB, by omega, by go_num, hb', HFI, HO', H1', H2', HF', G1', G2', G12⟩
            case measure => simp [intOf]; omega
          · rw [h1] at HL
            clear h1
            go_wp2_with fail
            refine (HL.out _ (HO.out.below (below_new wr _))).mono ?_
            rintro er w3 ⟨rfl, F', hO', hS'⟩
            have hS := (Step.of_below (F := F) (below_new wr (.cells #[.int .i64 x.d, .string x.t, .string x.o.t, .string x.o.z, .string x.o.k, .int .i64 x.n, .bool x.cl] 30))).trans hS'
            obtain ⟨r1, n1⟩ := keep_row hS H1.out (fun g hg => (G1.out g hg).2)
            obtain ⟨r2, n2⟩ := keep_row hS H2.out (fun g hg => (G2.out g hg).2)
            have hb' : Below w.heap.size w w3 := hb.trans (hS.below hb.size HF.out)
            have HF' := Lib.hid (hS.far hb.size HF.out)
            have G1' := Lib.hid (fun g (hg : qA = some g) => And.intro (G1.out g hg).1 (n1 g hg))
            have G2' := Lib.hid (fun g (hg : qB = some g) => And.intro (G2.out g hg).1 (n2 g hg))
            have H1' := Lib.hid r1
            have H2' := Lib.hid r2
            have HO' := Lib.hid hO'
            have tx : w3.cell? ⟨wr.heap.size, 1, none⟩ = some (.string x.t) := (hS'.cell (p := ⟨wr.heap.size, 1, none⟩) (by simp) (HO.out.new_not (Nat.le_refl _))).trans (by rw [World.cell?_alloc_new]; rfl)
            clear hO' hS' hS r1 r2 n1 n2 HO H1 H2 HF G1 G2 hb hbl hcs
            obtain ⟨a1, cap1, rfl, -⟩ := H1'.out.shape
            obtain ⟨a2, cap2, rfl, -⟩ := H2'.out.shape
            have hl63 : c.is.length ≤ 9223372036854775807 := by have := HFI.out.len; omega
            go_wp2_with fail
            go_loopw [11, 56] (fun wv i wr' => ∃ k2 : Nat, k2 ≤ c.is.length ∧ i = .int .i64 k2 ∧ wv = .bool (decide (j < k2)) ∧ w3 = wr')
              (fun _ i _ => c.is.length - (intOf i).toNat)
            case atStart => exact ⟨0, Nat.zero_le _, rfl, by simp, rfl⟩
            case round =>
              obtain ⟨k2, hk2, rfl, rfl, rfl⟩ := hrel
              by_cases hlt2 : k2 < c.is.length
              · obtain ⟨y, hy⟩ : ∃ y, c.is[k2]? = some y := ⟨_, List.getElem?_eq_getElem hlt2⟩
                obtain ⟨g1, of1, cp1, hv1, -, -, -, y1, -⟩ := Rowed.str (l := c.is.map In.tok) (by rw [List.length_map]; exact H1'.out) (i := k2) (x := y.tok) (by simp [hy])
                obtain ⟨g2, of2, cp2, hv2, -, -, -, y2, -⟩ := Rowed.str (l := c.is.map In.id) (by rw [List.length_map]; exact H2'.out) (i := k2) (x := y.id) (by simp [hy])
                rw [List.length_map] at hv1 hv2
                cases hv1
                cases hv2
                by_cases hkj : k2 = j
                · subst hkj
                  rw [hj] at hy
                  cases hy
                  have q1 : (y0.tok.toList == x.t.toList) = true := sq_iff.2 (ht)
                  have q2 : (y0.id.toList == e0.toList) = true := sq_iff.2 (hid)
                  go_wp2_with fail
                  go_roundw
                  case rel => exact ⟨k2 + 1, by omega, by go_num, by simp, trivial⟩
                  case measure => simp [intOf]; omega
                · have q1 : (y.tok.toList == x.t.toList) = false := sq_ne.2 (fun e => hkj (HFI.out.toks _ _ _ _ hy hj (e.trans ht.symm)))
                  have q2 : (y.id.toList == e0.toList) = false := sq_ne.2 (fun e => hkj (HFI.out.id_ne hy hj (e.trans hid.symm)))
                  have hd2 : decide (j < k2) = decide (j < k2 + 1) := by rw [decide_eq_decide]; omega
                  have HD2 := Lib.hid hd2
                  clear hy hd2
                  go_wp2_with fail
                  go_roundw
                  case rel => exact ⟨k2 + 1, by omega, by go_num, by rw [HD2.out], trivial⟩
                  case measure => simp [intOf]; omega
              · have hkl : k2 = c.is.length := by omega
                subst hkl
                have hjl : j < c.is.length := (List.getElem?_eq_some_iff.1 hj).1
                go_wp2_with fail
                go_roundw
                case rel => exact ⟨k + 1, c, F', qA, qB, by omega, by go_num, hb', HFI, HO', H1', H2', HF', G1', G2', G12⟩
                case measure => simp [intOf]; omega
          · have HG' := Lib.hid hgood
            clear hgood
            go_wp2_with fail
            refine (HL.out _ (HO.out.below (below_new wr _))).mono ?_
            rintro er w3 ⟨rfl, F', hO', hS'⟩
            have hS := (Step.of_below (F := F) (below_new wr (.cells #[.int .i64 x.d, .string x.t, .string x.o.t, .string x.o.z, .string x.o.k, .int .i64 x.n, .bool x.cl] 30))).trans hS'
            obtain ⟨r1, n1⟩ := keep_row hS H1.out (fun g hg => (G1.out g hg).2)
            obtain ⟨r2, n2⟩ := keep_row hS H2.out (fun g hg => (G2.out g hg).2)
            have hb' : Below w.heap.size w w3 := hb.trans (hS.below hb.size HF.out)
            have HF' := Lib.hid (hS.far hb.size HF.out)
            have G1' := Lib.hid (fun g (hg : qA = some g) => And.intro (G1.out g hg).1 (n1 g hg))
            have G2' := Lib.hid (fun g (hg : qB = some g) => And.intro (G2.out g hg).1 (n2 g hg))
            have H1' := Lib.hid r1
            have H2' := Lib.hid r2
            have HO' := Lib.hid hO'
            have tx : w3.cell? ⟨wr.heap.size, 1, none⟩ = some (.string x.t) := (hS'.cell (p := ⟨wr.heap.size, 1, none⟩) (by simp) (HO.out.new_not (Nat.le_refl _))).trans (by rw [World.cell?_alloc_new]; rfl)
            clear hO' hS' hS r1 r2 n1 n2 HO H1 H2 HF G1 G2 hb hbl hcs
            obtain ⟨a1, cap1, rfl, -⟩ := H1'.out.shape
            obtain ⟨a2, cap2, rfl, -⟩ := H2'.out.shape
            have hl63 : c.is.length ≤ 9223372036854775807 := by have := HFI.out.len; omega
            go_wp2_with fail
            go_loopw [11, 56] (fun wv i wr' => ∃ k2 : Nat, k2 ≤ c.is.length ∧ i = .int .i64 k2 ∧ wv = .bool false ∧ w3 = wr')
              (fun _ i _ => c.is.length - (intOf i).toNat)
            case atStart => exact ⟨0, Nat.zero_le _, rfl, rfl, rfl⟩
            case round =>
              obtain ⟨k2, hk2, rfl, rfl, rfl⟩ := hrel
              by_cases hlt2 : k2 < c.is.length
              · obtain ⟨y', hy⟩ : ∃ y', c.is[k2]? = some y' := ⟨_, List.getElem?_eq_getElem hlt2⟩
                obtain ⟨g1, of1, cp1, hv1, -, -, -, y1, -⟩ := Rowed.str (l := c.is.map In.tok) (by rw [List.length_map]; exact H1'.out) (i := k2) (x := y'.tok) (by simp [hy])
                obtain ⟨g2, of2, cp2, hv2, -, -, -, y2, -⟩ := Rowed.str (l := c.is.map In.id) (by rw [List.length_map]; exact H2'.out) (i := k2) (x := y'.id) (by simp [hy])
                rw [List.length_map] at hv1 hv2
                cases hv1
                cases hv2
                have q1 : (y'.tok.toList == x.t.toList) = false := sq_ne.2 ((hnew k2 _ hy).1)
                have q2 : (y'.id.toList == e0.toList) = false := sq_ne.2 ((hnew k2 _ hy).2)
                clear hy
                go_wp2_with fail
                go_roundw
                case rel => exact ⟨k2 + 1, by omega, by go_num, rfl, trivial⟩
                case measure => simp [intOf]; omega
              · have hkl : k2 = c.is.length := by omega
                subst hkl
                go_wp2_with (at_builtin; refine wpList_append_rowed rfl _ _ 26 rfl 9 i0 (.string .empty) 1 16 Tryd.underlying26 HI.out HZ0.out HZ1.out HZ2.out rfl qA _ c.is.length _ rfl (H1'.out.below (below_new w3 _)) ⟨w3.heap.size, 0, none⟩ 1 1 [.string x.t] rfl rfl ?c1 ?c2 (by decide) ?c3 ?c4 ?_)
                case c1 => exact row_new w3 #[.string x.t] 9
                case c2 => simp [Value.oneCell']
                case c3 => have := HFI.out.len; unfold maxLen; omega
                case c4 => have := HFI.out.len; omega
                intro v4 w4 qA' hr4 hg4 hf4
                obtain ⟨a4, cap4, rfl, -⟩ := hr4.shape
                obtain ⟨m1, m2, m3, -⟩ := append_beside HO'.out hg4 hf4 G1'.out hb'.size hb'
                obtain ⟨m4, m5⟩ := append_row H2'.out hg4 hf4 G12.out
                have hr4' : Rowed w4 9 1 qA' (.slice a4 (c.is.length + 1) cap4) (c.is ++ [y]).length (strs ((c.is ++ [y]).map In.tok)) := by
                  simp only [strs, List.map_append, List.length_append, List.map_cons, List.map_nil, List.length_cons, List.length_nil, hyt]
                  exact hr4
                have M1 := Lib.hid m1
                have M3 := Lib.hid m3
                have M4 := Lib.hid m4
                have M5 := Lib.hid m5
                have R4 := Lib.hid hr4'
                have G2b := Lib.hid (fun g (hg : qB = some g) => (G2'.out g hg).1)
                clear m1 m3 m4 m5 hr4 hr4' hg4 hf4 HO' H1' H2' hb' tx
                go_wp2_with (at_builtin; refine wpList_append_rowed rfl _ _ 26 rfl 9 i0 (.string .empty) 1 16 Tryd.underlying26 HI.out HZ0.out HZ1.out HZ2.out rfl qB _ c.is.length _ rfl (M4.out.below (below_new w4 _)) ⟨w4.heap.size, 0, none⟩ 1 1 [.string e0] rfl rfl ?c1 ?c2 (by decide) ?c3 ?c4 ?_)
                case c1 => exact row_new w4 #[.string e0] 9
                case c2 => simp [Value.oneCell']
                case c3 => have := HFI.out.len; unfold maxLen; omega
                case c4 => have := HFI.out.len; omega
                intro v5 w5 qB' hr5 hg5 hf5
                obtain ⟨a5, cap5, rfl, -⟩ := hr5.shape
                obtain ⟨l1, l2, l3, -⟩ := append_beside M1.out hg5 hf5 G2'.out m2.size m2
                obtain ⟨l4, l5⟩ := append_row (o2 := qA') R4.out hg5 hf5 (fun g hg e => M5.out g e.symm hg.symm)
                have hr5' : Rowed w5 9 1 qB' (.slice a5 (c.is.length + 1) cap5) (c.is ++ [y]).length (strs ((c.is ++ [y]).map In.id)) := by
                  simp only [strs, List.map_append, List.length_append, List.map_cons, List.map_nil, List.length_cons, List.length_nil, hyi]
                  exact hr5
                rw [← his] at hr5' l4
                have L1 := Lib.hid l1
                have L3 := Lib.hid l3
                have L4 := Lib.hid l4
                have L5 := Lib.hid (fun g (hg : qB' = some g) (e : some g = qA') => l5 g e.symm hg.symm)
                have R5 := Lib.hid hr5'
                clear l1 l3 l4 l5 hr5 hr5' hg5 hf5 M1 M4 M5 R4
                go_wp2_with fail
                go_roundw
                case rel => exact ⟨k + 1, _, F', qA', qB', by omega, by go_num, l2, HG', L1, L4, R5, HF', M3, L3, L5⟩
                case measure => simp [intOf]; omega
        · have HL := Lib.hid (fun (w : World) (h : Own w p c F) => end_any c p F w x.t h)
          go_wp2_with fail
          refine (HL.out _ (HO.out.below (below_new wr _))).mono ?_
          rintro er w3 ⟨rfl, hO', hS'⟩
          have hS := (Step.of_below (F := F) (below_new wr (.cells #[.int .i64 x.d, .string x.t, .string x.o.t, .string x.o.z, .string x.o.k, .int .i64 x.n, .bool x.cl] 30))).trans hS'
          obtain ⟨r1, n1⟩ := keep_row hS H1.out (fun g hg => (G1.out g hg).2)
          obtain ⟨r2, n2⟩ := keep_row hS H2.out (fun g hg => (G2.out g hg).2)
          have hb' : Below w.heap.size w w3 := hb.trans (hS.below hb.size HF.out)
          have HF' := Lib.hid (hS.far hb.size HF.out)
          have G1' := Lib.hid (fun g (hg : qA = some g) => And.intro (G1.out g hg).1 (n1 g hg))
          have G2' := Lib.hid (fun g (hg : qB = some g) => And.intro (G2.out g hg).1 (n2 g hg))
          have H1' := Lib.hid r1
          have H2' := Lib.hid r2
          have HO' := Lib.hid hO'
          have tx : w3.cell? ⟨wr.heap.size, 1, none⟩ = some (.string x.t) := (hS'.cell (p := ⟨wr.heap.size, 1, none⟩) (by simp) (HO.out.new_not (Nat.le_refl _))).trans (by rw [World.cell?_alloc_new]; rfl)
          clear hO' hS' hS r1 r2 n1 n2 HO H1 H2 HF G1 G2 hb hbl hcs
          clear tx
          have his := fin_is c x.t
          rw [← his] at HFI H1' H2'
          go_wp2_with fail
          go_roundw
          case rel => exact ⟨k + 1, _, F, qA, qB, by omega, by go_num, hb', HFI, HO', H1', H2', HF', G1', G2', G12⟩
          case measure => simp [intOf]; omega
      · have hkl : k = ops.length := by omega
        subst hkl
        have hI := insts_any c p F wr 0 HO.out HFI.out.len
        have hlen : (c.insts 0).length = c.is.length := by simp [Cd.insts]
        rw [hlen] at hI
        have HI2 := Lib.hid hI
        obtain ⟨a1, cap1, rfl, -⟩ := H1.out.shape
        clear HO H1 H2 hI hlen
        go_wp2_with fail
        refine HI2.out.mono ?_
        rintro er w5 ⟨ol, vl, rfl, hR, hb5, -⟩
        obtain ⟨al, capl, rfl, -⟩ := hR.shape
        have hb5' : Below w.heap.size w w5 := hb.trans (hb5.mono hb.size)
        clear hR hb5 hb HI2
        go_wp2_with fail
        go_ret
        exact ⟨rfl, hb5'⟩
end Go.Proofs.YtpoegpojlcbfgaaDoor
