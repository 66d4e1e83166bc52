/- What Ended stays so: CloudEnds, walked. -/
import Derived.Test.YtpoegpojlcbfgaaDoorP
namespace Go.Proofs.YtpoegpojlcbfgaaDoor
open Go.RowKit

/-- From c to d: instances are added, what has ended stays so. -/
structure Grows (c d : Cd) : Prop where
  is : ∃ t, d.is = c.is ++ t
  en : ∀ s, has c.en s = true → has d.en s = true
  len : d.is.length ≤ 64
theorem Grows.refl {c : Cd} (h : c.is.length ≤ 64) : Grows c c := ⟨⟨[], by simp⟩, fun _ h => h, h⟩
theorem Grows.launch {c : Cd} (h : c.is.length ≤ 64) (tok : ByteArray) (o : Of) (now : Int) : Grows c (c.launch tok o now) := by
  cases hb : badL tok o now with
  | true => rw [(launch_bad hb).2]; exact .refl h
  | false =>
    cases hf : c.is.find? (fun x => sq x.tok tok) with
    | some x => rw [(launch_was hb hf).2]; exact .refl h
    | none =>
      by_cases hl : 64 ≤ c.is.length
      · rw [(launch_many hb hf hl).2]; exact .refl h
      · cases ht : takeOk c.sk o with
        | false => rw [(launch_out hb hf hl ht).2]; exact .refl h
        | true =>
          rw [(launch_new hb hf hl ht).2]
          exact ⟨⟨[newIn c tok o now], rfl⟩, fun _ h => h, by simp; omega⟩
theorem Grows.fin {c : Cd} (h : c.is.length ≤ 64) (s : ByteArray) : Grows c (c.fin s) := by
  unfold Cd.fin
  split
  · split
    · exact .refl h
    · exact ⟨⟨[], by simp⟩, fun s' hs => by simp only [has, List.any_append]; unfold has at hs; rw [hs]; rfl, h⟩
  · exact .refl h
theorem st_three {en : List ByteArray} {t : Int} {x : In} (h : has en x.id = true) : stAt en t x = 3 := by unfold stAt; rw [h]; rfl
theorem st_less {en : List ByteArray} {t : Int} {x : In} (h : has en x.id = false) : (stAt en t x == 3) = false := by
  unfold stAt
  rw [h]
  by_cases ht : x.rd ≤ t
  · rw [if_neg (by decide), if_pos ht]; rfl
  · rw [if_neg (by decide), if_neg ht]; rfl
/-- It was Ended, and is still; its number is the same. -/
theorem was_now {c d : Cd} (g : Grows c d) {i : Nat} {x : In} {t : Int} (h : (c.insts t)[i]? = some x) : ∃ y, (d.insts t)[i]? = some y ∧ y.id = x.id ∧ ((x.st == 3) = true ∧ (y.st == 3) = true ∨ (x.st == 3) = false) := by
  obtain ⟨l, hl⟩ := g.is
  simp only [Cd.insts, List.getElem?_map, Option.map_eq_some_iff] at h
  obtain ⟨z, hz, rfl⟩ := h
  have hz' : d.is[i]? = some z := by rw [hl, List.getElem?_append_left (List.getElem?_eq_some_iff.1 hz).1]; exact hz
  refine ⟨z.at d.en t, by simp [Cd.insts, hz'], rfl, ?_⟩
  cases he : has c.en z.id with
  | true => exact .inl ⟨by simp [In.at, st_three he], by simp [In.at, st_three (g.en _ he)]⟩
  | false => exact .inr (st_less he)
/-- At a later time. -/
theorem now_then {d : Cd} {i : Nat} {x : In} {t u : Int} (htu : t ≤ u) (h : (d.insts t)[i]? = some x) : ∃ y, (d.insts u)[i]? = some y ∧ ¬ y.st < x.st ∧ ((x.st == 3) = true ∧ (y.st == 3) = true ∨ (x.st == 3) = false ∧ (y.st == 3) = false) := by
  simp only [Cd.insts, List.getElem?_map, Option.map_eq_some_iff] at h
  obtain ⟨z, hz, rfl⟩ := h
  refine ⟨z.at d.en u, by simp [Cd.insts, hz], ?_, ?_⟩
  · simp only [In.at, stAt]
    split
    · omega
    · split <;> split <;> omega
  · cases he : has d.en z.id with
    | true => exact .inl ⟨by simp [In.at, st_three he], by simp [In.at, st_three he]⟩
    | false => exact .inr ⟨st_less he, st_less he⟩
theorem insts_len (c : Cd) (t : Int) : (c.insts t).length = c.is.length := by simp [Cd.insts]

set_option maxRecDepth 100000 in
set_option maxHeartbeats 8000000 in
theorem cloudEnds_walk (ops : List Opr) (early late : Int) (a : Option Addr) (cap : Nat) (w : World) (hA : Om w a ops) (hl : ops.length ≤ 9223372036854775807) :
    Calls Tryd.prog 5 #[.slice a ops.length cap, .int .i64 early, .int .i64 late] w fun e w' => e = .returned (.bool true) ∧ Below w.heap.size w w' := by
  have HA := Lib.hid hA
  clear hA
  by_cases h100 : 100 < ops.length
  · go_enter Tryd.func5, Tryd.ntmps5
    go_wp2_with fail
    refine (live_any _).mono ?_
    rintro er w1 ⟨rfl, hb1⟩
    go_wp2_with fail
    refine (new_any _).mono ?_
    rintro er w2 ⟨p, F, rfl, hO, hS⟩
    go_wp2_with fail
    go_ret
    exact ⟨rfl, hb1.trans (hS.below hb1.size (fun k hk => by cases hk))⟩
  · by_cases hel : late < early
    · go_enter Tryd.func5, Tryd.ntmps5
      go_wp2_with fail
      refine (live_any _).mono ?_
      rintro er w1 ⟨rfl, hb1⟩
      go_wp2_with fail
      refine (new_any _).mono ?_
      rintro er w2 ⟨p, F, rfl, hO, hS⟩
      go_wp2_with fail
      go_ret
      exact ⟨rfl, hb1.trans (hS.below hb1.size (fun k hk => by cases hk))⟩
    · have HEL := Lib.hid (show early ≤ late by omega)
      go_enter Tryd.func5, Tryd.ntmps5
      go_wp2_with fail
      refine (live_any _).mono ?_
      rintro er w1 ⟨rfl, hb1⟩
      go_wp2_with fail
      refine (new_any _).mono ?_
      rintro er w2 ⟨p, F, rfl, hO, hS⟩
      have hb2 : Below w.heap.size w w2 := hb1.trans (hS.below hb1.size (fun k hk => by cases hk))
      have hF : ∀ k ∈ F, w.heap.size ≤ k := hS.far hb1.size (fun k hk => by cases hk)
      have HO2 := Lib.hid hO
      clear hb1 hS hO
      go_wp2_with fail
      go_loopw [9, 37] (fun tv i wr => ∃ (k : Nat) (c : Cd) (F : List Nat) (qA : Option Nat), k ≤ ops.length ∧ i = .int .i64 k ∧ Below w.heap.size w wr ∧ Hid (c.is.length ≤ 64) ∧ Hid (Own wr p c F) ∧ Hid (Rowed wr 41 7 qA tv c.is.length ((c.insts early).flatMap In.cells)) ∧ Hid (∀ k ∈ F, w.heap.size ≤ k) ∧ Hid (∀ g, qA = some g → w.heap.size ≤ g ∧ g ∉ F))
        (fun _ i _ => ops.length - (intOf i).toNat)
      case atStart => exact ⟨0, Cd.new, F, none, Nat.zero_le _, rfl, hb2, (by simp [Hid, Cd.new]), HO2, Rowed.nil _ _ _, hF, fun g hg => (by cases hg)⟩
      case round =>
        obtain ⟨k, c, F, qA, hk, rfl, hb, H64, HO, H1, HF, G1⟩ := hrel
        by_cases hlt : k < ops.length
        · obtain ⟨x, hx⟩ : ∃ x, ops[k]? = some x := ⟨_, List.getElem?_eq_getElem hlt⟩
          obtain ⟨b, off, rfl, hbl, hcs, hsz⟩ := (HA.out.below (Nat.le_refl _) hb) k x hx
          have hc0 := hcs 0 _ rfl
          have hc1 := hcs 1 _ rfl
          have hc2 := hcs 2 _ rfl
          have hc3 := hcs 3 _ rfl
          have hc4 := hcs 4 _ rfl
          have hc5 := hcs 5 _ rfl
          have hc6 := hcs 6 _ rfl
          simp only [Nat.add_zero] at hc0
          clear hx hcs
          rcases hd0 : (x.d == 0) with _ | _
          · rcases hd1 : (x.d == 1) with _ | _
            · have GR := Lib.hid (Grows.refl H64.out)
              obtain ⟨w3, hw3⟩ : ∃ w3, w3 = wr.alloc (.cells #[.int .i64 x.d, .string x.t, .string x.o.t, .string x.o.z, .string x.o.k, .int .i64 x.n, .bool x.cl] 30) := ⟨_, rfl⟩
              have hS' : Step F F (wr.alloc (.cells #[.int .i64 x.d, .string x.t, .string x.o.t, .string x.o.z, .string x.o.k, .int .i64 x.n, .bool x.cl] 30)) w3 := by rw [hw3]; exact Step.of_below (Below.refl _ _)
              have hO' : Own w3 p c F := by rw [hw3]; exact HO.out.below (below_new wr _)
              obtain ⟨F', hF'⟩ : ∃ F', F = F' := ⟨_, rfl⟩
              go_wp2_with fail
              rw [← hw3]
              have hS := (Step.of_below (F := F) (below_new wr (.cells #[.int .i64 x.d, .string x.t, .string x.o.t, .string x.o.z, .string x.o.k, .int .i64 x.n, .bool x.cl] 30))).trans hS'
              obtain ⟨r1, n1⟩ := keep_row hS H1.out (fun g hg => (G1.out g hg).2)
              have hb' : Below w.heap.size w w3 := hb.trans (hS.below hb.size HF.out)
              have HF' := Lib.hid (hS.far hb.size HF.out)
              have G1' := Lib.hid (fun g (hg : qA = some g) => And.intro (G1.out g hg).1 (n1 g hg))
              have H1' := Lib.hid r1
              have HO' := Lib.hid hO'
              rw [hF'] at HO' HF' G1'
              clear hF' hw3 hO' hS' hS r1 n1 HO H1 HF G1 hb hbl hc0 hc1 hc2 hc3 hc4 hc5 hc6
              obtain ⟨D, GR, HO'⟩ : ∃ D, Hid (Grows c D) ∧ Hid (Own w3 p D F') := ⟨c, GR, HO'⟩
              have LC := Lib.hid (insts_len c early)
              have L1 := Lib.hid (insts_len D early)
              have L2 := Lib.hid (insts_len D late)
              obtain ⟨a1, cap1, rfl, -⟩ := H1'.out.shape
              have HN1 := Lib.hid (insts_any D p F' w3 early HO'.out GR.out.len)
              go_wp2_with fail
              refine HN1.out.mono ?_
              rintro er w4 ⟨ol, vl, rfl, hRl, hb4, hgl⟩
              have hnl : ∀ g, ol = some g → g ∉ F' := fun g hg => HO'.out.new_not (hgl g hg)
              have hwl : ∀ g, ol = some g → w.heap.size ≤ g := fun g hg => by have := hgl g hg; have := hb'.size; omega
              have HO4 := Lib.hid (HO'.out.below hb4)
              have H14 := Lib.hid (H1'.out.below hb4)
              have hb4' : Below w.heap.size w w4 := hb'.trans (hb4.mono hb'.size)
              rw [L1.out] at hRl
              obtain ⟨al, capl, rfl, -⟩ := hRl.shape
              have RL4 := Lib.hid hRl
              clear hRl hb4 hgl HO' H1' hb' HN1
              have HN2 := Lib.hid (insts_any D p F' w4 late HO4.out GR.out.len)
              go_wp2_with fail
              refine HN2.out.mono ?_
              rintro er w5 ⟨om, vm, rfl, hRm, hb5, -⟩
              have HO5 := Lib.hid (HO4.out.below hb5)
              have H15 := Lib.hid (H14.out.below hb5)
              have RL5 := Lib.hid (RL4.out.below hb5)
              have hb5' : Below w.heap.size w w5 := hb4'.trans (hb5.mono hb4'.size)
              rw [L2.out] at hRm
              obtain ⟨am, capm, rfl, -⟩ := hRm.shape
              have RM5 := Lib.hid hRm
              have hlc : c.is.length ≤ 9223372036854775807 := by have := H64.out; omega
              have hlD : D.is.length ≤ 9223372036854775807 := by have := GR.out.len; omega
              clear hRm hb5 HO4 H14 RL4 hb4' HN2
              go_wp2_with fail
              go_loopw [67] (fun i wr' => ∃ k2 : Nat, k2 ≤ c.is.length ∧ i = .int .i64 k2 ∧ Below w5.heap.size w5 wr')
                (fun i _ => c.is.length - (intOf i).toNat)
              case atStart => exact ⟨0, Nat.zero_le _, rfl, Below.refl _ _⟩
              case round =>
                obtain ⟨k2, hk2, rfl, hbr⟩ := hrel
                by_cases hlt2 : k2 < c.is.length
                · obtain ⟨y1, hy1⟩ : ∃ y1, (c.insts early)[k2]? = some y1 := ⟨_, List.getElem?_eq_getElem (by rw [LC.out]; exact hlt2)⟩
                  obtain ⟨y2, hy2, hid, hst⟩ := was_now GR.out hy1
                  obtain ⟨g1, of1, cp1, hv1, -, -, -, e1, -⟩ := Rowed.elt (l := c.insts early) in_len (by rw [LC.out]; exact H15.out.below hbr) hy1
                  obtain ⟨g2, of2, cp2, hv2, -, -, -, e2, -⟩ := Rowed.elt (l := D.insts early) in_len (by rw [L1.out]; exact RL5.out.below hbr) hy2
                  rw [LC.out] at hv1
                  rw [L1.out] at hv2
                  cases hv1
                  cases hv2
                  have hltD : k2 < D.is.length := by have := (List.getElem?_eq_some_iff.1 hy2).1; rw [L1.out] at this; exact this
                  have c10 := e1 0 _ rfl
                  have c15 := e1 5 _ rfl
                  have c20 := e2 0 _ rfl
                  have c25 := e2 5 _ rfl
                  rw [hid] at c20
                  simp only [Nat.add_zero] at c10 c20
                  clear e1 e2 hy1 hy2 hid
                  rcases hst with ⟨s1, s2⟩ | s1
                  · have s2' : (y2.st != 3) = false := by rw [bne, s2]; rfl
                    go_wp2_with fail
                    go_quiet (fail)
                    go_wp2_with fail
                    go_roundw
                    case rel => exact ⟨k2 + 1, by omega, by go_num, below_drewN hbr _⟩
                    case measure => simp [intOf]; omega
                  · go_wp2_with fail
                    go_quiet (fail)
                    go_wp2_with fail
                    go_roundw
                    case rel => exact ⟨k2 + 1, by omega, by go_num, below_drewN hbr _⟩
                    case measure => simp [intOf]; omega
                · have hkl2 : k2 = c.is.length := by omega
                  subst hkl2
                  obtain ⟨w6, rfl⟩ : ∃ w6 : World, w6 = wr := ⟨_, rfl⟩
                  have HO6 := Lib.hid (HO5.out.below hbr)
                  have RL6 := Lib.hid (RL5.out.below hbr)
                  have RM6 := Lib.hid (RM5.out.below hbr)
                  have hb6' : Below w.heap.size w w6 := hb5'.trans (hbr.mono hb5'.size)
                  clear hbr HO5 H15 RL5 RM5 hb5'
                  go_wp2_with fail
                  go_loopw [100] (fun i wr' => ∃ k3 : Nat, k3 ≤ D.is.length ∧ i = .int .i64 k3 ∧ Below w6.heap.size w6 wr')
                    (fun i _ => D.is.length - (intOf i).toNat)
                  case atStart => exact ⟨0, Nat.zero_le _, rfl, Below.refl _ _⟩
                  case round =>
                    obtain ⟨k3, hk3, rfl, hbr⟩ := hrel
                    by_cases hlt3 : k3 < D.is.length
                    · obtain ⟨y1, hy1⟩ : ∃ y1, (D.insts early)[k3]? = some y1 := ⟨_, List.getElem?_eq_getElem (by rw [L1.out]; exact hlt3)⟩
                      obtain ⟨y2, hy2, hno, hst⟩ := now_then HEL.out hy1
                      obtain ⟨g1, of1, cp1, hv1, -, -, -, e1, -⟩ := Rowed.elt (l := D.insts early) in_len (by rw [L1.out]; exact RL6.out.below hbr) hy1
                      obtain ⟨g2, of2, cp2, hv2, -, -, -, e2, -⟩ := Rowed.elt (l := D.insts late) in_len (by rw [L2.out]; exact RM6.out.below hbr) hy2
                      rw [L1.out] at hv1
                      rw [L2.out] at hv2
                      cases hv1
                      cases hv2
                      have c15 := e1 5 _ rfl
                      have c25 := e2 5 _ rfl
                      clear e1 e2 hy1 hy2
                      rcases hst with ⟨s1, s2⟩ | ⟨s1, s2⟩
                      · go_wp2_with fail
                        go_quiet (fail)
                        go_wp2_with fail
                        go_roundw
                        case rel => exact ⟨k3 + 1, by omega, by go_num, below_drewN hbr _⟩
                        case measure => simp [intOf]; omega
                      · go_wp2_with fail
                        go_quiet (fail)
                        go_wp2_with fail
                        go_roundw
                        case rel => exact ⟨k3 + 1, by omega, by go_num, below_drewN hbr _⟩
                        case measure => simp [intOf]; omega
                    · have hkl3 : k3 = D.is.length := by omega
                      subst hkl3
                      have HO7 := Lib.hid (HO6.out.below hbr)
                      have RL7 := Lib.hid (RL6.out.below hbr)
                      have hb7' : Below w.heap.size w wr := hb6'.trans (hbr.mono hb6'.size)
                      clear hbr HO6 RL6 RM6 hb6'
                      go_wp2_with fail
                      go_roundw
                      case rel => exact ⟨k + 1, D, F', ol, by omega, by go_num, hb7', GR.out.len, HO7, RL7, HF', fun g hg => ⟨hwl g hg, hnl g hg⟩⟩
                      case measure => simp [intOf]; omega
            · have GR := Lib.hid (Grows.fin H64.out x.t)
              have HL := Lib.hid (fun (w : World) (h : Own w p c F) => end_any c p F w x.t h)
              go_wp2_with fail
              refine (HL.out _ (HO.out.below (below_new wr _))).mono ?_
              rintro er w3 ⟨rfl, hO', hS'⟩
              obtain ⟨F', hF'⟩ : ∃ F', F = F' := ⟨_, rfl⟩
              have hS := (Step.of_below (F := F) (below_new wr (.cells #[.int .i64 x.d, .string x.t, .string x.o.t, .string x.o.z, .string x.o.k, .int .i64 x.n, .bool x.cl] 30))).trans hS'
              obtain ⟨r1, n1⟩ := keep_row hS H1.out (fun g hg => (G1.out g hg).2)
              have hb' : Below w.heap.size w w3 := hb.trans (hS.below hb.size HF.out)
              have HF' := Lib.hid (hS.far hb.size HF.out)
              have G1' := Lib.hid (fun g (hg : qA = some g) => And.intro (G1.out g hg).1 (n1 g hg))
              have H1' := Lib.hid r1
              have HO' := Lib.hid hO'
              rw [hF'] at HO' HF' G1'
              clear hF' hO' hS' hS r1 n1 HO H1 HF G1 hb hbl hc0 hc1 hc2 hc3 hc4 hc5 hc6
              clear HL
              obtain ⟨D, GR, HO'⟩ : ∃ D, Hid (Grows c D) ∧ Hid (Own w3 p D F') := ⟨c.fin x.t, GR, HO'⟩
              have LC := Lib.hid (insts_len c early)
              have L1 := Lib.hid (insts_len D early)
              have L2 := Lib.hid (insts_len D late)
              obtain ⟨a1, cap1, rfl, -⟩ := H1'.out.shape
              have HN1 := Lib.hid (insts_any D p F' w3 early HO'.out GR.out.len)
              go_wp2_with fail
              refine HN1.out.mono ?_
              rintro er w4 ⟨ol, vl, rfl, hRl, hb4, hgl⟩
              have hnl : ∀ g, ol = some g → g ∉ F' := fun g hg => HO'.out.new_not (hgl g hg)
              have hwl : ∀ g, ol = some g → w.heap.size ≤ g := fun g hg => by have := hgl g hg; have := hb'.size; omega
              have HO4 := Lib.hid (HO'.out.below hb4)
              have H14 := Lib.hid (H1'.out.below hb4)
              have hb4' : Below w.heap.size w w4 := hb'.trans (hb4.mono hb'.size)
              rw [L1.out] at hRl
              obtain ⟨al, capl, rfl, -⟩ := hRl.shape
              have RL4 := Lib.hid hRl
              clear hRl hb4 hgl HO' H1' hb' HN1
              have HN2 := Lib.hid (insts_any D p F' w4 late HO4.out GR.out.len)
              go_wp2_with fail
              refine HN2.out.mono ?_
              rintro er w5 ⟨om, vm, rfl, hRm, hb5, -⟩
              have HO5 := Lib.hid (HO4.out.below hb5)
              have H15 := Lib.hid (H14.out.below hb5)
              have RL5 := Lib.hid (RL4.out.below hb5)
              have hb5' : Below w.heap.size w w5 := hb4'.trans (hb5.mono hb4'.size)
              rw [L2.out] at hRm
              obtain ⟨am, capm, rfl, -⟩ := hRm.shape
              have RM5 := Lib.hid hRm
              have hlc : c.is.length ≤ 9223372036854775807 := by have := H64.out; omega
              have hlD : D.is.length ≤ 9223372036854775807 := by have := GR.out.len; omega
              clear hRm hb5 HO4 H14 RL4 hb4' HN2
              go_wp2_with fail
              go_loopw [67] (fun i wr' => ∃ k2 : Nat, k2 ≤ c.is.length ∧ i = .int .i64 k2 ∧ Below w5.heap.size w5 wr')
                (fun i _ => c.is.length - (intOf i).toNat)
              case atStart => exact ⟨0, Nat.zero_le _, rfl, Below.refl _ _⟩
              case round =>
                obtain ⟨k2, hk2, rfl, hbr⟩ := hrel
                by_cases hlt2 : k2 < c.is.length
                · obtain ⟨y1, hy1⟩ : ∃ y1, (c.insts early)[k2]? = some y1 := ⟨_, List.getElem?_eq_getElem (by rw [LC.out]; exact hlt2)⟩
                  obtain ⟨y2, hy2, hid, hst⟩ := was_now GR.out hy1
                  obtain ⟨g1, of1, cp1, hv1, -, -, -, e1, -⟩ := Rowed.elt (l := c.insts early) in_len (by rw [LC.out]; exact H15.out.below hbr) hy1
                  obtain ⟨g2, of2, cp2, hv2, -, -, -, e2, -⟩ := Rowed.elt (l := D.insts early) in_len (by rw [L1.out]; exact RL5.out.below hbr) hy2
                  rw [LC.out] at hv1
                  rw [L1.out] at hv2
                  cases hv1
                  cases hv2
                  have hltD : k2 < D.is.length := by have := (List.getElem?_eq_some_iff.1 hy2).1; rw [L1.out] at this; exact this
                  have c10 := e1 0 _ rfl
                  have c15 := e1 5 _ rfl
                  have c20 := e2 0 _ rfl
                  have c25 := e2 5 _ rfl
                  rw [hid] at c20
                  simp only [Nat.add_zero] at c10 c20
                  clear e1 e2 hy1 hy2 hid
                  rcases hst with ⟨s1, s2⟩ | s1
                  · have s2' : (y2.st != 3) = false := by rw [bne, s2]; rfl
                    go_wp2_with fail
                    go_quiet (fail)
                    go_wp2_with fail
                    go_roundw
                    case rel => exact ⟨k2 + 1, by omega, by go_num, below_drewN hbr _⟩
                    case measure => simp [intOf]; omega
                  · go_wp2_with fail
                    go_quiet (fail)
                    go_wp2_with fail
                    go_roundw
                    case rel => exact ⟨k2 + 1, by omega, by go_num, below_drewN hbr _⟩
                    case measure => simp [intOf]; omega
                · have hkl2 : k2 = c.is.length := by omega
                  subst hkl2
                  obtain ⟨w6, rfl⟩ : ∃ w6 : World, w6 = wr := ⟨_, rfl⟩
                  have HO6 := Lib.hid (HO5.out.below hbr)
                  have RL6 := Lib.hid (RL5.out.below hbr)
                  have RM6 := Lib.hid (RM5.out.below hbr)
                  have hb6' : Below w.heap.size w w6 := hb5'.trans (hbr.mono hb5'.size)
                  clear hbr HO5 H15 RL5 RM5 hb5'
                  go_wp2_with fail
                  go_loopw [100] (fun i wr' => ∃ k3 : Nat, k3 ≤ D.is.length ∧ i = .int .i64 k3 ∧ Below w6.heap.size w6 wr')
                    (fun i _ => D.is.length - (intOf i).toNat)
                  case atStart => exact ⟨0, Nat.zero_le _, rfl, Below.refl _ _⟩
                  case round =>
                    obtain ⟨k3, hk3, rfl, hbr⟩ := hrel
                    by_cases hlt3 : k3 < D.is.length
                    · obtain ⟨y1, hy1⟩ : ∃ y1, (D.insts early)[k3]? = some y1 := ⟨_, List.getElem?_eq_getElem (by rw [L1.out]; exact hlt3)⟩
                      obtain ⟨y2, hy2, hno, hst⟩ := now_then HEL.out hy1
                      obtain ⟨g1, of1, cp1, hv1, -, -, -, e1, -⟩ := Rowed.elt (l := D.insts early) in_len (by rw [L1.out]; exact RL6.out.below hbr) hy1
                      obtain ⟨g2, of2, cp2, hv2, -, -, -, e2, -⟩ := Rowed.elt (l := D.insts late) in_len (by rw [L2.out]; exact RM6.out.below hbr) hy2
                      rw [L1.out] at hv1
                      rw [L2.out] at hv2
                      cases hv1
                      cases hv2
                      have c15 := e1 5 _ rfl
                      have c25 := e2 5 _ rfl
                      clear e1 e2 hy1 hy2
                      rcases hst with ⟨s1, s2⟩ | ⟨s1, s2⟩
                      · go_wp2_with fail
                        go_quiet (fail)
                        go_wp2_with fail
                        go_roundw
                        case rel => exact ⟨k3 + 1, by omega, by go_num, below_drewN hbr _⟩
                        case measure => simp [intOf]; omega
                      · go_wp2_with fail
                        go_quiet (fail)
                        go_wp2_with fail
                        go_roundw
                        case rel => exact ⟨k3 + 1, by omega, by go_num, below_drewN hbr _⟩
                        case measure => simp [intOf]; omega
                    · have hkl3 : k3 = D.is.length := by omega
                      subst hkl3
                      have HO7 := Lib.hid (HO6.out.below hbr)
                      have RL7 := Lib.hid (RL6.out.below hbr)
                      have hb7' : Below w.heap.size w wr := hb6'.trans (hbr.mono hb6'.size)
                      clear hbr HO6 RL6 RM6 hb6'
                      go_wp2_with fail
                      go_roundw
                      case rel => exact ⟨k + 1, D, F', ol, by omega, by go_num, hb7', GR.out.len, HO7, RL7, HF', fun g hg => ⟨hwl g hg, hnl g hg⟩⟩
                      case measure => simp [intOf]; omega
          · have GR := Lib.hid (Grows.launch H64.out x.t x.o x.n)
            have HL := Lib.hid (fun (w : World) (h : Own w p c F) => launch_any c p F w x.t x.o x.n hsz H64.out h)
            go_wp2_with fail
            refine (HL.out _ (HO.out.below (below_new wr _))).mono ?_
            rintro er w3 ⟨rfl, F', hO', hS'⟩
            have hS := (Step.of_below (F := F) (below_new wr (.cells #[.int .i64 x.d, .string x.t, .string x.o.t, .string x.o.z, .string x.o.k, .int .i64 x.n, .bool x.cl] 30))).trans hS'
            obtain ⟨r1, n1⟩ := keep_row hS H1.out (fun g hg => (G1.out g hg).2)
            have hb' : Below w.heap.size w w3 := hb.trans (hS.below hb.size HF.out)
            have HF' := Lib.hid (hS.far hb.size HF.out)
            have G1' := Lib.hid (fun g (hg : qA = some g) => And.intro (G1.out g hg).1 (n1 g hg))
            have H1' := Lib.hid r1
            have HO' := Lib.hid hO'
            clear hO' hS' hS r1 n1 HO H1 HF G1 hb hbl hc0 hc1 hc2 hc3 hc4 hc5 hc6
            clear HL
            obtain ⟨D, GR, HO'⟩ : ∃ D, Hid (Grows c D) ∧ Hid (Own w3 p D F') := ⟨c.launch x.t x.o x.n, GR, HO'⟩
            have LC := Lib.hid (insts_len c early)
            have L1 := Lib.hid (insts_len D early)
            have L2 := Lib.hid (insts_len D late)
            obtain ⟨a1, cap1, rfl, -⟩ := H1'.out.shape
            have HN1 := Lib.hid (insts_any D p F' w3 early HO'.out GR.out.len)
            go_wp2_with fail
            refine HN1.out.mono ?_
            rintro er w4 ⟨ol, vl, rfl, hRl, hb4, hgl⟩
            have hnl : ∀ g, ol = some g → g ∉ F' := fun g hg => HO'.out.new_not (hgl g hg)
            have hwl : ∀ g, ol = some g → w.heap.size ≤ g := fun g hg => by have := hgl g hg; have := hb'.size; omega
            have HO4 := Lib.hid (HO'.out.below hb4)
            have H14 := Lib.hid (H1'.out.below hb4)
            have hb4' : Below w.heap.size w w4 := hb'.trans (hb4.mono hb'.size)
            rw [L1.out] at hRl
            obtain ⟨al, capl, rfl, -⟩ := hRl.shape
            have RL4 := Lib.hid hRl
            clear hRl hb4 hgl HO' H1' hb' HN1
            have HN2 := Lib.hid (insts_any D p F' w4 late HO4.out GR.out.len)
            go_wp2_with fail
            refine HN2.out.mono ?_
            rintro er w5 ⟨om, vm, rfl, hRm, hb5, -⟩
            have HO5 := Lib.hid (HO4.out.below hb5)
            have H15 := Lib.hid (H14.out.below hb5)
            have RL5 := Lib.hid (RL4.out.below hb5)
            have hb5' : Below w.heap.size w w5 := hb4'.trans (hb5.mono hb4'.size)
            rw [L2.out] at hRm
            obtain ⟨am, capm, rfl, -⟩ := hRm.shape
            have RM5 := Lib.hid hRm
            have hlc : c.is.length ≤ 9223372036854775807 := by have := H64.out; omega
            have hlD : D.is.length ≤ 9223372036854775807 := by have := GR.out.len; omega
            clear hRm hb5 HO4 H14 RL4 hb4' HN2
            go_wp2_with fail
            go_loopw [67] (fun i wr' => ∃ k2 : Nat, k2 ≤ c.is.length ∧ i = .int .i64 k2 ∧ Below w5.heap.size w5 wr')
              (fun i _ => c.is.length - (intOf i).toNat)
            case atStart => exact ⟨0, Nat.zero_le _, rfl, Below.refl _ _⟩
            case round =>
              obtain ⟨k2, hk2, rfl, hbr⟩ := hrel
              by_cases hlt2 : k2 < c.is.length
              · obtain ⟨y1, hy1⟩ : ∃ y1, (c.insts early)[k2]? = some y1 := ⟨_, List.getElem?_eq_getElem (by rw [LC.out]; exact hlt2)⟩
                obtain ⟨y2, hy2, hid, hst⟩ := was_now GR.out hy1
                obtain ⟨g1, of1, cp1, hv1, -, -, -, e1, -⟩ := Rowed.elt (l := c.insts early) in_len (by rw [LC.out]; exact H15.out.below hbr) hy1
                obtain ⟨g2, of2, cp2, hv2, -, -, -, e2, -⟩ := Rowed.elt (l := D.insts early) in_len (by rw [L1.out]; exact RL5.out.below hbr) hy2
                rw [LC.out] at hv1
                rw [L1.out] at hv2
                cases hv1
                cases hv2
                have hltD : k2 < D.is.length := by have := (List.getElem?_eq_some_iff.1 hy2).1; rw [L1.out] at this; exact this
                have c10 := e1 0 _ rfl
                have c15 := e1 5 _ rfl
                have c20 := e2 0 _ rfl
                have c25 := e2 5 _ rfl
                rw [hid] at c20
                simp only [Nat.add_zero] at c10 c20
                clear e1 e2 hy1 hy2 hid
                rcases hst with ⟨s1, s2⟩ | s1
                · have s2' : (y2.st != 3) = false := by rw [bne, s2]; rfl
                  go_wp2_with fail
                  go_quiet (fail)
                  go_wp2_with fail
                  go_roundw
                  case rel => exact ⟨k2 + 1, by omega, by go_num, below_drewN hbr _⟩
                  case measure => simp [intOf]; omega
                · go_wp2_with fail
                  go_quiet (fail)
                  go_wp2_with fail
                  go_roundw
                  case rel => exact ⟨k2 + 1, by omega, by go_num, below_drewN hbr _⟩
                  case measure => simp [intOf]; omega
              · have hkl2 : k2 = c.is.length := by omega
                subst hkl2
                obtain ⟨w6, rfl⟩ : ∃ w6 : World, w6 = wr := ⟨_, rfl⟩
                have HO6 := Lib.hid (HO5.out.below hbr)
                have RL6 := Lib.hid (RL5.out.below hbr)
                have RM6 := Lib.hid (RM5.out.below hbr)
                have hb6' : Below w.heap.size w w6 := hb5'.trans (hbr.mono hb5'.size)
                clear hbr HO5 H15 RL5 RM5 hb5'
                go_wp2_with fail
                go_loopw [100] (fun i wr' => ∃ k3 : Nat, k3 ≤ D.is.length ∧ i = .int .i64 k3 ∧ Below w6.heap.size w6 wr')
                  (fun i _ => D.is.length - (intOf i).toNat)
                case atStart => exact ⟨0, Nat.zero_le _, rfl, Below.refl _ _⟩
                case round =>
                  obtain ⟨k3, hk3, rfl, hbr⟩ := hrel
                  by_cases hlt3 : k3 < D.is.length
                  · obtain ⟨y1, hy1⟩ : ∃ y1, (D.insts early)[k3]? = some y1 := ⟨_, List.getElem?_eq_getElem (by rw [L1.out]; exact hlt3)⟩
                    obtain ⟨y2, hy2, hno, hst⟩ := now_then HEL.out hy1
                    obtain ⟨g1, of1, cp1, hv1, -, -, -, e1, -⟩ := Rowed.elt (l := D.insts early) in_len (by rw [L1.out]; exact RL6.out.below hbr) hy1
                    obtain ⟨g2, of2, cp2, hv2, -, -, -, e2, -⟩ := Rowed.elt (l := D.insts late) in_len (by rw [L2.out]; exact RM6.out.below hbr) hy2
                    rw [L1.out] at hv1
                    rw [L2.out] at hv2
                    cases hv1
                    cases hv2
                    have c15 := e1 5 _ rfl
                    have c25 := e2 5 _ rfl
                    clear e1 e2 hy1 hy2
                    rcases hst with ⟨s1, s2⟩ | ⟨s1, s2⟩
                    · go_wp2_with fail
                      go_quiet (fail)
                      go_wp2_with fail
                      go_roundw
                      case rel => exact ⟨k3 + 1, by omega, by go_num, below_drewN hbr _⟩
                      case measure => simp [intOf]; omega
                    · go_wp2_with fail
                      go_quiet (fail)
                      go_wp2_with fail
                      go_roundw
                      case rel => exact ⟨k3 + 1, by omega, by go_num, below_drewN hbr _⟩
                      case measure => simp [intOf]; omega
                  · have hkl3 : k3 = D.is.length := by omega
                    subst hkl3
                    have HO7 := Lib.hid (HO6.out.below hbr)
                    have RL7 := Lib.hid (RL6.out.below hbr)
                    have hb7' : Below w.heap.size w wr := hb6'.trans (hbr.mono hb6'.size)
                    clear hbr HO6 RL6 RM6 hb6'
                    go_wp2_with fail
                    go_roundw
                    case rel => exact ⟨k + 1, D, F', ol, by omega, by go_num, hb7', GR.out.len, HO7, RL7, HF', fun g hg => ⟨hwl g hg, hnl g hg⟩⟩
                    case measure => simp [intOf]; omega
        · have hkl : k = ops.length := by omega
          subst hkl
          go_wp2_with fail
          go_ret
          exact ⟨rfl, hb⟩
end Go.Proofs.YtpoegpojlcbfgaaDoor
