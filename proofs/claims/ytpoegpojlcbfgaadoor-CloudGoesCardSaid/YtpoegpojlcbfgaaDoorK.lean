/- Notices are taken in their order: CloudNotes, walked. -/
import Derived.Test.YtpoegpojlcbfgaaDoorJ
namespace Go.Proofs.YtpoegpojlcbfgaaDoor
open Go.RowKit

/-- Strings in memory. -/
def Sm (w : World) (a : Option Addr) (l : List ByteArray) : Prop := ∀ i s, l[i]? = some s → ∃ b off, a = some ⟨b, off, none⟩ ∧ b < w.heap.size ∧ w.cell? ⟨b, off + i, none⟩ = some (.string s) ∧ s.size ≤ 9223372036854775807
theorem Sm.below {w w' : World} {B : Nat} {a : Option Addr} {l : List ByteArray} (h : Sm w a l) (hB : w.heap.size ≤ B) (hb : Below B w w') : Sm w' a l := fun i s hi => by
  obtain ⟨b, off, e, hlt, hc, hs⟩ := h i s hi
  exact ⟨b, off, e, by have := hb.size; omega, (hb.cell (p := ⟨b, off + i, none⟩) (by show b < B; omega)).trans hc, hs⟩
theorem step_grown {w w' : World} {o o' : Option Nat} (hg : w.grownBy w' o) (hf : Fresh w w' o o') : Step o.toList o'.toList w w' := by
  refine ⟨hg.os, hg.tape, hg.output, hg.size, fun k hk hn => hg.block k hk (fun e => hn (by rw [← e]; simp)), fun k hk => ?_⟩
  rcases hf with rfl | ⟨g, rfl, h1, _⟩
  · exact .inl hk
  · right
    have : k = g := by simpa using hk
    omega
/-- An append onto a row beside the cloud. -/
theorem append_beside {w w3 w4 : World} {tmp : Obj} {o o' : Option Nat} {p B : Nat} {c : Cd} {F : List Nat} (hO : Own w3 p c F) (hg : (w3.alloc tmp).grownBy w4 o) (hf : Fresh (w3.alloc tmp) w4 o o') (hG : ∀ g, o = some g → B ≤ g ∧ g ∉ F) (hB : B ≤ w3.heap.size) (hb : Below B w w3) :
    Own w4 p c F ∧ Below B w w4 ∧ (∀ g, o' = some g → B ≤ g ∧ g ∉ F) ∧ ∀ k ∈ F, k < w4.heap.size := by
  have h1 := hO.below (below_new w3 tmp)
  have hs := step_grown hg hf
  have hO4 : Own w4 p c F := h1.other hs (fun k hk hm => by
    rcases ho : o with _ | g
    · rw [ho] at hm; simp at hm
    · rw [ho] at hm
      have : k = g := by simpa using hm
      subst this
      exact (hG k ho).2 hk)
  refine ⟨hO4, hb.trans ((((Below.refl B w3).alloc hB tmp)).grown hg (by simp; omega) (fun g e => (hG g e).1)), fun g e => ?_, hO4.lt⟩
  rcases hf with rfl | ⟨g', rfl, h2, _⟩
  · exact hG g e
  · cases e
    simp at h2
    exact ⟨by omega, fun hm => by have := hO.lt g hm; omega⟩
def nst (l : List ByteArray) : Cd := ⟨[], [], [], 0, l, 0⟩
def tst (l : List ByteArray) (k : Nat) : Cd := ⟨[], [], [], 0, l.drop k, k⟩
theorem notify_nst (l : List ByteArray) (s : ByteArray) : ((notifyE (nst l) s == 0) = true ∧ (nst l).notify s = nst (l ++ [s]) ∧ l.length < 32) ∨ ((notifyE (nst l) s == 0) = false ∧ (nst l).notify s = nst l) := by
  unfold notifyE Cd.notify
  split
  · exact .inr ⟨rfl, rfl⟩
  · split
    · exact .inr ⟨rfl, rfl⟩
    · rename_i h
      exact .inl ⟨rfl, rfl, by have : ¬ 32 ≤ l.length := h; omega⟩
theorem take_tst {l : List ByteArray} {k : Nat} {s : ByteArray} (h : l[k]? = some s) (hk : k < 4611686018427387904) : takeE (tst l k) = (s, 0) ∧ (tst l k).take = tst l (k + 1) := by
  obtain ⟨hlt, rfl⟩ := List.getElem?_eq_some_iff.1 h
  have hd : (tst l k).ns = l[k] :: l.drop (k + 1) := List.drop_eq_getElem_cons hlt
  have hw : wrap64 ((k : Int) + 1) = ((k + 1 : Nat) : Int) := by unfold wrap64; omega
  refine ⟨by unfold takeE; rw [hd], ?_⟩
  unfold Cd.take
  rw [hd]
  show (⟨[], [], [], 0, l.drop (k + 1), wrap64 ((k : Int) + 1)⟩ : Cd) = _
  rw [hw]
  rfl
theorem take_end (l : List ByteArray) : takeE (tst l l.length) = (⟨#[]⟩, 5) := by
  unfold takeE tst
  simp

set_option maxRecDepth 100000 in
set_option maxHeartbeats 4000000 in
theorem cloudNotes_walk (ids : List ByteArray) (a : Option Addr) (cap : Nat) (w : World) (hA : Sm w a ids) (hl : ids.length ≤ 9223372036854775807) :
    Calls Tryd.prog 6 #[.slice a ids.length cap] w fun e w' => e = .returned (.bool true) ∧ Below w.heap.size w w' := by
  have HA := Lib.hid hA
  clear hA
  by_cases h100 : 100 < ids.length
  · go_enter Tryd.func6, Tryd.ntmps6
    go_wp2_with fail
    refine (live_any _).mono ?_
    rintro er w1 ⟨rfl, hb1⟩
    go_wp2_with fail
    refine (new_any _).mono ?_
    rintro er w2 ⟨p, F, rfl, hO, hS⟩
    go_wp2_with fail
    go_ret
    exact ⟨rfl, hb1.trans (hS.below hb1.size (fun k hk => by cases hk))⟩
  · obtain ⟨i0, hi, hz0, hz1, hz2⟩ := info_parts info9
    have HI := Lib.hid hi
    have HZ0 := Lib.hid hz0
    have HZ1 := Lib.hid hz1
    have HZ2 := Lib.hid hz2
    clear hi hz0 hz1 hz2
    go_enter Tryd.func6, Tryd.ntmps6
    go_wp2_with fail
    refine (live_any _).mono ?_
    rintro er w1 ⟨rfl, hb1⟩
    go_wp2_with fail
    refine (new_any _).mono ?_
    rintro er w2 ⟨p, F, rfl, hO, hS⟩
    have hb2 : Below w.heap.size w w2 := hb1.trans (hS.below hb1.size (fun k hk => by cases hk))
    have hF : ∀ k ∈ F, w.heap.size ≤ k := hS.far hb1.size (fun k hk => by cases hk)
    have HO2 := Lib.hid hO
    clear hb1 hS hO
    go_wp2_with fail
    go_loopw [5, 30] (fun v i wr => ∃ k : Nat, ∃ l F o, k ≤ ids.length ∧ i = .int .i64 k ∧ l.length ≤ 32 ∧ Below w.heap.size w wr ∧ Hid (Own wr p (nst l) F) ∧ Hid (Rowed wr 9 1 o v l.length (strs l)) ∧ Hid (∀ k ∈ F, w.heap.size ≤ k) ∧ Hid (∀ g, o = some g → w.heap.size ≤ g ∧ g ∉ F))
      (fun _ i _ => ids.length - (intOf i).toNat)
    case atStart => exact ⟨0, [], F, none, Nat.zero_le _, rfl, by simp, hb2, HO2, Rowed.nil _ _ _, hF, fun g hg => by cases hg⟩
    case round =>
      obtain ⟨k, l, F, o, hk, rfl, hl32, hb, HO, HR, HF, HG⟩ := hrel
      by_cases hlt : k < ids.length
      · obtain ⟨s, hs⟩ : ∃ s, ids[k]? = some s := ⟨_, List.getElem?_eq_getElem hlt⟩
        obtain ⟨b, off, rfl, hbl, hc, hsz⟩ := (HA.out.below (Nat.le_refl _) hb) k s hs
        have hn := notify_nst l s
        have HN := Lib.hid (notify_any (nst l) p F wr s hsz HO.out)
        obtain ⟨e, he⟩ : ∃ e, notifyE (nst l) s = e := ⟨_, rfl⟩
        rw [he] at hn HN
        clear he hs
        rcases hn with ⟨h0, h1, h2⟩ | ⟨h0, h1⟩
        · rw [h1] at HN
          clear h1
          go_wp2_with fail
          refine HN.out.mono ?_
          rintro er w3 ⟨rfl, F', hO', hS'⟩
          have hR' := hS'.rowed HR.out (fun g hg => (HG.out g hg).2)
          have hb' : Below w.heap.size w w3 := hb.trans (hS'.below hb.size HF.out)
          have HF' := Lib.hid (hS'.far hb.size HF.out)
          have HG' := Lib.hid (fun g (hg : o = some g) => And.intro (HG.out g hg).1 (hS'.not_in (HR.out.lt hg) (HG.out g hg).2))
          have HO' := Lib.hid hO'
          have HR' := Lib.hid hR'
          clear hO' hS' hR' HO HR HF HG hb hc hbl HN
          go_wp2_with (at_builtin; refine wpList_append_rowed rfl _ _ 26 rfl 9 i0 (.string .empty) 1 16 Tryd.underlying26 HI.out HZ0.out HZ1.out HZ2.out rfl o _ l.length _ rfl (HR'.out.below (below_new w3 _)) ⟨w3.heap.size, 0, none⟩ 1 1 [.string s] rfl rfl ?c1 ?c2 (by decide) ?c3 ?c4 ?_)
          case c1 => exact row_new w3 #[.string s] 9
          case c2 => simp [Value.oneCell']
          case c3 => unfold maxLen; omega
          case c4 => omega
          intro v' w4 o' hr hg hf
          obtain ⟨a', cap', rfl, -⟩ := hr.shape
          obtain ⟨q1, q2, q3, -⟩ := append_beside HO'.out hg hf HG'.out hb'.size hb'
          have hr' : Rowed w4 9 1 o' (.slice a' (l.length + 1) cap') (l ++ [s]).length (strs (l ++ [s])) := by
            simp only [strs, List.map_append, List.length_append, List.map_cons, List.map_nil, List.length_cons, List.length_nil]
            exact hr
          have Q1 := Lib.hid q1
          have Q3 := Lib.hid q3
          have QR := Lib.hid hr'
          clear q1 q3 hr hr' hg hf HO' HR' HG' hb'
          go_wp2_with fail
          go_roundw
          case rel => exact ⟨k + 1, l ++ [s], F', o', by omega, by go_num, by simp; omega, q2, Q1, QR, HF', Q3⟩
          case measure => simp [intOf]; omega
        · rw [h1] at HN
          clear h1
          go_wp2_with fail
          refine HN.out.mono ?_
          rintro er w3 ⟨rfl, F', hO', hS'⟩
          have hR' := hS'.rowed HR.out (fun g hg => (HG.out g hg).2)
          have hb' : Below w.heap.size w w3 := hb.trans (hS'.below hb.size HF.out)
          have HF' := Lib.hid (hS'.far hb.size HF.out)
          have HG' := Lib.hid (fun g (hg : o = some g) => And.intro (HG.out g hg).1 (hS'.not_in (HR.out.lt hg) (HG.out g hg).2))
          have HO' := Lib.hid hO'
          obtain ⟨a', cap', rfl, -⟩ := hR'.shape
          have HR' := Lib.hid hR'
          clear hO' hS' hR' HO HR HF HG hb hc hbl HN
          go_wp2_with fail
          go_roundw
          case rel => exact ⟨k + 1, l, F', o, by omega, by go_num, hl32, hb', HO', HR', HF', HG'⟩
          case measure => simp [intOf]; omega
      · have hkl : k = ids.length := by omega
        subst hkl
        have hr := HR.out
        obtain ⟨a', cap', rfl, -⟩ := hr.shape
        obtain ⟨w0, rfl⟩ : ∃ w0 : World, w0 = wr := ⟨_, rfl⟩
        have hst : Own w0 p (tst l 0) F := HO.out
        have HST := Lib.hid hst
        have hl64 : l.length ≤ 9223372036854775807 := by omega
        clear hr hst HO hk hlt
        go_wp2_with fail
        go_loopw [45] (fun i wr => ∃ k : Nat, ∃ F, k ≤ l.length ∧ i = .int .i64 k ∧ Below w.heap.size w wr ∧ Hid (Own wr p (tst l k) F) ∧ Hid (Rowed wr 9 1 o (.slice a' l.length cap') l.length (strs l)) ∧ Hid (∀ k ∈ F, w.heap.size ≤ k) ∧ Hid (∀ g, o = some g → w.heap.size ≤ g ∧ g ∉ F))
          (fun i _ => l.length - (intOf i).toNat)
        case atStart => exact ⟨0, F, Nat.zero_le _, rfl, hb, HST, HR, HF, HG⟩
        case round =>
          obtain ⟨k, F, hk, rfl, hb, HO, HR, HF, HG⟩ := hrel
          by_cases hlt : k < l.length
          · obtain ⟨s, hs⟩ : ∃ s, l[k]? = some s := ⟨_, List.getElem?_eq_getElem hlt⟩
            obtain ⟨g, off, cap'', hv, hog, hgl, -, hc, -⟩ := HR.out.str hs
            cases hv
            obtain ⟨h1, h2⟩ := take_tst hs (by omega)
            have HN := Lib.hid (take_any (tst l k) p F wr HO.out)
            rw [h1, h2] at HN
            clear h1 h2 hs
            go_wp2_with fail
            refine HN.out.mono ?_
            rintro er w3 ⟨rfl, hO', hS'⟩
            have hR' := hS'.rowed HR.out (fun g hg => (HG.out g hg).2)
            have hb' : Below w.heap.size w w3 := hb.trans (hS'.below hb.size HF.out)
            have HO' := Lib.hid hO'
            have HR' := Lib.hid hR'
            clear hO' hS' hR' HO HR hb hc HN
            go_wp2_with fail
            go_roundw
            case rel => exact ⟨k + 1, F, by omega, by go_num, hb', HO', HR', HF, HG⟩
            case measure => simp [intOf]; omega
          · have hkl : k = l.length := by omega
            subst hkl
            have HN := Lib.hid (take_any (tst l l.length) p F wr HO.out)
            have hce : (tst l l.length).take = tst l l.length := by unfold Cd.take tst; simp
            rw [take_end, hce] at HN
            clear hce
            go_wp2_with fail
            refine HN.out.mono ?_
            rintro er w3 ⟨rfl, hO', hS'⟩
            have hb' : Below w.heap.size w w3 := hb.trans (hS'.below hb.size HF.out)
            have HW := Lib.hid (writes_any (tst l l.length) p F w3 hO')
            have hn : (tst l l.length).n = l.length := rfl
            rw [hn] at HW
            clear hO' hS' HO HR hb HN hn
            go_wp2_with fail
            refine HW.out.mono ?_
            rintro er w4 ⟨rfl, rfl⟩
            go_wp2_with fail
            go_ret
            exact ⟨rfl, hb'⟩
end Go.Proofs.YtpoegpojlcbfgaaDoor
