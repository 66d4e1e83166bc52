/- Of an offer no more are launched than there were: CloudStocks, walked. -/
import Derived.Test.YtpoegpojlcbfgaaDoorK
namespace Go.Proofs.YtpoegpojlcbfgaaDoor
open Go.RowKit

/-- The cloud while it runs: m more are left. -/
def sst (is : List In) (m q : Int) : Cd := ⟨is, [], [(o1, m)], 0, [], q⟩
section
variable {c : Cd} {tok : ByteArray} {o : Of} {now : Int}
theorem launch_bad (h : badL tok o now = true) : launchE c tok o now = (⟨#[]⟩, 1) ∧ c.launch tok o now = c := by
  refine ⟨?_, ?_⟩
  · unfold launchE; rw [if_pos h]
  · unfold Cd.launch; rw [if_pos h]
theorem launch_was {x : In} (h : badL tok o now = false) (hf : c.is.find? (fun x => sq x.tok tok) = some x) : launchE c tok o now = (x.id, 0) ∧ c.launch tok o now = c := by
  refine ⟨?_, ?_⟩
  · unfold launchE; rw [if_neg (by rw [h]; decide), hf]
  · unfold Cd.launch; rw [if_neg (by rw [h]; decide), hf]
theorem launch_many (h : badL tok o now = false) (hf : c.is.find? (fun x => sq x.tok tok) = none) (hl : 64 ≤ c.is.length) : launchE c tok o now = (⟨#[]⟩, 3) ∧ c.launch tok o now = c := by
  refine ⟨?_, ?_⟩
  · unfold launchE; rw [if_neg (by rw [h]; decide), hf]; simp only; rw [if_pos hl]
  · unfold Cd.launch; rw [if_neg (by rw [h]; decide), hf]; simp only; rw [if_pos hl]
theorem launch_out (h : badL tok o now = false) (hf : c.is.find? (fun x => sq x.tok tok) = none) (hl : ¬ 64 ≤ c.is.length) (ht : takeOk c.sk o = false) : launchE c tok o now = (⟨#[]⟩, 110) ∧ c.launch tok o now = c := by
  refine ⟨?_, ?_⟩
  · unfold launchE; rw [if_neg (by rw [h]; decide), hf]; simp only; rw [if_neg hl, if_neg (by rw [ht]; decide)]
  · unfold Cd.launch; rw [if_neg (by rw [h]; decide), hf]; simp only; rw [if_neg hl, if_neg (by rw [ht]; decide)]
theorem launch_new (h : badL tok o now = false) (hf : c.is.find? (fun x => sq x.tok tok) = none) (hl : ¬ 64 ≤ c.is.length) (ht : takeOk c.sk o = true) : launchE c tok o now = (idStr (c.is.length + 1), 0) ∧ c.launch tok o now = { c with is := c.is ++ [newIn c tok o now], sk := takeSk c.sk o, n := wrap64 (c.n + 1) } := by
  refine ⟨?_, ?_⟩
  · unfold launchE; rw [if_neg (by rw [h]; decide), hf]; simp only; rw [if_neg hl, if_pos ht]
  · unfold Cd.launch; rw [if_neg (by rw [h]; decide), hf]; simp only; rw [if_neg hl, if_pos ht]
end
theorem launch_sst (is : List In) (m q : Int) (tok : ByteArray) (h64 : is.length ≤ 64) (hm : 0 ≤ m) (hm2 : m ≤ 9223372036854775807) :
    ((launchE (sst is m q) tok o1 0).2 == 110) = true ∧ m = 0 ∧ (sst is m q).launch tok o1 0 = sst is m q ∨
    ((launchE (sst is m q) tok o1 0).2 == 110) = false ∧ ∃ is' m' q', (sst is m q).launch tok o1 0 = sst is' m' q' ∧ is'.length ≤ 64 ∧ 0 ≤ m' ∧ (is'.length : Int) + m' = is.length + m := by
  have stay : ∀ x : ByteArray × Int, x.2 ≠ 110 → launchE (sst is m q) tok o1 0 = x ∧ (sst is m q).launch tok o1 0 = sst is m q → ((launchE (sst is m q) tok o1 0).2 == 110) = false ∧ ∃ is' m' q', (sst is m q).launch tok o1 0 = sst is' m' q' ∧ is'.length ≤ 64 ∧ 0 ≤ m' ∧ (is'.length : Int) + m' = is.length + m := by
    intro x hx h
    rw [h.1, h.2]
    exact ⟨by simpa using hx, is, m, q, rfl, h64, hm, rfl⟩
  cases hb : badL tok o1 0 with
  | true => exact .inr (stay (⟨#[]⟩, 1) (by decide) (launch_bad hb))
  | false =>
    cases hf : (sst is m q).is.find? (fun x => sq x.tok tok) with
    | some x => exact .inr (stay (x.id, 0) (by simp) (launch_was hb hf))
    | none =>
      by_cases hl : 64 ≤ (sst is m q).is.length
      · exact .inr (stay (⟨#[]⟩, 3) (by decide) (launch_many hb hf hl))
      · have hs : stockOf o1 (sst is m q).sk = some m := by
          show (if same o1 o1 then some m else _) = _
          rw [if_pos same1]
        have ht : takeOk (sst is m q).sk o1 = (m != 0) := by unfold takeOk; rw [hs]
        cases h0 : (m != 0) with
        | false =>
          have hm0 : m = 0 := by simpa using h0
          obtain ⟨e1, e2⟩ := launch_out hb hf hl (ht.trans h0)
          rw [e1, e2]
          exact .inl ⟨rfl, hm0, rfl⟩
        | true =>
          have hne : m ≠ 0 := by simpa using h0
          obtain ⟨e1, e2⟩ := launch_new hb hf hl (ht.trans h0)
          rw [e1, e2]
          refine .inr ⟨rfl, is ++ [newIn (sst is m q) tok o1 0], m - 1, wrap64 (q + 1), ?_, ?_, by omega, ?_⟩
          · have hw : wrap64 (m - 1) = m - 1 := by unfold wrap64; omega
            have hk : takeSk (sst is m q).sk o1 = [(o1, m - 1)] := by
              unfold takeSk
              rw [hs]
              simp only
              rw [if_pos (by omega), hw]
              show (if same o1 o1 then _ else _) = _
              rw [if_pos same1]
            rw [hk]
            rfl
          · have : ¬ 64 ≤ is.length := hl
            simp; omega
          · simp; omega
theorem set_sst {n : Int} (hn : 0 ≤ n) : setE o1 n = 0 ∧ Cd.new.set o1 n = sst [] n 0 := by
  have h : ¬ (n < -1 ∨ namedB o1 = false) := by rw [named1]; simp; omega
  unfold setE Cd.set
  rw [if_neg h, if_neg h]
  exact ⟨rfl, rfl⟩

set_option maxRecDepth 100000 in
set_option maxHeartbeats 4000000 in
theorem cloudStocks_walk (n : Int) (toks : List ByteArray) (a : Option Addr) (cap : Nat) (w : World) (hA : Sm w a toks) (hl : toks.length ≤ 9223372036854775807) (hn : n ≤ 9223372036854775807) :
    Calls Tryd.prog 4 #[.int .i64 n, .slice a toks.length cap] w fun e w' => e = .returned (.bool true) ∧ Below w.heap.size w w' := by
  have HA := Lib.hid hA
  clear hA
  have box : ∀ (w2 : World) (j : Nat), (w2.alloc (.cells #[.string ⟨#[115]⟩, .string ⟨#[97]⟩, .string ⟨#[115, 112, 111, 116]⟩] 28)).cell? ⟨w2.heap.size, j, none⟩ = (#[.string ⟨#[115]⟩, .string ⟨#[97]⟩, .string ⟨#[115, 112, 111, 116]⟩] : Array Value)[j]? := fun w2 j => by rw [World.cell?_alloc_new]
  have BOX := Lib.hid box
  clear box
  by_cases h100 : 100 < toks.length
  · go_enter Tryd.func4, Tryd.ntmps4
    go_wp2_with fail
    refine (live_any _).mono ?_
    rintro er w1 ⟨rfl, hb1⟩
    go_wp2_with fail
    refine (new_any _).mono ?_
    rintro er w2 ⟨p, F, rfl, hO, hS⟩
    go_wp2_with fail
    go_ret
    have hb2 : Below w.heap.size w w2 := hb1.trans (hS.below hb1.size (fun k hk => by cases hk))
    exact ⟨rfl, hb2.alloc hb2.size _⟩
  · by_cases h0 : n < 0
    · go_enter Tryd.func4, Tryd.ntmps4
      go_wp2_with fail
      refine (live_any _).mono ?_
      rintro er w1 ⟨rfl, hb1⟩
      go_wp2_with fail
      refine (new_any _).mono ?_
      rintro er w2 ⟨p, F, rfl, hO, hS⟩
      go_wp2_with fail
      go_ret
      have hb2 : Below w.heap.size w w2 := hb1.trans (hS.below hb1.size (fun k hk => by cases hk))
      exact ⟨rfl, hb2.alloc hb2.size _⟩
    · have hn0 : 0 ≤ n := by omega
      obtain ⟨hs1, hs2⟩ := set_sst hn0
      have SET := fun (p : Nat) (F : List Nat) (w : World) (h : Own w p Cd.new F) => set_any Cd.new p F w o1 n h
      rw [hs1, hs2] at SET
      have HSET := Lib.hid SET
      clear SET hs1 hs2
      go_enter Tryd.func4, Tryd.ntmps4
      go_wp2_with fail
      refine (live_any _).mono ?_
      rintro er w1 ⟨rfl, hb1⟩
      go_wp2_with fail
      refine (new_any _).mono ?_
      rintro er w2 ⟨p, F, rfl, hO, hS⟩
      have hb2 : Below w.heap.size w w2 := hb1.trans (hS.below hb1.size (fun k hk => by cases hk))
      have hF : ∀ k ∈ F, w.heap.size ≤ k := hS.far hb1.size (fun k hk => by cases hk)
      have hO2 := hO.below (below_new w2 (.cells #[.string ⟨#[115]⟩, .string ⟨#[97]⟩, .string ⟨#[115, 112, 111, 116]⟩] 28))
      have hN2 : w2.heap.size ∉ F := hO.new_not (Nat.le_refl _)
      have hBw : w.heap.size ≤ w2.heap.size := hb2.size
      have hB2 := BOX.out w2
      have hbz := hb2.alloc hb2.size (.cells #[.string ⟨#[115]⟩, .string ⟨#[97]⟩, .string ⟨#[115, 112, 111, 116]⟩] 28)
      generalize hbx : w2.heap.size = B at hB2 hN2 hBw
      clear hb1 hS hO hb2
      go_wp2_with fail
      refine (HSET.out p F _ hO2).mono ?_
      rintro er w3 ⟨rfl, hO3, hS3⟩
      obtain ⟨hB3, hN3, hlt3⟩ := keep_box hS3 (by simp; omega) hN2 hB2
      have hb3 : Below w.heap.size w w3 := hbz.trans (hS3.below hbz.size hF)
      have HO3 := Lib.hid hO3
      have HB3 := Lib.hid hB3
      clear hO2 hB2 hN2 hbx hbz hS3 hO3 hB3
      go_wp2_with fail
      go_loopw [40] (fun i wr => ∃ k : Nat, ∃ is m q F, k ≤ toks.length ∧ i = .int .i64 k ∧ List.length is ≤ 64 ∧ 0 ≤ m ∧ (is.length : Int) + m = n ∧ Below w.heap.size w wr ∧ Hid (Own wr p (sst is m q) F) ∧ Hid (∀ k ∈ F, w.heap.size ≤ k) ∧ Hid (∀ j, wr.cell? ⟨B, j, none⟩ = (#[.string ⟨#[115]⟩, .string ⟨#[97]⟩, .string ⟨#[115, 112, 111, 116]⟩] : Array Value)[j]?) ∧ B ∉ F ∧ B < wr.heap.size)
        (fun i _ => toks.length - (intOf i).toNat)
      case atStart => exact ⟨0, [], n, 0, F, Nat.zero_le _, rfl, by simp, hn0, by simp, hb3, HO3, hF, HB3, hN3, hlt3⟩
      case round =>
        obtain ⟨k, is, m, q, F, hk, rfl, h64, hm, hsum, hb, HO, HF, HB, hN, hlt⟩ := hrel
        by_cases hltk : k < toks.length
        · obtain ⟨s, hs⟩ : ∃ s, toks[k]? = some s := ⟨_, List.getElem?_eq_getElem hltk⟩
          obtain ⟨b, off, rfl, hbl, hc, hsz⟩ := (HA.out.below (Nat.le_refl _) hb) k s hs
          have hn := launch_sst is m q s h64 hm (by omega)
          have HL := Lib.hid (launch_any (sst is m q) p F wr s o1 0 hsz h64 HO.out)
          obtain ⟨e0, e, he⟩ : ∃ e0 e, launchE (sst is m q) s o1 0 = (e0, e) := ⟨_, _, rfl⟩
          rw [he] at hn HL
          dsimp only at hn HL
          have t1 := HB.out 0
          have t2 := HB.out 1
          have t3 := HB.out 2
          clear he hs
          rcases hn with ⟨hq, hm0, h1⟩ | ⟨hq, is', m', q', h1, h2, h3, h4⟩
          · rw [h1] at HL
            clear h1
            go_wp2_with fail
            refine HL.out.mono ?_
            rintro er w4 ⟨rfl, F', hO', hS'⟩
            obtain ⟨hB', hN', hlt'⟩ := keep_box hS' hlt hN HB.out
            have hb' : Below w.heap.size w w4 := hb.trans (hS'.below hb.size HF.out)
            have HF' := Lib.hid (hS'.far hb.size HF.out)
            have HI := Lib.hid (insts_any _ p F' w4 0 hO' h64)
            have HO' := Lib.hid hO'
            have HB' := Lib.hid hB'
            have hlen : ((sst is m q).insts 0).length = is.length := by simp [Cd.insts, sst]
            have HLEN := Lib.hid hlen
            clear hO' hB' hS' HO HF HB hb t1 t2 t3 hc hbl HL hlen
            go_wp2_with fail
            refine HI.out.mono ?_
            rintro er w5 ⟨ol, vl, rfl, hR, hb5, -⟩
            obtain ⟨al, capl, rfl, -⟩ := hR.shape
            rw [HLEN.out]
            have hO5 := Lib.hid (HO'.out.below hb5)
            have HB5 := Lib.hid (fun j => (hb5.cell (p := ⟨B, j, none⟩) hlt').trans (HB'.out j))
            have hb5' : Below w.heap.size w w5 := hb'.trans (hb5.mono hb'.size)
            have hlt5 : B < w5.heap.size := by have := hb5.size; omega
            have hnl : ¬ ((is.length : Int) < n) := by omega
            clear hR hb5 HO' HB' hb' HI
            go_wp2_with fail
            go_roundw
            case rel => exact ⟨k + 1, is, m, q, F', by omega, by go_num, h64, hm, hsum, hb5', hO5, HF', HB5, hN', hlt5⟩
            case measure => simp [intOf]; omega
          · rw [h1] at HL
            clear h1
            go_wp2_with fail
            refine HL.out.mono ?_
            rintro er w4 ⟨rfl, F', hO', hS'⟩
            obtain ⟨hB', hN', hlt'⟩ := keep_box hS' hlt hN HB.out
            have hb' : Below w.heap.size w w4 := hb.trans (hS'.below hb.size HF.out)
            have HF' := Lib.hid (hS'.far hb.size HF.out)
            have HO' := Lib.hid hO'
            have HB' := Lib.hid hB'
            clear hO' hB' hS' HO HF HB hb t1 t2 t3 hc hbl HL
            go_wp2_with fail
            go_roundw
            case rel => exact ⟨k + 1, is', m', q', F', by omega, by go_num, h2, h3, by omega, hb', HO', HF', HB', hN', hlt'⟩
            case measure => simp [intOf]; omega
        · have hkl : k = toks.length := by omega
          subst hkl
          have HI := Lib.hid (insts_any _ p F wr 0 HO.out h64)
          have hlen : ((sst is m q).insts 0).length = is.length := by simp [Cd.insts, sst]
          have HLEN := Lib.hid hlen
          have hle : (is.length : Int) ≤ n := by omega
          clear HO HB hlen
          go_wp2_with fail
          refine HI.out.mono ?_
          rintro er w5 ⟨ol, vl, rfl, hR, hb5, -⟩
          obtain ⟨al, capl, rfl, -⟩ := hR.shape
          rw [HLEN.out]
          have hb5' : Below w.heap.size w w5 := hb.trans (hb5.mono hb.size)
          clear hR hb5 HI hb
          go_wp2_with fail
          go_ret
          exact ⟨rfl, hb5'⟩
end Go.Proofs.YtpoegpojlcbfgaaDoor
