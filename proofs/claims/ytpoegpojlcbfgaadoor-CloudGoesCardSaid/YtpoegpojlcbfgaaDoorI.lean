/- Launch. -/
import Derived.Test.YtpoegpojlcbfgaaDoorH
import Derived.Test.YtpoegpojlcbfgaaDoorItoa
import Derived.Test.YtpoegpojlcbfgaaDoorR2
namespace Go.Proofs.YtpoegpojlcbfgaaDoor
open Go.RowKit
theorem method_take (b : Nat) (w : World) : (method 212 53 (.map (some b)) "sutler/cloud.take").run Tryd.prog w = .ok (71, .map (some b)) w := by kernel_rfl
attribute [local go_sem] RegRel.relUpon RegRel.opOk method_take

/-- The number of the k-th instance. -/
def idStr (k : Nat) : ByteArray := ⟨(105 :: Lib.decDigits k).toArray⟩
def badL (tok : ByteArray) (o : Of) (now : Int) : Bool := emp tok || (decide (32 < tok.size) || (!namedB o || (decide (now < 0) || decide (1099511627776 < now))))
def newIn (c : Cd) (tok : ByteArray) (o : Of) (now : Int) : In := ⟨idStr (c.is.length + 1), tok, o, 0, min 1099511627776 (wrap64 (now + c.dl))⟩
def launchE (c : Cd) (tok : ByteArray) (o : Of) (now : Int) : ByteArray × Int :=
  if badL tok o now then (⟨#[]⟩, 1) else match c.is.find? (fun x => sq x.tok tok) with
  | some x => (x.id, 0)
  | none => if 64 ≤ c.is.length then (⟨#[]⟩, 3) else if takeOk c.sk o then (idStr (c.is.length + 1), 0) else (⟨#[]⟩, 110)
def Cd.launch (c : Cd) (tok : ByteArray) (o : Of) (now : Int) : Cd :=
  if badL tok o now then c else match c.is.find? (fun x => sq x.tok tok) with
  | some _ => c
  | none => if 64 ≤ c.is.length then c else if takeOk c.sk o then { c with is := c.is ++ [newIn c tok o now], sk := takeSk c.sk o, n := wrap64 (c.n + 1) } else c
theorem takeSk_no {l : List (Of × Int)} {o : Of} (h : takeOk l o = false) : takeSk l o = l := by
  unfold takeOk at h
  unfold takeSk
  cases hs : stockOf o l with
  | none => rfl
  | some n =>
    rw [hs] at h
    have : n = 0 := by simpa using h
    simp only
    rw [if_neg (by omega)]
theorem dec_len {n : Nat} (h : n < 100) : (Lib.decDigits n).length ≤ 2 := by
  unfold Lib.decDigits
  split
  · simp
  · unfold Lib.decDigits
    rw [dif_pos (by omega)]
    simp
theorem id_cat (k : Nat) : (⟨#[105]⟩ : ByteArray) ++ ⟨(Lib.decDigits k).toArray⟩ = idStr k := by
  unfold idStr
  apply ByteArray.ext
  simp
theorem seven_cells {w : World} {n : Nat} {c : Array Value} {t : TypeId} (h : w.heap[n]? = some (Obj.cells c t (0, 0))) (hc : c.size = 7) :
    ∃ x0 x1 x2 x3 x4 x5 x6, w.heap[n]? = some (Obj.cells #[x0, x1, x2, x3, x4, x5, x6] t (0, 0)) ∧ w.cell? ⟨n, 0, none⟩ = some x0 ∧ w.cell? ⟨n, 1, none⟩ = some x1 ∧ w.cell? ⟨n, 2, none⟩ = some x2 ∧ w.cell? ⟨n, 3, none⟩ = some x3 ∧ w.cell? ⟨n, 4, none⟩ = some x4 ∧ w.cell? ⟨n, 5, none⟩ = some x5 ∧ w.cell? ⟨n, 6, none⟩ = some x6 ∧ ∀ i, w.frozen? ⟨n, i, none⟩ = false := by
  obtain ⟨l⟩ := c
  match l, hc with
  | [x0, x1, x2, x3, x4, x5, x6], _ => exact ⟨x0, x1, x2, x3, x4, x5, x6, h, by simp [World.cell?, h], by simp [World.cell?, h], by simp [World.cell?, h], by simp [World.cell?, h], by simp [World.cell?, h], by simp [World.cell?, h], by simp [World.cell?, h], fun i => by simp [World.frozen?, h]⟩
theorem seven_put {w : World} {n : Nat} {x0 x1 x2 x3 x4 x5 x6 : Value} {t : TypeId} (h : w.heap[n]? = some (Obj.cells #[x0, x1, x2, x3, x4, x5, x6] t (0, 0))) (a b c d e f g : Value) :
    (((((((w.setCell ⟨n, 0, none⟩ a).setCell ⟨n, 1, none⟩ b).setCell ⟨n, 2, none⟩ c).setCell ⟨n, 3, none⟩ d).setCell ⟨n, 4, none⟩ e).setCell ⟨n, 5, none⟩ f).setCell ⟨n, 6, none⟩ g).heap[n]? = some (Obj.cells #[a, b, c, d, e, f, g] t (0, 0)) := by
  have h1 : (w.setCell ⟨n, 0, none⟩ a).heap[n]? = some (Obj.cells #[a, x1, x2, x3, x4, x5, x6] t (0, 0)) := by rw [heap_set h]; rfl
  have h2 : ((w.setCell ⟨n, 0, none⟩ a).setCell ⟨n, 1, none⟩ b).heap[n]? = some (Obj.cells #[a, b, x2, x3, x4, x5, x6] t (0, 0)) := by rw [heap_set h1]; rfl
  generalize (w.setCell ⟨n, 0, none⟩ a).setCell ⟨n, 1, none⟩ b = w2 at *
  have h3 : (w2.setCell ⟨n, 2, none⟩ c).heap[n]? = some (Obj.cells #[a, b, c, x3, x4, x5, x6] t (0, 0)) := by rw [heap_set h2]; rfl
  have h4 : ((w2.setCell ⟨n, 2, none⟩ c).setCell ⟨n, 3, none⟩ d).heap[n]? = some (Obj.cells #[a, b, c, d, x4, x5, x6] t (0, 0)) := by rw [heap_set h3]; rfl
  generalize (w2.setCell ⟨n, 2, none⟩ c).setCell ⟨n, 3, none⟩ d = w4 at *
  have h5 : (w4.setCell ⟨n, 4, none⟩ e).heap[n]? = some (Obj.cells #[a, b, c, d, e, x5, x6] t (0, 0)) := by rw [heap_set h4]; rfl
  have h6 : ((w4.setCell ⟨n, 4, none⟩ e).setCell ⟨n, 5, none⟩ f).heap[n]? = some (Obj.cells #[a, b, c, d, e, f, x6] t (0, 0)) := by rw [heap_set h5]; rfl
  rw [heap_set h6]; rfl
theorem below_new2 (w : World) (o1 o2 : Obj) : Below w.heap.size w ((w.alloc o1).alloc o2) := (below_new w o1).alloc (by simp) _

set_option maxRecDepth 100000 in
set_option maxHeartbeats 4000000 in
theorem launch_any (c : Cd) (p : Nat) (F : List Nat) (w : World) (tok : ByteArray) (o : Of) (now : Int) (hs : tok.size ≤ 9223372036854775807) (h64 : c.is.length ≤ 64) (h : Own w p c F) :
    Calls Tryd.prog 11 #[.pointer (some ⟨p, 0, none⟩), .string tok, o.val, .int .i64 now] w fun e w' => e = .returned (.tuple #[.string (launchE c tok o now).1, .int .i64 (launchE c tok o now).2]) ∧ ∃ F', Own w' p (c.launch tok o now) F' ∧ Step F F' w w' := by
  have HN := Lib.hid (named_any o)
  have HO := Lib.hid h
  have hB2 := Lib.hid (below_new2 w)
  obtain ⟨be, bs, oi, on, vi, vn, h, rfl⟩ := h
  have H := Lib.hid h
  obtain ⟨c0, c1, c2, c3, c4, c5⟩ := h.cells
  have hp : p < w.heap.size := h.lt (mem_foot.2 (.inl rfl))
  obtain ⟨a, cap, rfl, -⟩ := h.is.shape
  clear h
  obtain ⟨t, z, k⟩ := o
  show Calls Tryd.prog 11 #[.pointer (some ⟨p, 0, none⟩), .string tok, .agg #[.string t, .string z, .string k], .int .i64 now] w _
  rcases he : tok.toList.isEmpty with _ | _
  · have hl : ¬ tok.toList = [] := fun e => by rw [e] at he; cases he
    by_cases h32 : 32 < tok.size
    · have hbad : badL tok ⟨t, z, k⟩ now = true := by simp [badL, h32]
      have e1 : launchE c tok ⟨t, z, k⟩ now = (⟨#[]⟩, 1) := by unfold launchE; rw [if_pos hbad]
      have e2 : c.launch tok ⟨t, z, k⟩ now = c := by unfold Cd.launch; rw [if_pos hbad]
      rw [e1, e2]
      clear e1 e2 hbad
      go_enter Tryd.func11, Tryd.ntmps11
      go_wp2_with fail
      go_ret2
      exact ⟨rfl, _, HO.out.below (hB2.out _ _), Step.of_below (hB2.out _ _)⟩
    · rcases hnm : namedB ⟨t, z, k⟩ with _ | _
      · have hbad : badL tok ⟨t, z, k⟩ now = true := by simp [badL, hnm]
        have e1 : launchE c tok ⟨t, z, k⟩ now = (⟨#[]⟩, 1) := by unfold launchE; rw [if_pos hbad]
        have e2 : c.launch tok ⟨t, z, k⟩ now = c := by unfold Cd.launch; rw [if_pos hbad]
        rw [e1, e2]
        clear e1 e2 hbad
        rw [hnm] at HN
        clear hnm
        go_enter Tryd.func11, Tryd.ntmps11
        go_wp2_with fail
        refine (HN.out _).mono ?_
        rintro er w1 ⟨rfl, hb⟩
        have q : Below w.heap.size w w1 := (hB2.out _ _).trans (hb.mono (by simp; omega))
        clear hb
        go_wp2_with fail
        go_ret2
        exact ⟨rfl, _, HO.out.below q, Step.of_below q⟩
      · by_cases h0 : now < 0
        · have hbad : badL tok ⟨t, z, k⟩ now = true := by simp [badL, h0]
          have e1 : launchE c tok ⟨t, z, k⟩ now = (⟨#[]⟩, 1) := by unfold launchE; rw [if_pos hbad]
          have e2 : c.launch tok ⟨t, z, k⟩ now = c := by unfold Cd.launch; rw [if_pos hbad]
          rw [e1, e2]
          clear e1 e2 hbad
          rw [hnm] at HN
          clear hnm
          go_enter Tryd.func11, Tryd.ntmps11
          go_wp2_with fail
          refine (HN.out _).mono ?_
          rintro er w1 ⟨rfl, hb⟩
          have q : Below w.heap.size w w1 := (hB2.out _ _).trans (hb.mono (by simp; omega))
          clear hb
          go_wp2_with fail
          go_ret2
          exact ⟨rfl, _, HO.out.below q, Step.of_below q⟩
        · by_cases h1 : 1099511627776 < now
          · have hbad : badL tok ⟨t, z, k⟩ now = true := by simp [badL, h1]
            have e1 : launchE c tok ⟨t, z, k⟩ now = (⟨#[]⟩, 1) := by unfold launchE; rw [if_pos hbad]
            have e2 : c.launch tok ⟨t, z, k⟩ now = c := by unfold Cd.launch; rw [if_pos hbad]
            rw [e1, e2]
            clear e1 e2 hbad
            rw [hnm] at HN
            clear hnm
            go_enter Tryd.func11, Tryd.ntmps11
            go_wp2_with fail
            refine (HN.out _).mono ?_
            rintro er w1 ⟨rfl, hb⟩
            have q : Below w.heap.size w w1 := (hB2.out _ _).trans (hb.mono (by simp; omega))
            clear hb
            go_wp2_with fail
            go_ret2
            exact ⟨rfl, _, HO.out.below q, Step.of_below q⟩
          · have hgood : badL tok ⟨t, z, k⟩ now = false := by simp [badL, emp, he, h32, hnm, h0, h1]
            rw [hnm] at HN
            clear hnm
            have HIX : Hid (∀ w1, Below w.heap.size w w1 → w1.cell? ⟨w.heap.size, 0, none⟩ = some (.string tok) → w.heap.size < w1.heap.size → Calls Tryd.prog 30 #[.slice a c.is.length cap, .func (.func 31) #[] #[.pointer (some ⟨w.heap.size, 0, none⟩)]] w1 fun e w' => e = .returned (.int .i64 (idxGo (fun x : In => sq x.tok tok) 0 c.is)) ∧ Below w1.heap.size w1 w') := fun w1 hb hc hlt => index_tok c.is oi _ w.heap.size tok w1 (H.out.below hb).is hlt hc
            rcases idxGo_find (fun x : In => sq x.tok tok) c.is 0 with ⟨hf, hi⟩ | ⟨j, x, hf, hj, -, hi⟩
            · rw [hi] at HIX
              clear hi
              by_cases hm : 64 ≤ c.is.length
              · have e1 : launchE c tok ⟨t, z, k⟩ now = (⟨#[]⟩, 3) := by unfold launchE; rw [if_neg (by rw [hgood]; decide), hf]; simp only; rw [if_pos hm]
                have e2 : c.launch tok ⟨t, z, k⟩ now = c := by unfold Cd.launch; rw [if_neg (by rw [hgood]; decide), hf]; simp only; rw [if_pos hm]
                rw [e1, e2]
                clear e1 e2 hgood hf
                go_enter Tryd.func11, Tryd.ntmps11
                go_wp2_with fail
                refine (HN.out _).mono ?_
                rintro er w1 ⟨rfl, hb⟩
                have q : Below w.heap.size w w1 := (hB2.out _ _).trans (hb.mono (by simp; omega))
                have d0 : w1.cell? ⟨w.heap.size, 0, none⟩ = some (.string tok) := (hb.cell (p := ⟨w.heap.size, 0, none⟩) (by simp; omega)).trans (by rw [World.cell?_alloc_lt _ _ _ (by simp), World.cell?_alloc_new]; rfl)
                have dd : ∀ j, w1.cell? ⟨w.heap.size + 1, j, none⟩ = (#[.string t, .string z, .string k] : Array Value)[j]? := fun j => (hb.cell (p := ⟨w.heap.size + 1, j, none⟩) (by simp)).trans (by rw [World.cell?_alloc_at _ _ _ _ (by simp)])
                have z1 : w.heap.size + 1 < w1.heap.size := by have := hb.size; simp at this; omega
                have HW1 := Lib.hid (HO.out.below q)
                obtain ⟨b0, b1, b2, b3, b4, b5⟩ := (H.out.below q).cells
                clear hb
                go_wp2_with fail
                refine (HIX.out w1 q d0 (by omega)).mono ?_
                rintro er w2 ⟨rfl, hb2⟩
                have q2 : Below w.heap.size w w2 := q.trans (hb2.mono q.size)
                obtain ⟨g0, g1, g2, g3, g4, g5⟩ := (H.out.below q2).cells
                have h0' : w2.cell? ⟨w.heap.size, 0, none⟩ = some (.string tok) := (hb2.cell (p := ⟨w.heap.size, 0, none⟩) (by show w.heap.size < _; omega)).trans d0
                have k0 : w2.cell? ⟨w.heap.size + 1, 0, none⟩ = some (.string t) := (hb2.cell (p := ⟨w.heap.size + 1, 0, none⟩) z1).trans (dd 0)
                have k1 : w2.cell? ⟨w.heap.size + 1, 1, none⟩ = some (.string z) := (hb2.cell (p := ⟨w.heap.size + 1, 1, none⟩) z1).trans (dd 1)
                have k2 : w2.cell? ⟨w.heap.size + 1, 2, none⟩ = some (.string k) := (hb2.cell (p := ⟨w.heap.size + 1, 2, none⟩) z1).trans (dd 2)
                have z2 : w.heap.size + 1 < w2.heap.size := by have := hb2.size; omega
                clear hb2 HW1 d0 dd b0 b1 b2 b3 b4 b5 z1
                go_wp2_with fail
                go_ret2
                exact ⟨rfl, _, HO.out.below q2, Step.of_below q2⟩
              · rcases htk : takeOk c.sk ⟨t, z, k⟩ with _ | _
                · have e1 : launchE c tok ⟨t, z, k⟩ now = (⟨#[]⟩, 110) := by unfold launchE; rw [if_neg (by rw [hgood]; decide), hf]; simp only; rw [if_neg hm, if_neg (by rw [htk]; decide)]
                  have e2 : c.launch tok ⟨t, z, k⟩ now = c := by unfold Cd.launch; rw [if_neg (by rw [hgood]; decide), hf]; simp only; rw [if_neg hm, if_neg (by rw [htk]; decide)]
                  rw [e1, e2]
                  have hsk := takeSk_no htk
                  clear e1 e2 hgood hf
                  go_enter Tryd.func11, Tryd.ntmps11
                  go_wp2_with fail
                  refine (HN.out _).mono ?_
                  rintro er w1 ⟨rfl, hb⟩
                  have q : Below w.heap.size w w1 := (hB2.out _ _).trans (hb.mono (by simp; omega))
                  have d0 : w1.cell? ⟨w.heap.size, 0, none⟩ = some (.string tok) := (hb.cell (p := ⟨w.heap.size, 0, none⟩) (by simp; omega)).trans (by rw [World.cell?_alloc_lt _ _ _ (by simp), World.cell?_alloc_new]; rfl)
                  have dd : ∀ j, w1.cell? ⟨w.heap.size + 1, j, none⟩ = (#[.string t, .string z, .string k] : Array Value)[j]? := fun j => (hb.cell (p := ⟨w.heap.size + 1, j, none⟩) (by simp)).trans (by rw [World.cell?_alloc_at _ _ _ _ (by simp)])
                  have z1 : w.heap.size + 1 < w1.heap.size := by have := hb.size; simp at this; omega
                  have HW1 := Lib.hid (HO.out.below q)
                  obtain ⟨b0, b1, b2, b3, b4, b5⟩ := (H.out.below q).cells
                  clear hb
                  go_wp2_with fail
                  refine (HIX.out w1 q d0 (by omega)).mono ?_
                  rintro er w2 ⟨rfl, hb2⟩
                  have q2 : Below w.heap.size w w2 := q.trans (hb2.mono q.size)
                  obtain ⟨g0, g1, g2, g3, g4, g5⟩ := (H.out.below q2).cells
                  have h0' : w2.cell? ⟨w.heap.size, 0, none⟩ = some (.string tok) := (hb2.cell (p := ⟨w.heap.size, 0, none⟩) (by show w.heap.size < _; omega)).trans d0
                  have k0 : w2.cell? ⟨w.heap.size + 1, 0, none⟩ = some (.string t) := (hb2.cell (p := ⟨w.heap.size + 1, 0, none⟩) z1).trans (dd 0)
                  have k1 : w2.cell? ⟨w.heap.size + 1, 1, none⟩ = some (.string z) := (hb2.cell (p := ⟨w.heap.size + 1, 1, none⟩) z1).trans (dd 1)
                  have k2 : w2.cell? ⟨w.heap.size + 1, 2, none⟩ = some (.string k) := (hb2.cell (p := ⟨w.heap.size + 1, 2, none⟩) z1).trans (dd 2)
                  have z2 : w.heap.size + 1 < w2.heap.size := by have := hb2.size; omega
                  clear hb2 HW1 d0 dd b0 b1 b2 b3 b4 b5 z1
                  go_wp2_with fail
                  have hp2 : p < w2.heap.size := by omega
                  have HC2 := Lib.hid (H.out.below q2)
                  refine RegRel.wp_region_bel 5 5 (by kernel_rfl) (by kernel_rfl) [RegRel.is (.pointer (some ⟨p, 0, none⟩)), RegRel.is (.pointer (some ⟨p, 0, none⟩)), RegRel.is (.pointer (some ⟨p, 2, none⟩)), RegRel.is (.iface 53 (.map (some bs))), RegRel.is (.agg #[.string t, .string z, .string k])] (by simp [RegRel.AllStable, RegRel.stable_is, RegRel.tough_is]) rfl (by kernel_rfl) ?_ ?_
                  · simp only [List.take_succ_cons, List.take_zero, RegRel.OpsOk, RegRel.puts]
                    refine ⟨?_, ?_, ?_, ?_, ?_, trivial⟩
                    all_goals
                      intro u w' hC hD
                      try simp [RegRel.DepsOk, Region.binds, RegRel.ent, RegRel.is] at hD
                      have e1 := (hC.cell (p := ⟨p, 2, none⟩) hp2).trans g2
                      have e2 := (hC.cell (p := ⟨w.heap.size + 1, 0, none⟩) z2).trans k0
                      have e3 := (hC.cell (p := ⟨w.heap.size + 1, 1, none⟩) z2).trans k1
                      have e4 := (hC.cell (p := ⟨w.heap.size + 1, 2, none⟩) z2).trans k2
                      go_simp
                    all_goals (try simp [RegRel.ent, RegRel.is, RegRel.step, RegRel.upd, Below.refl])
                  · intro u w3 hC hv
                    simp only [List.take_succ_cons, List.take_zero, List.drop_succ_cons, List.drop_zero, RegRel.puts]
                    simp [RegRel.allV, RegRel.is] at hv
                    obtain ⟨v0, v1, v2, v3, v4⟩ := hv
                    have ST := Lib.hid (stocks_take c p be bs oi on _ vn w3 ⟨t, z, k⟩ (HC2.out.below hC))
                    rw [htk] at ST
                    have q3 : Below w.heap.size w w3 := q2.trans (hC.mono q2.size)
                    go_wp2_with fail
                    refine ST.out.mono ?_
                    rintro er w4 ⟨rfl, h4, s4⟩
                    rw [hsk] at h4
                    go_wp2_with fail
                    go_ret2
                    exact ⟨rfl, _, ⟨be, bs, oi, on, _, vn, h4, rfl⟩, (Step.of_below q3).trans s4⟩
                · have e1 : launchE c tok ⟨t, z, k⟩ now = (idStr (c.is.length + 1), 0) := by unfold launchE; rw [if_neg (by rw [hgood]; decide), hf]; simp only; rw [if_neg hm, if_pos htk]
                  have e2 : c.launch tok ⟨t, z, k⟩ now = { c with is := c.is ++ [newIn c tok ⟨t, z, k⟩ now], sk := takeSk c.sk ⟨t, z, k⟩, n := wrap64 (c.n + 1) } := by unfold Cd.launch; rw [if_neg (by rw [hgood]; decide), hf]; simp only; rw [if_neg hm, if_pos htk]
                  rw [e1, e2]
                  clear e1 e2 hgood hf
                  go_enter Tryd.func11, Tryd.ntmps11
                  go_wp2_with fail
                  refine (HN.out _).mono ?_
                  rintro er w1 ⟨rfl, hb⟩
                  have q : Below w.heap.size w w1 := (hB2.out _ _).trans (hb.mono (by simp; omega))
                  have d0 : w1.cell? ⟨w.heap.size, 0, none⟩ = some (.string tok) := (hb.cell (p := ⟨w.heap.size, 0, none⟩) (by simp; omega)).trans (by rw [World.cell?_alloc_lt _ _ _ (by simp), World.cell?_alloc_new]; rfl)
                  have dd : ∀ j, w1.cell? ⟨w.heap.size + 1, j, none⟩ = (#[.string t, .string z, .string k] : Array Value)[j]? := fun j => (hb.cell (p := ⟨w.heap.size + 1, j, none⟩) (by simp)).trans (by rw [World.cell?_alloc_at _ _ _ _ (by simp)])
                  have z1 : w.heap.size + 1 < w1.heap.size := by have := hb.size; simp at this; omega
                  have HW1 := Lib.hid (HO.out.below q)
                  obtain ⟨b0, b1, b2, b3, b4, b5⟩ := (H.out.below q).cells
                  clear hb
                  go_wp2_with fail
                  refine (HIX.out w1 q d0 (by omega)).mono ?_
                  rintro er w2 ⟨rfl, hb2⟩
                  have q2 : Below w.heap.size w w2 := q.trans (hb2.mono q.size)
                  obtain ⟨g0, g1, g2, g3, g4, g5⟩ := (H.out.below q2).cells
                  have h0' : w2.cell? ⟨w.heap.size, 0, none⟩ = some (.string tok) := (hb2.cell (p := ⟨w.heap.size, 0, none⟩) (by show w.heap.size < _; omega)).trans d0
                  have k0 : w2.cell? ⟨w.heap.size + 1, 0, none⟩ = some (.string t) := (hb2.cell (p := ⟨w.heap.size + 1, 0, none⟩) z1).trans (dd 0)
                  have k1 : w2.cell? ⟨w.heap.size + 1, 1, none⟩ = some (.string z) := (hb2.cell (p := ⟨w.heap.size + 1, 1, none⟩) z1).trans (dd 1)
                  have k2 : w2.cell? ⟨w.heap.size + 1, 2, none⟩ = some (.string k) := (hb2.cell (p := ⟨w.heap.size + 1, 2, none⟩) z1).trans (dd 2)
                  have z2 : w.heap.size + 1 < w2.heap.size := by have := hb2.size; omega
                  clear hb2 HW1 d0 dd b0 b1 b2 b3 b4 b5 z1
                  go_wp2_with fail
                  have hp2 : p < w2.heap.size := by omega
                  have HC2 := Lib.hid (H.out.below q2)
                  refine RegRel.wp_region_bel 5 5 (by kernel_rfl) (by kernel_rfl) [RegRel.is (.pointer (some ⟨p, 0, none⟩)), RegRel.is (.pointer (some ⟨p, 0, none⟩)), RegRel.is (.pointer (some ⟨p, 2, none⟩)), RegRel.is (.iface 53 (.map (some bs))), RegRel.is (.agg #[.string t, .string z, .string k])] (by simp [RegRel.AllStable, RegRel.stable_is, RegRel.tough_is]) rfl (by kernel_rfl) ?_ ?_
                  · simp only [List.take_succ_cons, List.take_zero, RegRel.OpsOk, RegRel.puts]
                    refine ⟨?_, ?_, ?_, ?_, ?_, trivial⟩
                    all_goals
                      intro u w' hC hD
                      try simp [RegRel.DepsOk, Region.binds, RegRel.ent, RegRel.is] at hD
                      have e1 := (hC.cell (p := ⟨p, 2, none⟩) hp2).trans g2
                      have e2 := (hC.cell (p := ⟨w.heap.size + 1, 0, none⟩) z2).trans k0
                      have e3 := (hC.cell (p := ⟨w.heap.size + 1, 1, none⟩) z2).trans k1
                      have e4 := (hC.cell (p := ⟨w.heap.size + 1, 2, none⟩) z2).trans k2
                      go_simp
                    all_goals (try simp [RegRel.ent, RegRel.is, RegRel.step, RegRel.upd, Below.refl])
                  · intro u w3 hC hv
                    simp only [List.take_succ_cons, List.take_zero, List.drop_succ_cons, List.drop_zero, RegRel.puts]
                    simp [RegRel.allV, RegRel.is] at hv
                    obtain ⟨v0, v1, v2, v3, v4⟩ := hv
                    have ST := Lib.hid (stocks_take c p be bs oi on _ vn w3 ⟨t, z, k⟩ (HC2.out.below hC))
                    rw [htk] at ST
                    have q3 : Below w.heap.size w w3 := q2.trans (hC.mono q2.size)
                    go_wp2_with fail
                    refine ST.out.mono ?_
                    rintro er w4 ⟨rfl, h4, s4⟩
                    have hnF : ∀ j, j ≥ w.heap.size → j ∉ foot p be bs oi on := fun j hj h => by have := H.out.lt h; omega
                    have z3 : w.heap.size + 1 < w3.heap.size := by have := hC.size; omega
                    have z4 : w.heap.size + 1 < w4.heap.size := by have := s4.size; omega
                    have j0 : w4.cell? ⟨w.heap.size, 0, none⟩ = some (.string tok) := (s4.cell (p := ⟨w.heap.size, 0, none⟩) (by show w.heap.size < _; omega) (hnF _ (by simp))).trans ((hC.cell (p := ⟨w.heap.size, 0, none⟩) (by show w.heap.size < _; omega)).trans h0')
                    have j1 : w4.cell? ⟨w.heap.size + 1, 0, none⟩ = some (.string t) := (s4.cell (p := ⟨w.heap.size + 1, 0, none⟩) (by show w.heap.size + 1 < _; omega) (hnF _ (by simp))).trans ((hC.cell (p := ⟨w.heap.size + 1, 0, none⟩) (by show w.heap.size + 1 < _; omega)).trans k0)
                    have j2 : w4.cell? ⟨w.heap.size + 1, 1, none⟩ = some (.string z) := (s4.cell (p := ⟨w.heap.size + 1, 1, none⟩) (by show w.heap.size + 1 < _; omega) (hnF _ (by simp))).trans ((hC.cell (p := ⟨w.heap.size + 1, 1, none⟩) (by show w.heap.size + 1 < _; omega)).trans k1)
                    have j3 : w4.cell? ⟨w.heap.size + 1, 2, none⟩ = some (.string k) := (s4.cell (p := ⟨w.heap.size + 1, 2, none⟩) (by show w.heap.size + 1 < _; omega) (hnF _ (by simp))).trans ((hC.cell (p := ⟨w.heap.size + 1, 2, none⟩) (by show w.heap.size + 1 < _; omega)).trans k2)
                    have q4 : Step (foot p be bs oi on) (foot p be bs oi on) w w4 := (Step.of_below q3).trans s4
                    have H4 := Lib.hid h4
                    obtain ⟨m0, m1, m2, m3, m4, m5⟩ := h4.cells
                    have hp4 : p < w4.heap.size := by omega
                    clear h4 s4 hC v0 v1 v2 v3 v4 ST q3 HC2 k0 k1 k2 h0' g0 g1 g2 g3 g4 g5 q2 q hp2 z3
                    go_wp2_with fail
                    refine RegRel.wp_region_bel 19 19 (by kernel_rfl) (by kernel_rfl) [RegRel.is (.pointer (some ⟨p, 0, none⟩)), RegRel.is (.pointer (some ⟨p, 0, none⟩)), RegRel.is (.pointer (some ⟨p, 0, none⟩)), RegRel.is (.slice a c.is.length cap), RegRel.is (.int .i64 c.is.length), RegRel.is (.int .i64 ((c.is.length : Int) + 1)), RegRel.is (.string ⟨(Lib.decDigits (c.is.length + 1)).toArray⟩), RegRel.is (.string (idStr (c.is.length + 1))), RegRel.is (.string tok), RegRel.is (.agg #[.string t, .string z, .string k]), RegRel.is (.int .i64 now),
                      RegRel.is (.pointer (some ⟨p, 0, none⟩)), RegRel.is (.pointer (some ⟨p, 0, none⟩)), RegRel.is (.pointer (some ⟨p, 3, none⟩)), RegRel.is (.int .i64 c.dl), RegRel.is (.int .i64 (wrap64 (now + c.dl))), RegRel.is (.int .i64 (min 1099511627776 (wrap64 (now + c.dl)))), RegRel.is (.agg #[.string (idStr (c.is.length + 1)), .string tok, .string t, .string z, .string k, .int .i64 0, .int .i64 (min 1099511627776 (wrap64 (now + c.dl)))]), RegRel.fresh w4.heap.size 7]
                      (by simp [RegRel.AllStable, RegRel.stable_is, RegRel.tough_is, RegRel.stable_fresh, RegRel.tough_fresh]) rfl (by kernel_rfl) ?_ ?_
                    · simp only [List.take_succ_cons, List.take_zero, RegRel.OpsOk, RegRel.puts]
                      refine ⟨?_, ?_, ?_, ?_, ?_, ?_, ?_, ?_, ?_, ?_, ?_, ?_, ?_, ?_, ?_, ?_, ?_, ?_, ?_, trivial⟩
                      all_goals
                        intro u w' hC hD
                        try simp [RegRel.DepsOk, Region.binds, RegRel.ent, RegRel.is] at hD
                        have e1 := (hC.cell (p := ⟨p, 0, none⟩) hp4).trans m0
                        have e2 := (hC.cell (p := ⟨p, 3, none⟩) hp4).trans m3
                        have e3 := (hC.cell (p := ⟨w.heap.size, 0, none⟩) (by show w.heap.size < _; omega)).trans j0
                        have e4 := (hC.cell (p := ⟨w.heap.size + 1, 0, none⟩) z4).trans j1
                        have e5 := (hC.cell (p := ⟨w.heap.size + 1, 1, none⟩) z4).trans j2
                        have e6 := (hC.cell (p := ⟨w.heap.size + 1, 2, none⟩) z4).trans j3
                        go_simp
                      all_goals (try simp [RegRel.ent, RegRel.is, RegRel.step, RegRel.upd, Below.refl])
                      · exact (IntWalk.i64_left _).trans (IntWalk.wrap64_in _ (by omega))
                      · have hit := itoa_small (c.is.length + 1) (by omega) w'
                        rw [Int.natCast_add] at hit
                        exact hit.mono fun e w'' ⟨he, hw⟩ => ⟨_, he, rfl, by subst hw; exact Below.refl _ _⟩
                      · rw [if_neg (by have := dec_len (show c.is.length + 1 < 100 by omega); omega)]
                        simp [RegRel.relUpon, RegRel.step, Below.refl, id_cat]
                      · exact IntWalk.i64_left _
                      · exact ⟨RegRel.fresh_new _ #[_, _, _, _, _, _, _] _ hC.size, RegRel.below_new _ _⟩
                    · intro u w5 hC hv
                      simp only [List.take_succ_cons, List.take_zero, List.drop_succ_cons, List.drop_zero, RegRel.puts]
                      simp [RegRel.allV, RegRel.is] at hv
                      obtain ⟨g0, g1, g2, g3, g4, g5, g6, g7, g8, g9, g10, g11, g12, g13, g14, g15, g16, g17, hv⟩ := hv
                      obtain ⟨n0, g18, n1, n2, cc, tt, n3, n4⟩ := hv
                      obtain ⟨x0, x1, x2, x3, x4, x5, x6, n5, y0, y1, y2, y3, y4, y5, y6, yf⟩ := seven_cells n3 n4
                      have N5 := Lib.hid n5
                      have hC5 := Lib.hid hC
                      clear n3 n4 n5 hC
                      go_wp2_with fail
                      generalize hW5 : World.setCell (World.setCell (World.setCell (World.setCell (World.setCell (World.setCell (World.setCell w5 _ _) _ _) _ _) _ _) _ _) _ _) _ _ = W5
                      have hx : newIn c tok ⟨t, z, k⟩ now = ⟨idStr (c.is.length + 1), tok, ⟨t, z, k⟩, 0, min 1099511627776 (wrap64 (now + c.dl))⟩ := rfl
                      have p5 := seven_put N5.out (.string (idStr (c.is.length + 1))) (.string tok) (.string t) (.string z) (.string k) (.int .i64 0) (.int .i64 (min 1099511627776 (wrap64 (now + c.dl))))
                      rw [hW5] at p5
                      have zW : W5.heap.size = w5.heap.size := by rw [← hW5]; simp
                      have b45 : Below w4.heap.size w4 W5 := by
                        rw [← hW5]
                        exact (((((((hC5.out.setCell (by exact n1) _).setCell (by exact n1) _).setCell (by exact n1) _).setCell (by exact n1) _).setCell (by exact n1) _).setCell (by exact n1) _).setCell (by exact n1) _)
                      clear hW5 N5 hC5 y0 y1 y2 y3 y4 y5 y6 yf g0 g1 g2 g3 g4 g5 g6 g7 g8 g9 g10 g11 g12 g13 g14 g15 g16 g17 m0 m1 m2 m3 m4 m5 j0 j1 j2 j3
                      have H5 := H4.out.below b45
                      have q5 : Step (foot p be bs oi on) (foot p be bs oi on) w W5 := q4.trans (Step.of_below b45)
                      have hoi : ∀ r, oi = some r → r < W5.heap.size ∧ r ≠ n0 := fun r hr => by have := H4.out.is.lt hr; have := b45.size; omega
                      have hoip : some p ≠ oi := fun e => (H5.ne_i e.symm).1 rfl
                      have hon0 : some n0 ≠ oi := fun e => (hoi n0 e.symm).2 rfl
                      have hp5 : p < W5.heap.size := by have := b45.size; omega
                      have hn5 : n0 < W5.heap.size := by omega
                      obtain ⟨m0, m1, m2, m3, m4, m5⟩ := H5.cells
                      have f0 := H5.free 0
                      have f5 := H5.free 5
                      have r0 : ∀ j, W5.cell? ⟨n0, j, none⟩ = ((In.cells (newIn c tok ⟨t, z, k⟩ now)).toArray)[j]? := fun j => by simp [World.cell?, p5, In.cells, hx]
                      have s0 : W5.cell? ⟨n0, 0, none⟩ = some (.string (idStr (c.is.length + 1))) := r0 0
                      have s1 : W5.cell? ⟨n0, 1, none⟩ = some (.string tok) := r0 1
                      have s2 : W5.cell? ⟨n0, 2, none⟩ = some (.string t) := r0 2
                      have s3 : W5.cell? ⟨n0, 3, none⟩ = some (.string z) := r0 3
                      have s4 : W5.cell? ⟨n0, 4, none⟩ = some (.string k) := r0 4
                      have s5 : W5.cell? ⟨n0, 5, none⟩ = some (.int .i64 0) := r0 5
                      have s6 : W5.cell? ⟨n0, 6, none⟩ = some (.int .i64 (min 1099511627776 (wrap64 (now + c.dl)))) := r0 6
                      have HR5 := Lib.hid H5.is
                      have HC5 := Lib.hid H5
                      have hoi' := fun r hr => (hoi r hr).1
                      obtain ⟨i0, hi, hz0, hz1, hz2⟩ := info_parts info41
                      have HI := Lib.hid hi
                      have HZ0 := Lib.hid hz0
                      have HZ1 := Lib.hid hz1
                      have HZ2 := Lib.hid hz2
                      clear hi hz0 hz1 hz2 r0 p5 H5 H4 q4 b45 hoi
                      refine RegRel.wp_region_grow 8 7 oi (fun w' => Rowed w' 41 7 oi (.slice a c.is.length cap) c.is.length (c.is.flatMap In.cells)) (by kernel_rfl) (by kernel_rfl)
                        [RegRel.is (.pointer (some ⟨p, 0, none⟩)), RegRel.is (.pointer (some ⟨p, 0, none⟩)), RegRel.is (.pointer (some ⟨p, 0, none⟩)), RegRel.is (.pointer (some ⟨p, 0, none⟩)), RegRel.is (.slice a c.is.length cap), RegRel.is (.agg #[.string (idStr (c.is.length + 1)), .string tok, .string t, .string z, .string k, .int .i64 0, .int .i64 (min 1099511627776 (wrap64 (now + c.dl)))]), ⟨none, fun v _ w' => ∃ g, v = .slice (some ⟨g, 0, none⟩) 1 1 ∧ W5.heap.size ≤ g ∧ g < w'.heap.size ∧ ∀ j u, ([.string (idStr (c.is.length + 1)), .string tok, .string t, .string z, .string k, .int .i64 0, .int .i64 (min 1099511627776 (wrap64 (now + c.dl)))] : List Value)[j]? = some u → w'.cell? ⟨g, j, none⟩ = some u⟩,
                         ⟨none, fun v _ w' => ∃ o' a' cap', v = .slice a' (c.is.length + 1) cap' ∧ Rowed w' 41 7 o' v (c.is.length + 1) (c.is.flatMap In.cells ++ [.string (idStr (c.is.length + 1)), .string tok, .string t, .string z, .string k, .int .i64 0, .int .i64 (min 1099511627776 (wrap64 (now + c.dl)))]) ∧ (o' = oi ∨ ∃ g, o' = some g ∧ W5.heap.size ≤ g)⟩]
                        rfl ?hst rfl HR5.out (fun _ h => h) (fun _ _ h hb => h.below hb) ?_ ?_
                      case hst =>
                        intro j e hj
                        rcases j with _ | _ | _ | _ | _ | _ | _ | _ | j
                        all_goals first | (have e1 := Option.some.inj hj; subst e1) | (simp at hj; done)
                        · exact ⟨RegRel.stable_is _, .inr (RegRel.toughG_is _ _ _)⟩
                        · exact ⟨RegRel.stable_is _, .inr (RegRel.toughG_is _ _ _)⟩
                        · exact ⟨RegRel.stable_is _, .inr (RegRel.toughG_is _ _ _)⟩
                        · exact ⟨RegRel.stable_is _, .inr (RegRel.toughG_is _ _ _)⟩
                        · exact ⟨RegRel.stable_is _, .inr (RegRel.toughG_is _ _ _)⟩
                        · exact ⟨RegRel.stable_is _, .inr (RegRel.toughG_is _ _ _)⟩
                        · refine ⟨?_, .inr ?_⟩
                          · rintro v v' w1 w2 hb ⟨g, rfl, h1, h2, h3⟩
                            exact ⟨g, rfl, h1, Nat.lt_of_lt_of_le h2 hb.size, fun j u hj => (hb.cell (p := ⟨g, j, none⟩) h2).trans (h3 j u hj)⟩
                          · rintro v v' w1 w2 _ hg ⟨g, rfl, h1, h2, h3⟩
                            exact ⟨g, rfl, h1, Nat.lt_of_lt_of_le h2 hg.size, fun j u hj => hg.cell (h3 j u hj) (fun e => by have := hoi' g e.symm; omega)⟩
                        · refine ⟨?_, .inl rfl⟩
                          rintro v v' w1 w2 hb ⟨o', a', cap', rfl, h1, h2⟩
                          exact ⟨o', a', cap', rfl, h1.below hb, h2⟩
                      · simp only [List.take_succ_cons, List.take_zero, RegRel.OpsOk, RegRel.puts]
                        refine ⟨?_, ?_, ?_, ?_, ?_, ?_, ?_, ?_, trivial⟩
                        rotate_left 7
                        · intro u w' hC hD
                          simp [RegRel.DepsOk, Region.binds, RegRel.ent, RegRel.is] at hD
                          obtain ⟨d4, g, d6, i1, i2, i3⟩ := hD
                          obtain ⟨v', wA, o', hr, hrow, hgr, hfr, hold⟩ := run_append_rowed (P := Tryd.prog) w' 35 35 41 i0 _ 7 96 Tryd.underlying35 HI.out HZ0.out HZ1.out HZ2.out rfl oi (.slice a c.is.length cap) c.is.length _ hC.2 ⟨g, 0, none⟩ 1 1 [.string (idStr (c.is.length + 1)), .string tok, .string t, .string z, .string k, .int .i64 0, .int .i64 (min 1099511627776 (wrap64 (now + c.dl)))] rfl (fun j u hj => by rw [Addr.add_lit, Nat.zero_add]; exact i3 j u hj) (by simp [Value.oneCell']) (by decide) (by unfold maxLen; omega) (by omega)
                          obtain ⟨a', cap', rfl, -⟩ := hrow.shape
                          have hW : W5.heap.size ≤ w'.heap.size := hC.1.size
                          have hfr' : o' = oi ∨ ∃ g, o' = some g ∧ W5.heap.size ≤ g := by
                            rcases hfr with e | ⟨g', e, h1, _⟩
                            · exact .inl e
                            · exact .inr ⟨g', e, by omega⟩
                          unfold RegRel.opOk
                          rw [if_pos (by simp [Region.wanted])]
                          unfold execOp
                          simp [resolve, invoke, builtin, d4, d6, hr, Act.eval, Act.put, RegRel.relUpon, Result.andThen, RegRel.ent, RegRel.growSt, RegRel.upd]
                          exact ⟨⟨o', hrow, by simpa [zW] using hfr'⟩, hgr, hold⟩
                        all_goals
                          intro u w' hC hD
                          try simp [RegRel.DepsOk, Region.binds, RegRel.ent, RegRel.is] at hD
                          have e1 : w'.cell? ⟨p, 0, none⟩ = _ := (World.cell?_of_block (a := ⟨p, 0, none⟩) (hC.1.block p hp5 hoip)).trans m0
                          have e2 : w'.cell? ⟨n0, 0, none⟩ = _ := (World.cell?_of_block (a := ⟨n0, 0, none⟩) (hC.1.block n0 hn5 hon0)).trans s0
                          have e3 : w'.cell? ⟨n0, 1, none⟩ = _ := (World.cell?_of_block (a := ⟨n0, 1, none⟩) (hC.1.block n0 hn5 hon0)).trans s1
                          have e4 : w'.cell? ⟨n0, 2, none⟩ = _ := (World.cell?_of_block (a := ⟨n0, 2, none⟩) (hC.1.block n0 hn5 hon0)).trans s2
                          have e5 : w'.cell? ⟨n0, 3, none⟩ = _ := (World.cell?_of_block (a := ⟨n0, 3, none⟩) (hC.1.block n0 hn5 hon0)).trans s3
                          have e6 : w'.cell? ⟨n0, 4, none⟩ = _ := (World.cell?_of_block (a := ⟨n0, 4, none⟩) (hC.1.block n0 hn5 hon0)).trans s4
                          have e7 : w'.cell? ⟨n0, 5, none⟩ = _ := (World.cell?_of_block (a := ⟨n0, 5, none⟩) (hC.1.block n0 hn5 hon0)).trans s5
                          have e8 : w'.cell? ⟨n0, 6, none⟩ = _ := (World.cell?_of_block (a := ⟨n0, 6, none⟩) (hC.1.block n0 hn5 hon0)).trans s6
                          go_simp
                        all_goals (try simp [RegRel.ent, RegRel.is, RegRel.growSt, RegRel.upd, Below.refl])
                        · have h : W5.heap.size ≤ w'.heap.size := hC.1.size
                          exact ⟨by omega, below_new _ _⟩
                      · intro u w6 hC hv
                        simp only [List.take_succ_cons, List.take_zero, List.drop_succ_cons, List.drop_zero, RegRel.puts]
                        simp [RegRel.allV, RegRel.is] at hv
                        obtain ⟨g0, g1, g2, g3, g4, g5, _, ⟨a', cap', g7⟩, o', hrow, hfr⟩ := hv
                        have hg : W5.grownBy w6 oi := ⟨hC.1.os, hC.1.tape, hC.1.output, hC.1.size, hC.1.block⟩
                        rw [g7] at hrow
                        have hrow' : Rowed w6 41 7 o' (.slice a' (c.is.length + 1) cap') (c.is ++ [newIn c tok ⟨t, z, k⟩ now]).length ((c.is ++ [newIn c tok ⟨t, z, k⟩ now]).flatMap In.cells) := by
                          rw [List.flatMap_append, List.length_append]
                          exact hrow
                        have hf : Fresh W5 w6 oi o' := by
                          rcases hfr with e | ⟨g', e, h1⟩
                          · exact .inl e
                          · exact .inr ⟨g', e, by omega, hrow.lt e⟩
                        obtain ⟨Q1, Q2⟩ := HC5.out.set_is hg hrow' hf
                        have QQ1 := Lib.hid (Q1.set_n (wrap64 (c.n + 1)))
                        have QQ2 := Lib.hid Q2
                        have l0 : w6.cell? ⟨p, 0, none⟩ = _ := (World.cell?_of_block (a := ⟨p, 0, none⟩) (hg.block p hp5 hoip)).trans m0
                        have l5 : w6.cell? ⟨p, 5, none⟩ = _ := (World.cell?_of_block (a := ⟨p, 5, none⟩) (hg.block p hp5 hoip)).trans m5
                        have lf0 : w6.frozen? ⟨p, 0, none⟩ = false := (World.frozen?_of_block (a := ⟨p, 0, none⟩) (hg.block p hp5 hoip)).trans f0
                        have lf5 : w6.frozen? ⟨p, 5, none⟩ = false := (World.frozen?_of_block (a := ⟨p, 5, none⟩) (hg.block p hp5 hoip)).trans f5
                        have ls : w6.cell? ⟨n0, 0, none⟩ = _ := (World.cell?_of_block (a := ⟨n0, 0, none⟩) (hg.block n0 hn5 hon0)).trans s0
                        have hnp : ¬ p = n0 := by omega
                        clear hrow hrow' hf hfr hg hC Q1 Q2 m0 m1 m2 m3 m4 m5 s0 s1 s2 s3 s4 s5 s6 f0 f5
                        go_wp2_with fail
                        go_ret2
                        exact ⟨rfl, _, ⟨be, bs, o', on, _, vn, QQ1.out, rfl⟩, (q5.trans QQ2.out).trans (step_set _ _ (mem_foot.2 (.inl rfl)))⟩
            · have e1 : launchE c tok ⟨t, z, k⟩ now = (x.id, 0) := by unfold launchE; rw [if_neg (by rw [hgood]; decide), hf]
              have e2 : c.launch tok ⟨t, z, k⟩ now = c := by unfold Cd.launch; rw [if_neg (by rw [hgood]; decide), hf]
              rw [e1, e2]
              rw [hi, Nat.zero_add] at HIX
              have hjl : j < c.is.length := (List.getElem?_eq_some_iff.1 hj).1
              clear e1 e2 hgood hf hi
              go_enter Tryd.func11, Tryd.ntmps11
              go_wp2_with fail
              refine (HN.out _).mono ?_
              rintro er w1 ⟨rfl, hb⟩
              have q : Below w.heap.size w w1 := (hB2.out _ _).trans (hb.mono (by simp; omega))
              have d0 : w1.cell? ⟨w.heap.size, 0, none⟩ = some (.string tok) := (hb.cell (p := ⟨w.heap.size, 0, none⟩) (by simp; omega)).trans (by rw [World.cell?_alloc_lt _ _ _ (by simp), World.cell?_alloc_new]; rfl)
              have dd : ∀ j, w1.cell? ⟨w.heap.size + 1, j, none⟩ = (#[.string t, .string z, .string k] : Array Value)[j]? := fun j => (hb.cell (p := ⟨w.heap.size + 1, j, none⟩) (by simp)).trans (by rw [World.cell?_alloc_at _ _ _ _ (by simp)])
              have z1 : w.heap.size + 1 < w1.heap.size := by have := hb.size; simp at this; omega
              have HW1 := Lib.hid (HO.out.below q)
              obtain ⟨b0, b1, b2, b3, b4, b5⟩ := (H.out.below q).cells
              clear hb
              go_wp2_with fail
              refine (HIX.out w1 q d0 (by omega)).mono ?_
              rintro er w2 ⟨rfl, hb2⟩
              have q2 : Below w.heap.size w w2 := q.trans (hb2.mono q.size)
              obtain ⟨g0, g1, g2, g3, g4, g5⟩ := (H.out.below q2).cells
              have h0' : w2.cell? ⟨w.heap.size, 0, none⟩ = some (.string tok) := (hb2.cell (p := ⟨w.heap.size, 0, none⟩) (by show w.heap.size < _; omega)).trans d0
              have k0 : w2.cell? ⟨w.heap.size + 1, 0, none⟩ = some (.string t) := (hb2.cell (p := ⟨w.heap.size + 1, 0, none⟩) z1).trans (dd 0)
              have k1 : w2.cell? ⟨w.heap.size + 1, 1, none⟩ = some (.string z) := (hb2.cell (p := ⟨w.heap.size + 1, 1, none⟩) z1).trans (dd 1)
              have k2 : w2.cell? ⟨w.heap.size + 1, 2, none⟩ = some (.string k) := (hb2.cell (p := ⟨w.heap.size + 1, 2, none⟩) z1).trans (dd 2)
              have z2 : w.heap.size + 1 < w2.heap.size := by have := hb2.size; omega
              clear hb2 HW1 d0 dd b0 b1 b2 b3 b4 b5 z1
              obtain ⟨g, off, cap', hv, -, hg, -, hc, -⟩ := (H.out.below q2).is.elt in_len hj
              cases hv
              have hc0 := hc 0 _ rfl
              simp only [Nat.add_zero] at hc0
              clear hc hj
              go_wp2_with fail
              go_ret2
              exact ⟨rfl, _, HO.out.below q2, Step.of_below q2⟩
  · have hl : tok.toList = [] := by simpa using he
    have hbad : badL tok ⟨t, z, k⟩ now = true := by simp [badL, emp, he]
    have e1 : launchE c tok ⟨t, z, k⟩ now = (⟨#[]⟩, 1) := by unfold launchE; rw [if_pos hbad]
    have e2 : c.launch tok ⟨t, z, k⟩ now = c := by unfold Cd.launch; rw [if_pos hbad]
    rw [e1, e2]
    clear e1 e2 hbad
    go_enter Tryd.func11, Tryd.ntmps11
    go_wp2_with fail
    go_ret2
    exact ⟨rfl, _, HO.out.below (hB2.out _ _), Step.of_below (hB2.out _ _)⟩
end Go.Proofs.YtpoegpojlcbfgaaDoor
