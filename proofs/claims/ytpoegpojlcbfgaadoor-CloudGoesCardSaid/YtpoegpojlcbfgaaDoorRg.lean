/- The reference's Launch. -/
import Derived.Test.YtpoegpojlcbfgaaDoorRf
namespace Go.Proofs.YtpoegpojlcbfgaaDoor
open Go.RowKit
attribute [local go_sem] RegRel.relUpon RegRel.opOk

/-- Every offer has one stock at the most. -/
def Keys (l : List (Of × Int)) : Prop := ∀ (i j : Nat) (x y : Of × Int), l[i]? = some x → l[j]? = some y → x.1 = y.1 → i = j
theorem stock_at {o : Of} : ∀ {l : List (Of × Int)} {k : Nat} {m : Int}, l[k]? = some (o, m) → (∀ (j : Nat) (y : Of × Int), j < k → l[j]? = some y → y.1 ≠ o) → stockOf o l = some m
  | [], _, _, h, _ => by simp at h
  | (o', m') :: r, 0, m, h, _ => by
    simp only [List.getElem?_cons_zero, Option.some.injEq, Prod.mk.injEq] at h
    obtain ⟨rfl, rfl⟩ := h
    unfold stockOf
    rw [if_pos (same_self _)]
  | (o', m') :: r, k + 1, m, h, hn => by
    have h0 : o' ≠ o := hn 0 _ (Nat.succ_pos _) rfl
    unfold stockOf
    rw [if_neg (by rw [same_ne (Ne.symm h0)]; decide)]
    exact stock_at (l := r) (k := k) (m := m) (by simpa using h) (fun j y hj hy => hn (j + 1) y (by omega) (by simpa using hy))
theorem stock_some {o : Of} : ∀ {l : List (Of × Int)} {m : Int}, stockOf o l = some m → ∃ k : Nat, l[k]? = some (o, m)
  | [], _, h => by cases h
  | (o', m') :: r, m, h => by
    unfold stockOf at h
    split at h
    · rename_i hs
      cases h
      have := same_iff.1 hs
      subst this
      exact ⟨0, rfl⟩
    · obtain ⟨k, hk⟩ := stock_some h
      exact ⟨k + 1, by simpa using hk⟩
theorem keys_before {l : List (Of × Int)} {o : Of} {k : Nat} {m : Int} (hk : Keys l) (h : l[k]? = some (o, m)) : ∀ (j : Nat) (y : Of × Int), j < k → l[j]? = some y → y.1 ≠ o := fun j y hj hy e => by
  have := hk j k y _ hy h e
  omega
theorem take_no {l : List (Of × Int)} {o : Of} {k : Nat} (hk : Keys l) (h : l[k]? = some (o, 0)) : takeOk l o = false := by
  unfold takeOk
  rw [stock_at h (keys_before hk h)]
  rfl
theorem take_yes {l : List (Of × Int)} {o : Of} (h : ∀ (j : Nat) (y : Of × Int), l[j]? = some y → y.1 = o → y.2 ≠ 0) : takeOk l o = true := by
  unfold takeOk
  cases hs : stockOf o l with
  | none => rfl
  | some m =>
    obtain ⟨k, hk⟩ := stock_some hs
    simpa using h k _ hk rfl
/-- One less of the offer. -/
def tk (o : Of) (x : Of × Int) : Of × Int := if same x.1 o then (if 0 < x.2 then (x.1, wrap64 (x.2 - 1)) else x) else x
def tkTo (o : Of) (j : Nat) (l : List (Of × Int)) : List (Of × Int) := (l.take j).map (tk o) ++ l.drop j
theorem tkTo_zero (o : Of) (l : List (Of × Int)) : tkTo o 0 l = l := rfl
theorem tkTo_len (o : Of) (j : Nat) (l : List (Of × Int)) : (tkTo o j l).length = l.length := by
  unfold tkTo
  rw [List.length_append, List.length_map, ← List.length_append, List.take_append_drop]
theorem tkTo_all (o : Of) (l : List (Of × Int)) : tkTo o l.length l = l.map (tk o) := by unfold tkTo; simp
theorem tkTo_at {o : Of} {j : Nat} {l : List (Of × Int)} {x : Of × Int} (h : l[j]? = some x) : (tkTo o j l)[j]? = some x := by
  have hj := (List.getElem?_eq_some_iff.1 h).1
  unfold tkTo
  rw [List.getElem?_append_right (by rw [List.length_map, List.length_take]; omega), List.length_map, List.length_take, Nat.min_eq_left (by omega), Nat.sub_self, List.getElem?_drop]
  exact h
theorem tkTo_next {o : Of} {j : Nat} {l : List (Of × Int)} {x : Of × Int} (h : l[j]? = some x) : tkTo o (j + 1) l = (tkTo o j l).set j (tk o x) := by
  have hj := (List.getElem?_eq_some_iff.1 h).1
  have hl : ((l.take j).map (tk o)).length = j := by rw [List.length_map, List.length_take]; omega
  have hd : l.drop j = x :: l.drop (j + 1) := by
    rw [List.drop_eq_getElem_cons hj]
    have := (List.getElem?_eq_some_iff.1 h).2
    rw [this]
  unfold tkTo
  rw [take_next h, List.map_append, List.set_append_right _ _ (by omega), hl, Nat.sub_self, hd]
  simp
theorem tkTo_same {o : Of} {j : Nat} {l : List (Of × Int)} {x : Of × Int} (h : l[j]? = some x) (hx : tk o x = x) : tkTo o (j + 1) l = tkTo o j l := by
  rw [tkTo_next h, hx]
  apply List.ext_getElem?
  intro i
  rw [List.getElem?_set]
  split
  · rename_i e
    subst e
    have := tkTo_at (o := o) h
    rw [if_pos (List.getElem?_eq_some_iff.1 this).1, this]
  · rfl
theorem take_map {l : List (Of × Int)} {o : Of} (hk : Keys l) : takeSk l o = l.map (tk o) := by
  unfold takeSk
  cases hs : stockOf o l with
  | none =>
    have : l.map (tk o) = l.map id := by
      apply List.map_congr_left
      intro x hx
      obtain ⟨i, hi⟩ := List.getElem?_of_mem hx
      unfold tk
      by_cases e : same x.1 o = true
      · have h1 : x.1 = o := same_iff.1 e
        obtain ⟨x1, x2⟩ := x
        simp only at h1
        subst h1
        rw [stock_at hi (keys_before hk hi)] at hs
        cases hs
      · rw [if_neg e]; rfl
    simp only
    rw [this, List.map_id]
  | some m =>
    obtain ⟨k, hm⟩ := stock_some hs
    have hset : ∀ v : Of × Int, (if 0 < m then (o, wrap64 (m - 1)) else (o, m)) = v → l.map (tk o) = l.set k v := by
      intro v hv
      apply List.ext_getElem?
      intro i
      rw [List.getElem?_map, List.getElem?_set]
      have hkl := (List.getElem?_eq_some_iff.1 hm).1
      by_cases e : k = i
      · subst e
        rw [if_pos rfl, if_pos hkl, hm, ← hv]
        show some (tk o (o, m)) = _
        unfold tk
        rw [if_pos (same_self _)]
      · rw [if_neg e]
        cases hy : l[i]? with
        | none => rfl
        | some y =>
          show some (tk o y) = some y
          unfold tk
          rw [if_neg]
          intro h1
          exact e (hk k i _ _ hm hy (same_iff.1 h1).symm)
    simp only
    by_cases h0 : 0 < m
    · rw [if_pos h0, set_at hm (keys_before hk hm), hset (o, wrap64 (m - 1)) (by rw [if_pos h0])]
    · rw [if_neg h0, hset (o, m) (by rw [if_neg h0])]
      apply List.ext_getElem?
      intro i
      rw [List.getElem?_set]
      split
      · rename_i e
        subst e
        rw [if_pos (List.getElem?_eq_some_iff.1 hm).1, hm]
      · rfl
theorem find_at {α : Type} {q : α → Bool} : ∀ {l : List α} {k : Nat} {x : α}, l[k]? = some x → q x = true → (∀ (j : Nat) (y : α), j < k → l[j]? = some y → q y = false) → l.find? q = some x
  | [], _, _, h, _, _ => by simp at h
  | y :: r, 0, x, h, hq, _ => by
    simp only [List.getElem?_cons_zero, Option.some.injEq] at h
    subst h
    rw [List.find?_cons_of_pos hq]
  | y :: r, k + 1, x, h, hq, hn => by
    rw [List.find?_cons_of_neg (by rw [hn 0 y (Nat.succ_pos _) rfl]; decide)]
    exact find_at (l := r) (k := k) (by simpa using h) hq (fun j z hj hz => hn (j + 1) z (by omega) (by simpa using hz))
theorem find_none {α : Type} {q : α → Bool} {l : List α} (h : ∀ (j : Nat) (y : α), l[j]? = some y → q y = false) : l.find? q = none := by
  rw [List.find?_eq_none]
  intro x hx
  obtain ⟨i, hi⟩ := List.getElem?_of_mem hx
  rw [h i x hi]; decide
theorem ne_run {t z k t' z' k' : ByteArray} (hs : ¬ (⟨t', z', k'⟩ : Of) = ⟨t, z, k⟩) (B wi i : Nat) (w' : World) : RegRel.relUpon Tryd.prog (fun v _ => v = Value.bool false) (RegRel.step B wi i w')
    (if t'.toList = t.toList then if z'.toList = z.toList then if k'.toList = k.toList then Result.ok (Next.value (Value.bool true)) w' else Result.ok (Next.value (Value.bool false)) w' else Result.ok (Next.value (Value.bool false)) w' else Result.ok (Next.value (Value.bool false)) w') := by
  have hst : RegRel.step B wi i w' w' := by
    unfold RegRel.step; split
    · exact ⟨Below.refl _ _, RegRel.Shaped.refl _⟩
    · exact Below.refl _ _
  rcases of_ne hs with a1 | ⟨a1, a2⟩ | ⟨a1, a2, a3⟩
  · simp [a1, RegRel.relUpon, hst]
  · simp [a1, a2, RegRel.relUpon, hst]
  · simp [a1, a2, a3, RegRel.relUpon, hst]

set_option maxRecDepth 100000 in
set_option maxHeartbeats 16000000 in
theorem rlaunch_any (c : Cd) (p : Nat) (F : List Nat) (w : World) (tok : ByteArray) (o : Of) (now : Int) (hs : tok.size ≤ 9223372036854775807) (h64 : c.is.length ≤ 64) (hk : Keys c.sk) (h200 : c.sk.length ≤ 200) (hen : has c.en (idStr (c.is.length + 1)) = false) (h : Rown w p c F) :
    Calls Tryd.prog 18 #[.pointer (some ⟨p, 0, none⟩), .string tok, o.val, .int .i64 now] w fun e w' => e = .returned (.tuple #[.string (launchE c tok o now).1, .int .i64 (launchE c tok o now).2]) ∧ ∃ F', Rown w' p (c.launch tok o now) F' ∧ Step F F' w w' := by
  have HN := Lib.hid (rnamed_any o)
  have HO := Lib.hid h
  have hB := Lib.hid (fun o : Obj => below_new w o)
  obtain ⟨oi, os, on, vi, vs, vn, h, rfl⟩ := h
  have H := Lib.hid h
  obtain ⟨c0, c1, c2, c3, c4⟩ := h.cells
  have hp : p < w.heap.size := h.lt (mem_rfoot.2 (.inl rfl))
  obtain ⟨a, cap, rfl, -⟩ := h.is.shape
  obtain ⟨a2, cap2, rfl, -⟩ := h.sk.shape
  clear h
  obtain ⟨t, z, k⟩ := o
  show Calls Tryd.prog 18 #[.pointer (some ⟨p, 0, none⟩), .string tok, .agg #[.string t, .string z, .string k], .int .i64 now] w _
  rcases he : tok.toList.isEmpty with _ | _
  · have hl : ¬ tok.toList = [] := fun e => by rw [e] at he; cases he
    by_cases h32 : 32 < tok.size
    · have hbad : badL tok ⟨t, z, k⟩ now = true := by simp [badL, h32]
      obtain ⟨e1, e2⟩ := launch_bad (c := c) hbad
      rw [e1, e2]
      clear e1 e2 hbad
      go_enter Tryd.func18, Tryd.ntmps18
      go_wp2_with fail
      go_ret2
      exact ⟨rfl, _, HO.out.below (hB.out _), Step.of_below (hB.out _)⟩
    · rcases hnm : namedB ⟨t, z, k⟩ with _ | _
      · have hbad : badL tok ⟨t, z, k⟩ now = true := by simp [badL, hnm]
        obtain ⟨e1, e2⟩ := launch_bad (c := c) hbad
        rw [e1, e2]
        clear e1 e2 hbad
        rw [hnm] at HN
        clear hnm
        go_enter Tryd.func18, Tryd.ntmps18
        go_wp2_with fail
        refine (HN.out _).mono ?_
        rintro er w1 ⟨rfl, hb⟩
        have q : Below w.heap.size w w1 := (hB.out _).trans (hb.mono (by simp))
        clear hb
        go_wp2_with fail
        go_ret2
        exact ⟨rfl, _, HO.out.below q, Step.of_below q⟩
      · by_cases h0 : now < 0
        · have hbad : badL tok ⟨t, z, k⟩ now = true := by simp [badL, h0]
          obtain ⟨e1, e2⟩ := launch_bad (c := c) hbad
          rw [e1, e2]
          clear e1 e2 hbad
          rw [hnm] at HN
          clear hnm
          go_enter Tryd.func18, Tryd.ntmps18
          go_wp2_with fail
          refine (HN.out _).mono ?_
          rintro er w1 ⟨rfl, hb⟩
          have q : Below w.heap.size w w1 := (hB.out _).trans (hb.mono (by simp))
          clear hb
          go_wp2_with fail
          go_ret2
          exact ⟨rfl, _, HO.out.below q, Step.of_below q⟩
        · by_cases h1 : 1099511627776 < now
          · have hbad : badL tok ⟨t, z, k⟩ now = true := by simp [badL, h1]
            obtain ⟨e1, e2⟩ := launch_bad (c := c) hbad
            rw [e1, e2]
            clear e1 e2 hbad
            rw [hnm] at HN
            clear hnm
            go_enter Tryd.func18, Tryd.ntmps18
            go_wp2_with fail
            refine (HN.out _).mono ?_
            rintro er w1 ⟨rfl, hb⟩
            have q : Below w.heap.size w w1 := (hB.out _).trans (hb.mono (by simp))
            clear hb
            go_wp2_with fail
            go_ret2
            exact ⟨rfl, _, HO.out.below q, Step.of_below q⟩
          · have hgood : badL tok ⟨t, z, k⟩ now = false := by simp [badL, emp, he, h32, hnm, h0, h1]
            have HG := Lib.hid hgood
            rw [hnm] at HN
            clear hnm hgood
            go_enter Tryd.func18, Tryd.ntmps18
            go_wp2_with fail
            refine (HN.out _).mono ?_
            rintro er w1 ⟨rfl, hb⟩
            have q : Below w.heap.size w w1 := (hB.out _).trans (hb.mono (by simp))
            have dd : ∀ j, w1.cell? ⟨w.heap.size, j, none⟩ = (#[.string t, .string z, .string k] : Array Value)[j]? := fun j => (hb.cell (p := ⟨w.heap.size, j, none⟩) (by simp)).trans (by rw [World.cell?_alloc_at _ _ _ _ rfl])
            have z1 : w.heap.size < w1.heap.size := by have := hb.size; simp at this; omega
            have b0 := dd 0
            have b1 := dd 1
            have b2 := dd 2
            obtain ⟨d0, d1, d2, d3, d4⟩ := (H.out.below q).cells
            clear hb dd HN
            go_wp2_with fail
            go_loopw [40] (fun i wr => ∃ n : Nat, n ≤ c.is.length ∧ i = .int .i64 n ∧ Below w1.heap.size w1 wr ∧ Hid (∀ (i : Nat) (y : In), i < n → c.is[i]? = some y → sq y.tok tok = false))
              (fun i _ => c.is.length - (intOf i).toNat)
            case atStart => exact ⟨0, Nat.zero_le _, rfl, Below.refl _ _, fun j y hj => absurd hj (Nat.not_lt_zero _)⟩
            case round =>
              obtain ⟨n, hn, rfl, hb, HX⟩ := hrel
              have hq : Below w.heap.size w wr := q.trans (hb.mono q.size)
              by_cases hlt : n < c.is.length
              · obtain ⟨x, hx⟩ : ∃ x, c.is[n]? = some x := ⟨_, List.getElem?_eq_getElem hlt⟩
                have hx' : (c.is.map (mark c.en))[n]? = some (mark c.en x) := by rw [List.getElem?_map, hx]; rfl
                have hrow : Rowed wr 41 7 oi (.slice a c.is.length cap) (c.is.map (mark c.en)).length ((c.is.map (mark c.en)).flatMap In.cells) := by rw [List.length_map]; exact (H.out.below hq).is
                obtain ⟨g, off, cap', hv, ho, hg, -, hc, -⟩ := hrow.elt in_len hx'
                rw [List.length_map] at hv
                cases hv
                obtain ⟨st, hst⟩ : ∃ st, (mark c.en x).st = st := ⟨_, rfl⟩
                have hc0 : wr.cell? ⟨g, off + n * 7 + 0, none⟩ = some (.string x.id) := hc 0 _ rfl
                have hc1 : wr.cell? ⟨g, off + n * 7 + 1, none⟩ = some (.string x.tok) := hc 1 _ rfl
                have hc2 : wr.cell? ⟨g, off + n * 7 + 2, none⟩ = some (.string x.o.t) := hc 2 _ rfl
                have hc3 : wr.cell? ⟨g, off + n * 7 + 3, none⟩ = some (.string x.o.z) := hc 3 _ rfl
                have hc4 : wr.cell? ⟨g, off + n * 7 + 4, none⟩ = some (.string x.o.k) := hc 4 _ rfl
                have hc5 : wr.cell? ⟨g, off + n * 7 + 5, none⟩ = some (.int .i64 st) := hst ▸ hc 5 _ rfl
                have hc6 : wr.cell? ⟨g, off + n * 7 + 6, none⟩ = some (.int .i64 x.rd) := hc 6 _ rfl
                simp only [Nat.add_zero] at hc0
                rcases hn' : sq x.tok tok with _ | _
                · have hne : (x.tok.toList == tok.toList) = false := hn'
                  have HX' : Hid (∀ (i : Nat) (y : In), i < n + 1 → c.is[i]? = some y → sq y.tok tok = false) := fun i y hi hy => by
                    rcases Nat.lt_succ_iff_lt_or_eq.1 hi with h | h
                    · exact HX.out i y h hy
                    · subst h
                      rw [hx] at hy; cases hy; exact hn'
                  clear hc hrow hx' hx hn' HX hst ho hq
                  go_wp2_with fail
                  go_roundw
                  case rel => exact ⟨n + 1, by omega, by go_num, hb.alloc hb.size _, HX'⟩
                  case measure => simp [intOf]; omega
                · have hid := sq_iff.1 hn'
                  obtain ⟨e1, e2⟩ := launch_was (c := c) HG.out (find_at (q := fun x : In => sq x.tok tok) hx hn' HX.out)
                  have E1 := Lib.hid e1
                  have E2 := Lib.hid e2
                  have q2 := fun o : Obj => hq.alloc hq.size o
                  rw [hid] at hc1
                  clear hc hrow hx' hx hn' HX hst ho e1 e2 hid hq
                  go_wp2_with fail
                  go_ret2
                  exact ⟨by rw [E1.out]; rfl, _, by rw [E2.out]; exact HO.out.below (q2 _), Step.of_below (q2 _)⟩
              · have hnl : n = c.is.length := by omega
                subst hnl
                have hf := find_none (q := fun x : In => sq x.tok tok) (l := c.is) (fun j y hy => HX.out j y (List.getElem?_eq_some_iff.1 hy).1 hy)
                have HF := Lib.hid hf
                clear hf HX
                obtain ⟨m0, m1, m2, m3, m4⟩ := (H.out.below hq).cells
                have HQ := Lib.hid hq
                by_cases hm : 64 ≤ c.is.length
                · obtain ⟨e1, e2⟩ := launch_many (c := c) HG.out HF.out hm
                  have E1 := Lib.hid e1
                  have E2 := Lib.hid e2
                  clear e1 e2 hq
                  go_wp2_with fail
                  go_ret2
                  exact ⟨by rw [E1.out]; rfl, _, by rw [E2.out]; exact HO.out.below HQ.out, Step.of_below HQ.out⟩
                · go_wp2_with fail
                  have hb1 := hb
                  clear hb hq hlt
                  rename World => wA
                  go_loopw [62] (fun i w2 => ∃ j : Nat, j ≤ c.sk.length ∧ i = .int .i64 j ∧ Below wA.heap.size wA w2 ∧ Hid (∀ (i : Nat) (y : Of × Int), i < j → c.sk[i]? = some y → y.1 = ⟨t, z, k⟩ → y.2 ≠ 0))
                    (fun i _ => c.sk.length - (intOf i).toNat)
                  case atStart => exact ⟨0, Nat.zero_le _, rfl, Below.refl _ _, fun j y hj => absurd hj (Nat.not_lt_zero _)⟩
                  case round =>
                    obtain ⟨j, hj, rfl, hbj, HY⟩ := hrel
                    have hqr : Below w.heap.size w wr := HQ.out.trans (hbj.mono HQ.out.size)
                    have hb1r : Below w1.heap.size w1 wr := hb1.trans (hbj.mono hb1.size)
                    have hzr : w.heap.size < wr.heap.size := by have := hb1r.size; omega
                    have hpr : p < wr.heap.size := by have := hqr.size; omega
                    have k0 : wr.cell? ⟨w.heap.size, 0, none⟩ = some (.string t) := (hb1r.cell (p := ⟨w.heap.size, 0, none⟩) z1).trans b0
                    have k1 : wr.cell? ⟨w.heap.size, 1, none⟩ = some (.string z) := (hb1r.cell (p := ⟨w.heap.size, 1, none⟩) z1).trans b1
                    have k2 : wr.cell? ⟨w.heap.size, 2, none⟩ = some (.string k) := (hb1r.cell (p := ⟨w.heap.size, 2, none⟩) z1).trans b2
                    obtain ⟨m0, m1, m2, m3, m4⟩ := (H.out.below hqr).cells
                    by_cases hlt : j < c.sk.length
                    · obtain ⟨x, hx⟩ : ∃ x, c.sk[j]? = some x := ⟨_, List.getElem?_eq_getElem hlt⟩
                      obtain ⟨⟨t', z', k'⟩, m⟩ := x
                      obtain ⟨g, off, cap', hv, ho, hg, -, hc, -⟩ := (H.out.below hqr).sk.elt st_len hx
                      cases hv
                      have hc0 := hc 0 _ rfl
                      have hc1 := hc 1 _ rfl
                      have hc2 := hc 2 _ rfl
                      have hc3 := hc 3 _ rfl
                      simp only [Nat.add_zero] at hc0
                      clear hc ho
                      go_wp2_with fail
                      by_cases hs : (⟨t', z', k'⟩ : Of) = ⟨t, z, k⟩
                      · cases hs
                        by_cases hm0 : m = 0
                        · subst hm0
                          refine RegRel.wp_region_bel 20 20 (by kernel_rfl) (by kernel_rfl) [RegRel.is (.pointer (some ⟨p, 0, none⟩)), RegRel.is (.pointer (some ⟨p, 0, none⟩)), RegRel.is (.pointer (some ⟨p, 1, none⟩)), RegRel.is (.slice (some ⟨g, off, none⟩) c.sk.length cap2), RegRel.is (.int .i64 j), RegRel.is (.pointer (some ⟨g, off + j * 4, none⟩)), RegRel.is (.pointer (some ⟨g, off + j * 4, none⟩)), RegRel.is (.agg #[.string t, .string z, .string k]), RegRel.is (.agg #[.string t, .string z, .string k]), RegRel.is (.bool true), RegRel.is (.bool true), RegRel.is (.pointer (some ⟨p, 0, none⟩)), RegRel.is (.pointer (some ⟨p, 0, none⟩)), RegRel.is (.pointer (some ⟨p, 1, none⟩)), RegRel.is (.slice (some ⟨g, off, none⟩) c.sk.length cap2), RegRel.is (.int .i64 j), RegRel.is (.pointer (some ⟨g, off + j * 4, none⟩)), RegRel.is (.pointer (some ⟨g, off + j * 4 + 3, none⟩)), RegRel.is (.int .i64 0), RegRel.is (.bool true)]
                            (by simp [RegRel.AllStable, RegRel.stable_is, RegRel.tough_is]) rfl (by kernel_rfl) ?_ ?_
                          · simp only [List.take_succ_cons, List.take_zero, RegRel.OpsOk, RegRel.puts]
                            refine ⟨?_, ?_, ?_, ?_, ?_, ?_, ?_, ?_, ?_, ?_, ?_, ?_, ?_, ?_, ?_, ?_, ?_, ?_, ?_, ?_, trivial⟩
                            all_goals
                              intro u w' hC hD
                              try simp [RegRel.DepsOk, Region.binds, RegRel.ent, RegRel.is] at hD
                              have e1 := (hC.cell (p := ⟨p, 1, none⟩) hpr).trans m1
                              have e2 := (hC.cell (p := ⟨w.heap.size, 0, none⟩) hzr).trans k0
                              have e3 := (hC.cell (p := ⟨w.heap.size, 1, none⟩) hzr).trans k1
                              have e4 := (hC.cell (p := ⟨w.heap.size, 2, none⟩) hzr).trans k2
                              have e5 := (hC.cell (p := ⟨g, off + j * 4, none⟩) hg).trans hc0
                              have e6 := (hC.cell (p := ⟨g, off + j * 4 + 1, none⟩) hg).trans hc1
                              have e7 := (hC.cell (p := ⟨g, off + j * 4 + 2, none⟩) hg).trans hc2
                              have e8 := (hC.cell (p := ⟨g, off + j * 4 + 3, none⟩) hg).trans hc3
                              go_simp
                            all_goals (try simp [RegRel.ent, RegRel.is, RegRel.step, RegRel.upd, Below.refl])
                          · intro u w4 hC hv
                            simp only [List.take_succ_cons, List.take_zero, List.drop_succ_cons, List.drop_zero, RegRel.puts]
                            simp [RegRel.allV, RegRel.is] at hv
                            obtain ⟨v0, v1, v2, v3, v4, v5, v6, v7, v8, v9, v10, v11, v12, v13, v14, v15, v16, v17, v18, v19⟩ := hv
                            obtain ⟨e1, e2⟩ := launch_out (c := c) HG.out HF.out hm (take_no hk hx)
                            have E1 := Lib.hid e1
                            have E2 := Lib.hid e2
                            have q2 := hqr.trans (hC.mono hqr.size)
                            clear e1 e2 hx hC HY
                            go_wp2_with fail
                            go_ret2
                            exact ⟨by rw [E1.out]; rfl, _, by rw [E2.out]; exact HO.out.below q2, Step.of_below q2⟩
                        · refine RegRel.wp_region_bel 20 20 (by kernel_rfl) (by kernel_rfl) [RegRel.is (.pointer (some ⟨p, 0, none⟩)), RegRel.is (.pointer (some ⟨p, 0, none⟩)), RegRel.is (.pointer (some ⟨p, 1, none⟩)), RegRel.is (.slice (some ⟨g, off, none⟩) c.sk.length cap2), RegRel.is (.int .i64 j), RegRel.is (.pointer (some ⟨g, off + j * 4, none⟩)), RegRel.is (.pointer (some ⟨g, off + j * 4, none⟩)), RegRel.is (.agg #[.string t, .string z, .string k]), RegRel.is (.agg #[.string t, .string z, .string k]), RegRel.is (.bool true), RegRel.is (.bool true), RegRel.is (.pointer (some ⟨p, 0, none⟩)), RegRel.is (.pointer (some ⟨p, 0, none⟩)), RegRel.is (.pointer (some ⟨p, 1, none⟩)), RegRel.is (.slice (some ⟨g, off, none⟩) c.sk.length cap2), RegRel.is (.int .i64 j), RegRel.is (.pointer (some ⟨g, off + j * 4, none⟩)), RegRel.is (.pointer (some ⟨g, off + j * 4 + 3, none⟩)), RegRel.is (.int .i64 m), RegRel.is (.bool false)]
                            (by simp [RegRel.AllStable, RegRel.stable_is, RegRel.tough_is]) rfl (by kernel_rfl) ?_ ?_
                          · simp only [List.take_succ_cons, List.take_zero, RegRel.OpsOk, RegRel.puts]
                            refine ⟨?_, ?_, ?_, ?_, ?_, ?_, ?_, ?_, ?_, ?_, ?_, ?_, ?_, ?_, ?_, ?_, ?_, ?_, ?_, ?_, trivial⟩
                            all_goals
                              intro u w' hC hD
                              try simp [RegRel.DepsOk, Region.binds, RegRel.ent, RegRel.is] at hD
                              have e1 := (hC.cell (p := ⟨p, 1, none⟩) hpr).trans m1
                              have e2 := (hC.cell (p := ⟨w.heap.size, 0, none⟩) hzr).trans k0
                              have e3 := (hC.cell (p := ⟨w.heap.size, 1, none⟩) hzr).trans k1
                              have e4 := (hC.cell (p := ⟨w.heap.size, 2, none⟩) hzr).trans k2
                              have e5 := (hC.cell (p := ⟨g, off + j * 4, none⟩) hg).trans hc0
                              have e6 := (hC.cell (p := ⟨g, off + j * 4 + 1, none⟩) hg).trans hc1
                              have e7 := (hC.cell (p := ⟨g, off + j * 4 + 2, none⟩) hg).trans hc2
                              have e8 := (hC.cell (p := ⟨g, off + j * 4 + 3, none⟩) hg).trans hc3
                              go_simp
                            all_goals (try simp [RegRel.ent, RegRel.is, RegRel.step, RegRel.upd, Below.refl])
                            exact hm0
                          · intro u w4 hC hv
                            simp only [List.take_succ_cons, List.take_zero, List.drop_succ_cons, List.drop_zero, RegRel.puts]
                            simp [RegRel.allV, RegRel.is] at hv
                            obtain ⟨v0, v1, v2, v3, v4, v5, v6, v7, v8, v9, v10, v11, v12, v13, v14, v15, v16, v17, v18, v19⟩ := hv
                            have HY' : Hid (∀ (i : Nat) (y : Of × Int), i < j + 1 → c.sk[i]? = some y → y.1 = ⟨t, z, k⟩ → y.2 ≠ 0) := fun i y hi hy => by
                              rcases Nat.lt_succ_iff_lt_or_eq.1 hi with h | h
                              · exact HY.out i y h hy
                              · subst h
                                rw [hx] at hy; cases hy; exact fun _ => hm0
                            have q2 := hbj.trans (hC.mono hbj.size)
                            clear hx hC HY m0 m1 m2 m3 m4 k0 k1 k2
                            go_wp2_with fail
                            go_roundw
                            case rel => exact ⟨j + 1, by omega, by go_num, q2, HY'⟩
                            case measure => simp [intOf]; omega
                      · refine RegRel.wp_region_bel 20 20 (by kernel_rfl) (by kernel_rfl) [RegRel.is (.pointer (some ⟨p, 0, none⟩)), RegRel.is (.pointer (some ⟨p, 0, none⟩)), RegRel.is (.pointer (some ⟨p, 1, none⟩)), RegRel.is (.slice (some ⟨g, off, none⟩) c.sk.length cap2), RegRel.is (.int .i64 j), RegRel.is (.pointer (some ⟨g, off + j * 4, none⟩)), RegRel.is (.pointer (some ⟨g, off + j * 4, none⟩)), RegRel.is (.agg #[.string t', .string z', .string k']), RegRel.is (.agg #[.string t, .string z, .string k]), RegRel.is (.bool false), RegRel.is (.bool false), RegRel.is undef, RegRel.is undef, RegRel.is undef, RegRel.is undef, RegRel.is undef, RegRel.is undef, RegRel.is undef, RegRel.is undef, RegRel.is undef]
                          (by simp [RegRel.AllStable, RegRel.stable_is, RegRel.tough_is]) rfl (by kernel_rfl) ?_ ?_
                        · simp only [List.take_succ_cons, List.take_zero, RegRel.OpsOk, RegRel.puts]
                          refine ⟨?_, ?_, ?_, ?_, ?_, ?_, ?_, ?_, ?_, ?_, ?_, ?_, ?_, ?_, ?_, ?_, ?_, ?_, ?_, ?_, trivial⟩
                          all_goals
                            intro u w' hC hD
                            try simp [RegRel.DepsOk, Region.binds, RegRel.ent, RegRel.is] at hD
                            have e1 := (hC.cell (p := ⟨p, 1, none⟩) hpr).trans m1
                            have e2 := (hC.cell (p := ⟨w.heap.size, 0, none⟩) hzr).trans k0
                            have e3 := (hC.cell (p := ⟨w.heap.size, 1, none⟩) hzr).trans k1
                            have e4 := (hC.cell (p := ⟨w.heap.size, 2, none⟩) hzr).trans k2
                            have e5 := (hC.cell (p := ⟨g, off + j * 4, none⟩) hg).trans hc0
                            have e6 := (hC.cell (p := ⟨g, off + j * 4 + 1, none⟩) hg).trans hc1
                            have e7 := (hC.cell (p := ⟨g, off + j * 4 + 2, none⟩) hg).trans hc2
                            have e8 := (hC.cell (p := ⟨g, off + j * 4 + 3, none⟩) hg).trans hc3
                            go_simp
                          all_goals (try simp [RegRel.ent, RegRel.is, RegRel.step, RegRel.upd, Below.refl])
                          exact ne_run hs _ _ _ _
                        · intro u w4 hC hv
                          simp only [List.take_succ_cons, List.take_zero, List.drop_succ_cons, List.drop_zero, RegRel.puts]
                          simp [RegRel.allV, RegRel.is] at hv
                          obtain ⟨v0, v1, v2, v3, v4, v5, v6, v7, v8, v9, v10, v11, v12, v13, v14, v15, v16, v17, v18, v19⟩ := hv
                          have HY' : Hid (∀ (i : Nat) (y : Of × Int), i < j + 1 → c.sk[i]? = some y → y.1 = ⟨t, z, k⟩ → y.2 ≠ 0) := fun i y hi hy => by
                            rcases Nat.lt_succ_iff_lt_or_eq.1 hi with h | h
                            · exact HY.out i y h hy
                            · subst h
                              rw [hx] at hy; cases hy; exact fun e => absurd e hs
                          have q2 := hbj.trans (hC.mono hbj.size)
                          clear hx hC HY m0 m1 m2 m3 m4 k0 k1 k2
                          go_wp2_with fail
                          go_roundw
                          case rel => exact ⟨j + 1, by omega, by go_num, q2, HY'⟩
                          case measure => simp [intOf]; omega
                    · have hjl : j = c.sk.length := by omega
                      subst hjl
                      have htk := take_yes (l := c.sk) (o := ⟨t, z, k⟩) (fun i y hy => HY.out i y (List.getElem?_eq_some_iff.1 hy).1 hy)
                      obtain ⟨e1, e2⟩ := launch_new (c := c) HG.out HF.out hm htk
                      rw [take_map hk] at e2
                      have E1 := Lib.hid e1
                      have E2 := Lib.hid e2
                      have HR0 := Lib.hid (H.out.below hqr)
                      have SB := Lib.hid (Step.of_below (F := rfoot p oi os on) hqr)
                      have hBF : w.heap.size ∉ rfoot p oi os on := fun hmem => Nat.lt_irrefl _ (H.out.lt hmem)
                      clear e1 e2 htk HY hbj hb1r hb1 b0 b1 b2 HQ d0 d1 d2 d3 d4 c0 c1 c2 c3 c4
                      have hzB := hzr
                      have hpB := hpr
                      clear hzr hpr m0 m2 m3 m4
                      go_wp2_with fail
                      rename World => wB
                      go_loopw [92] (fun i w3 => ∃ j : Nat, j ≤ c.sk.length ∧ i = .int .i64 j ∧ Hid (Rl w3 p { c with sk := tkTo ⟨t, z, k⟩ j c.sk } oi os on (.slice a c.is.length cap) (.slice a2 c.sk.length cap2) vn) ∧ Hid (Step (rfoot p oi os on) (rfoot p oi os on) wB w3))
                        (fun i _ => c.sk.length - (intOf i).toNat)
                      case atStart => exact ⟨0, Nat.zero_le _, rfl, HR0.out, step_refl _ _⟩
                      case round =>
                        obtain ⟨j, hj, rfl, HR, HS⟩ := hrel
                        have hsz := HS.out.size
                        have hzr : w.heap.size < wr.heap.size := by omega
                        have hpr : p < wr.heap.size := by omega
                        have r0 : wr.cell? ⟨w.heap.size, 0, none⟩ = some (.string t) := (HS.out.cell (p := ⟨w.heap.size, 0, none⟩) hzB hBF).trans k0
                        have r1 : wr.cell? ⟨w.heap.size, 1, none⟩ = some (.string z) := (HS.out.cell (p := ⟨w.heap.size, 1, none⟩) hzB hBF).trans k1
                        have r2 : wr.cell? ⟨w.heap.size, 2, none⟩ = some (.string k) := (HS.out.cell (p := ⟨w.heap.size, 2, none⟩) hzB hBF).trans k2
                        obtain ⟨s0, s1, s2, s3, s4⟩ := HR.out.cells
                        by_cases hlt : j < c.sk.length
                        · obtain ⟨x, hx⟩ : ∃ x, c.sk[j]? = some x := ⟨_, List.getElem?_eq_getElem hlt⟩
                          obtain ⟨⟨t', z', k'⟩, m⟩ := x
                          have hxt := tkTo_at (o := ⟨t, z, k⟩) hx
                          have hrow : Rowed wr 68 4 os (.slice a2 c.sk.length cap2) (tkTo ⟨t, z, k⟩ j c.sk).length ((tkTo ⟨t, z, k⟩ j c.sk).flatMap stCells) := HR.out.sk
                          obtain ⟨g, off, cap', hv, ho, hg, -, hc, hfz⟩ := hrow.elt st_len hxt
                          rw [tkTo_len] at hv
                          cases hv
                          have hc0 := hc 0 _ rfl
                          have hc1 := hc 1 _ rfl
                          have hc2 := hc 2 _ rfl
                          have hc3 := hc 3 _ rfl
                          have hf3 := hfz (off + j * 4 + 3)
                          simp only [Nat.add_zero] at hc0
                          clear hc hrow hfz
                          go_wp2_with fail
                          by_cases hs : (⟨t', z', k'⟩ : Of) = ⟨t, z, k⟩
                          · cases hs
                            by_cases hm0 : 0 < m
                            · refine RegRel.wp_region_bel 20 20 (by kernel_rfl) (by kernel_rfl) [RegRel.is (.pointer (some ⟨p, 0, none⟩)), RegRel.is (.pointer (some ⟨p, 0, none⟩)), RegRel.is (.pointer (some ⟨p, 1, none⟩)), RegRel.is (.slice (some ⟨g, off, none⟩) c.sk.length cap2), RegRel.is (.int .i64 j), RegRel.is (.pointer (some ⟨g, off + j * 4, none⟩)), RegRel.is (.pointer (some ⟨g, off + j * 4, none⟩)), RegRel.is (.agg #[.string t, .string z, .string k]), RegRel.is (.agg #[.string t, .string z, .string k]), RegRel.is (.bool true), RegRel.is (.bool true), RegRel.is (.pointer (some ⟨p, 0, none⟩)), RegRel.is (.pointer (some ⟨p, 0, none⟩)), RegRel.is (.pointer (some ⟨p, 1, none⟩)), RegRel.is (.slice (some ⟨g, off, none⟩) c.sk.length cap2), RegRel.is (.int .i64 j), RegRel.is (.pointer (some ⟨g, off + j * 4, none⟩)), RegRel.is (.pointer (some ⟨g, off + j * 4 + 3, none⟩)), RegRel.is (.int .i64 m), RegRel.is (.bool true)]
                                (by simp [RegRel.AllStable, RegRel.stable_is, RegRel.tough_is]) rfl (by kernel_rfl) ?_ ?_
                              · simp only [List.take_succ_cons, List.take_zero, RegRel.OpsOk, RegRel.puts]
                                refine ⟨?_, ?_, ?_, ?_, ?_, ?_, ?_, ?_, ?_, ?_, ?_, ?_, ?_, ?_, ?_, ?_, ?_, ?_, ?_, ?_, trivial⟩
                                all_goals
                                  intro u w' hC hD
                                  try simp [RegRel.DepsOk, Region.binds, RegRel.ent, RegRel.is] at hD
                                  have e1 := (hC.cell (p := ⟨p, 1, none⟩) hpr).trans s1
                                  have e2 := (hC.cell (p := ⟨w.heap.size, 0, none⟩) hzr).trans r0
                                  have e3 := (hC.cell (p := ⟨w.heap.size, 1, none⟩) hzr).trans r1
                                  have e4 := (hC.cell (p := ⟨w.heap.size, 2, none⟩) hzr).trans r2
                                  have e5 := (hC.cell (p := ⟨g, off + j * 4, none⟩) hg).trans hc0
                                  have e6 := (hC.cell (p := ⟨g, off + j * 4 + 1, none⟩) hg).trans hc1
                                  have e7 := (hC.cell (p := ⟨g, off + j * 4 + 2, none⟩) hg).trans hc2
                                  have e8 := (hC.cell (p := ⟨g, off + j * 4 + 3, none⟩) hg).trans hc3
                                  go_simp
                                all_goals (try simp [RegRel.ent, RegRel.is, RegRel.step, RegRel.upd, Below.refl])
                              · intro u w4 hC hv
                                simp only [List.take_succ_cons, List.take_zero, List.drop_succ_cons, List.drop_zero, RegRel.puts]
                                simp [RegRel.allV, RegRel.is] at hv
                                obtain ⟨v0, v1, v2, v3, v4, v5, v6, v7, v8, v9, v10, v11, v12, v13, v14, v15, v16, v17, v18, v19⟩ := hv
                                have hbd : w4.cell? ⟨g, off + j * 4 + 3, none⟩ = some (.int .i64 m) := (hC.cell (p := ⟨g, off + j * 4 + 3, none⟩) hg).trans hc3
                                have hfd : w4.frozen? ⟨g, off + j * 4 + 3, none⟩ = false := (World.frozen?_of_block (a := ⟨g, off + j * 4 + 3, none⟩) (hC.block g hg)).trans hf3
                                have R4 := HR.out.below hC
                                obtain ⟨y0, y1, y2, y3, y4⟩ := R4.cells
                                have ht : tkTo ⟨t, z, k⟩ (j + 1) c.sk = (tkTo ⟨t, z, k⟩ j c.sk).set j (⟨t, z, k⟩, wrap64 (m - 1)) := by
                                  rw [tkTo_next hx]
                                  unfold tk
                                  rw [if_pos (same_self _), if_pos hm0]
                                have HR' := Lib.hid (R4.set_stock (n := wrap64 (m - 1)) hxt (by rw [tkTo_len]) ho)
                                rw [← ht] at HR'
                                have HS' := Lib.hid ((HS.out.trans (Step.of_below hC)).trans (step_set (F := rfoot p oi os on) w4 (j := off + j * 4 + 3) (.int .i64 (wrap64 (m - 1))) (mem_rfoot.2 (.inr (.inr (.inl ho))))))
                                clear hx hxt hC ht HR HS s0 s1 s2 s3 s4 r0 r1 r2 ho R4
                                go_wp2_with fail
                                go_roundw
                                case rel => exact ⟨j + 1, by omega, by go_num, HR', HS'⟩
                                case measure => simp [intOf]; omega
                            · refine RegRel.wp_region_bel 20 20 (by kernel_rfl) (by kernel_rfl) [RegRel.is (.pointer (some ⟨p, 0, none⟩)), RegRel.is (.pointer (some ⟨p, 0, none⟩)), RegRel.is (.pointer (some ⟨p, 1, none⟩)), RegRel.is (.slice (some ⟨g, off, none⟩) c.sk.length cap2), RegRel.is (.int .i64 j), RegRel.is (.pointer (some ⟨g, off + j * 4, none⟩)), RegRel.is (.pointer (some ⟨g, off + j * 4, none⟩)), RegRel.is (.agg #[.string t, .string z, .string k]), RegRel.is (.agg #[.string t, .string z, .string k]), RegRel.is (.bool true), RegRel.is (.bool true), RegRel.is (.pointer (some ⟨p, 0, none⟩)), RegRel.is (.pointer (some ⟨p, 0, none⟩)), RegRel.is (.pointer (some ⟨p, 1, none⟩)), RegRel.is (.slice (some ⟨g, off, none⟩) c.sk.length cap2), RegRel.is (.int .i64 j), RegRel.is (.pointer (some ⟨g, off + j * 4, none⟩)), RegRel.is (.pointer (some ⟨g, off + j * 4 + 3, none⟩)), RegRel.is (.int .i64 m), RegRel.is (.bool false)]
                                (by simp [RegRel.AllStable, RegRel.stable_is, RegRel.tough_is]) rfl (by kernel_rfl) ?_ ?_
                              · simp only [List.take_succ_cons, List.take_zero, RegRel.OpsOk, RegRel.puts]
                                refine ⟨?_, ?_, ?_, ?_, ?_, ?_, ?_, ?_, ?_, ?_, ?_, ?_, ?_, ?_, ?_, ?_, ?_, ?_, ?_, ?_, trivial⟩
                                all_goals
                                  intro u w' hC hD
                                  try simp [RegRel.DepsOk, Region.binds, RegRel.ent, RegRel.is] at hD
                                  have e1 := (hC.cell (p := ⟨p, 1, none⟩) hpr).trans s1
                                  have e2 := (hC.cell (p := ⟨w.heap.size, 0, none⟩) hzr).trans r0
                                  have e3 := (hC.cell (p := ⟨w.heap.size, 1, none⟩) hzr).trans r1
                                  have e4 := (hC.cell (p := ⟨w.heap.size, 2, none⟩) hzr).trans r2
                                  have e5 := (hC.cell (p := ⟨g, off + j * 4, none⟩) hg).trans hc0
                                  have e6 := (hC.cell (p := ⟨g, off + j * 4 + 1, none⟩) hg).trans hc1
                                  have e7 := (hC.cell (p := ⟨g, off + j * 4 + 2, none⟩) hg).trans hc2
                                  have e8 := (hC.cell (p := ⟨g, off + j * 4 + 3, none⟩) hg).trans hc3
                                  go_simp
                                all_goals (try simp [RegRel.ent, RegRel.is, RegRel.step, RegRel.upd, Below.refl])
                              · intro u w4 hC hv
                                simp only [List.take_succ_cons, List.take_zero, List.drop_succ_cons, List.drop_zero, RegRel.puts]
                                simp [RegRel.allV, RegRel.is] at hv
                                obtain ⟨v0, v1, v2, v3, v4, v5, v6, v7, v8, v9, v10, v11, v12, v13, v14, v15, v16, v17, v18, v19⟩ := hv
                                have ht : tkTo ⟨t, z, k⟩ (j + 1) c.sk = tkTo ⟨t, z, k⟩ j c.sk := tkTo_same hx (by unfold tk; rw [if_pos (same_self _), if_neg hm0])
                                have HR' : Hid (Rl w4 p { c with sk := tkTo ⟨t, z, k⟩ (j + 1) c.sk } oi os on (.slice a c.is.length cap) (.slice (some ⟨g, off, none⟩) c.sk.length cap2) vn) := by rw [ht]; exact HR.out.below hC
                                have HS' := Lib.hid (HS.out.trans (Step.of_below hC))
                                clear hx hxt hC ht HR HS s0 s1 s2 s3 s4 r0 r1 r2 ho
                                go_wp2_with fail
                                go_roundw
                                case rel => exact ⟨j + 1, by omega, by go_num, HR', HS'⟩
                                case measure => simp [intOf]; omega
                          · refine RegRel.wp_region_bel 20 20 (by kernel_rfl) (by kernel_rfl) [RegRel.is (.pointer (some ⟨p, 0, none⟩)), RegRel.is (.pointer (some ⟨p, 0, none⟩)), RegRel.is (.pointer (some ⟨p, 1, none⟩)), RegRel.is (.slice (some ⟨g, off, none⟩) c.sk.length cap2), RegRel.is (.int .i64 j), RegRel.is (.pointer (some ⟨g, off + j * 4, none⟩)), RegRel.is (.pointer (some ⟨g, off + j * 4, none⟩)), RegRel.is (.agg #[.string t', .string z', .string k']), RegRel.is (.agg #[.string t, .string z, .string k]), RegRel.is (.bool false), RegRel.is (.bool false), RegRel.is undef, RegRel.is undef, RegRel.is undef, RegRel.is undef, RegRel.is undef, RegRel.is undef, RegRel.is undef, RegRel.is undef, RegRel.is undef]
                              (by simp [RegRel.AllStable, RegRel.stable_is, RegRel.tough_is]) rfl (by kernel_rfl) ?_ ?_
                            · simp only [List.take_succ_cons, List.take_zero, RegRel.OpsOk, RegRel.puts]
                              refine ⟨?_, ?_, ?_, ?_, ?_, ?_, ?_, ?_, ?_, ?_, ?_, ?_, ?_, ?_, ?_, ?_, ?_, ?_, ?_, ?_, trivial⟩
                              all_goals
                                intro u w' hC hD
                                try simp [RegRel.DepsOk, Region.binds, RegRel.ent, RegRel.is] at hD
                                have e1 := (hC.cell (p := ⟨p, 1, none⟩) hpr).trans s1
                                have e2 := (hC.cell (p := ⟨w.heap.size, 0, none⟩) hzr).trans r0
                                have e3 := (hC.cell (p := ⟨w.heap.size, 1, none⟩) hzr).trans r1
                                have e4 := (hC.cell (p := ⟨w.heap.size, 2, none⟩) hzr).trans r2
                                have e5 := (hC.cell (p := ⟨g, off + j * 4, none⟩) hg).trans hc0
                                have e6 := (hC.cell (p := ⟨g, off + j * 4 + 1, none⟩) hg).trans hc1
                                have e7 := (hC.cell (p := ⟨g, off + j * 4 + 2, none⟩) hg).trans hc2
                                have e8 := (hC.cell (p := ⟨g, off + j * 4 + 3, none⟩) hg).trans hc3
                                go_simp
                              all_goals (try simp [RegRel.ent, RegRel.is, RegRel.step, RegRel.upd, Below.refl])
                              exact ne_run hs _ _ _ _
                            · intro u w4 hC hv
                              simp only [List.take_succ_cons, List.take_zero, List.drop_succ_cons, List.drop_zero, RegRel.puts]
                              simp [RegRel.allV, RegRel.is] at hv
                              obtain ⟨v0, v1, v2, v3, v4, v5, v6, v7, v8, v9, v10, v11, v12, v13, v14, v15, v16, v17, v18, v19⟩ := hv
                              have ht : tkTo ⟨t, z, k⟩ (j + 1) c.sk = tkTo ⟨t, z, k⟩ j c.sk := tkTo_same hx (by unfold tk; rw [if_neg (by rw [same_ne hs]; decide)])
                              have HR' : Hid (Rl w4 p { c with sk := tkTo ⟨t, z, k⟩ (j + 1) c.sk } oi os on (.slice a c.is.length cap) (.slice (some ⟨g, off, none⟩) c.sk.length cap2) vn) := by rw [ht]; exact HR.out.below hC
                              have HS' := Lib.hid (HS.out.trans (Step.of_below hC))
                              clear hx hxt hC ht HR HS s0 s1 s2 s3 s4 r0 r1 r2 ho
                              go_wp2_with fail
                              go_roundw
                              case rel => exact ⟨j + 1, by omega, by go_num, HR', HS'⟩
                              case measure => simp [intOf]; omega
                        · have hjl : j = c.sk.length := by omega
                          subst hjl
                          have hR : Rl wr p { c with sk := c.sk.map (tk ⟨t, z, k⟩) } oi os on (.slice a c.is.length cap) (.slice a2 c.sk.length cap2) vn := by
                            have h := HR.out
                            rw [tkTo_all] at h
                            exact h
                          have H4 := Lib.hid hR
                          have q4 : Step (rfoot p oi os on) (rfoot p oi os on) w wr := SB.out.trans HS.out
                          have Q4 := Lib.hid q4
                          have hp4 := hpr
                          have z4 := hzr
                          clear hR q4 HR HS hsz hzr hpr k0 k1 k2 m1 hzB hpB SB HR0
                          go_wp2_with fail
                          rename World => w4
                          refine RegRel.wp_region_bel 19 19 (by kernel_rfl) (by kernel_rfl) [RegRel.is (.pointer (some ⟨p, 0, none⟩)), RegRel.is (.pointer (some ⟨p, 0, none⟩)), RegRel.is (.pointer (some ⟨p, 0, none⟩)), RegRel.is (.slice a c.is.length cap), RegRel.is (.int .i64 c.is.length), RegRel.is (.int .i64 ((c.is.length : Int) + 1)), RegRel.is (.string ⟨(Lib.decDigits (c.is.length + 1)).toArray⟩), RegRel.is (.string (idStr (c.is.length + 1))), RegRel.is (.string tok), RegRel.is (.agg #[.string t, .string z, .string k]), RegRel.is (.int .i64 now),
                            RegRel.is (.pointer (some ⟨p, 0, none⟩)), RegRel.is (.pointer (some ⟨p, 0, none⟩)), RegRel.is (.pointer (some ⟨p, 2, none⟩)), RegRel.is (.int .i64 c.dl), RegRel.is (.int .i64 (wrap64 (now + c.dl))), RegRel.is (.int .i64 (min 1099511627776 (wrap64 (now + c.dl)))), RegRel.is (.agg #[.string (idStr (c.is.length + 1)), .string tok, .string t, .string z, .string k, .int .i64 0, .int .i64 (min 1099511627776 (wrap64 (now + c.dl)))]), RegRel.fresh w4.heap.size 7]
                            (by simp [RegRel.AllStable, RegRel.stable_is, RegRel.tough_is, RegRel.stable_fresh, RegRel.tough_fresh]) rfl (by kernel_rfl) ?_ ?_
                          · simp only [List.take_succ_cons, List.take_zero, RegRel.OpsOk, RegRel.puts]
                            refine ⟨?_, ?_, ?_, ?_, ?_, ?_, ?_, ?_, ?_, ?_, ?_, ?_, ?_, ?_, ?_, ?_, ?_, ?_, ?_, trivial⟩
                            all_goals
                              intro u w' hC hD
                              try simp [RegRel.DepsOk, Region.binds, RegRel.ent, RegRel.is] at hD
                              have e1 := (hC.cell (p := ⟨p, 0, none⟩) hp4).trans s0
                              have e2 := (hC.cell (p := ⟨p, 2, none⟩) hp4).trans s2
                              have e4 := (hC.cell (p := ⟨w.heap.size, 0, none⟩) z4).trans r0
                              have e5 := (hC.cell (p := ⟨w.heap.size, 1, none⟩) z4).trans r1
                              have e6 := (hC.cell (p := ⟨w.heap.size, 2, none⟩) z4).trans r2
                              go_simp
                            all_goals (try simp [RegRel.ent, RegRel.is, RegRel.step, RegRel.upd, Below.refl])
                            · exact (IntWalk.i64_left _).trans (IntWalk.wrap64_in _ (by omega))
                            · have hit := digits_any (c.is.length + 1) (by omega) w'
                              rw [Int.natCast_add] at hit
                              exact hit.mono fun e w'' ⟨he, hw⟩ => ⟨_, he, rfl, hw⟩
                            · rw [if_neg (by have := dec_len (show c.is.length + 1 < 100 by omega); omega)]
                              simp [RegRel.relUpon, RegRel.step, Below.refl, id_cat]
                            · exact IntWalk.i64_left _
                            · exact ⟨RegRel.fresh_new _ #[_, _, _, _, _, _, _] _ hC.size, RegRel.below_new _ _⟩
                          · intro u w5 hC hv
                            simp only [List.take_succ_cons, List.take_zero, List.drop_succ_cons, List.drop_zero, RegRel.puts]
                            simp [RegRel.allV, RegRel.is] at hv
                            obtain ⟨g0, g1, g2, g3, g4, g5, g6, g7, g8, g9, g10, g11, g12, g13, g14, g15, g16, g17, hv⟩ := hv
                            obtain ⟨n0, g18, n1, n2, cc, tt, n3, n4⟩ := hv
                            obtain ⟨x0, x1, x2, x3, x4, x5, x6, n5, y0, y1, y2, y3, y4, y5, y6, yf⟩ := seven_cells n3 n4
                            have N5 := Lib.hid n5
                            have hC5 := Lib.hid hC
                            clear n3 n4 n5 hC
                            go_wp2_with fail
                            generalize hW5 : World.setCell (World.setCell (World.setCell (World.setCell (World.setCell (World.setCell (World.setCell w5 _ _) _ _) _ _) _ _) _ _) _ _) _ _ = W5
                            have hx : newIn c tok ⟨t, z, k⟩ now = ⟨idStr (c.is.length + 1), tok, ⟨t, z, k⟩, 0, min 1099511627776 (wrap64 (now + c.dl))⟩ := rfl
                            have p5 := seven_put N5.out (.string (idStr (c.is.length + 1))) (.string tok) (.string t) (.string z) (.string k) (.int .i64 0) (.int .i64 (min 1099511627776 (wrap64 (now + c.dl))))
                            rw [hW5] at p5
                            have zW : W5.heap.size = w5.heap.size := by rw [← hW5]; simp
                            have b45 : Below w4.heap.size w4 W5 := by
                              rw [← hW5]
                              exact (((((((hC5.out.setCell (by exact n1) _).setCell (by exact n1) _).setCell (by exact n1) _).setCell (by exact n1) _).setCell (by exact n1) _).setCell (by exact n1) _).setCell (by exact n1) _)
                            clear hW5 N5 hC5 y0 y1 y2 y3 y4 y5 y6 yf g0 g1 g2 g3 g4 g5 g6 g7 g8 g9 g10 g11 g12 g13 g14 g15 g16 g17 s0 s1 s2 s3 s4 r0 r1 r2
                            have H5 := H4.out.below b45
                            have q5 : Step (rfoot p oi os on) (rfoot p oi os on) w W5 := Q4.out.trans (Step.of_below b45)
                            have hoi : ∀ r, oi = some r → r < W5.heap.size ∧ r ≠ n0 := fun r hr => by have := H4.out.is.lt hr; have := b45.size; omega
                            have hoip : some p ≠ oi := fun e => (H5.ne_i e.symm).1 rfl
                            have hon0 : some n0 ≠ oi := fun e => (hoi n0 e.symm).2 rfl
                            have hp5 : p < W5.heap.size := by have := b45.size; omega
                            have hn5 : n0 < W5.heap.size := by omega
                            obtain ⟨m0, m1, m2, m3, m4⟩ := H5.cells
                            have f0 := H5.free 0
                            have f4 := H5.free 4
                            have r0 : ∀ j, W5.cell? ⟨n0, j, none⟩ = ((In.cells (newIn c tok ⟨t, z, k⟩ now)).toArray)[j]? := fun j => by simp [World.cell?, p5, In.cells, hx]
                            have s0 : W5.cell? ⟨n0, 0, none⟩ = some (.string (idStr (c.is.length + 1))) := r0 0
                            have s1 : W5.cell? ⟨n0, 1, none⟩ = some (.string tok) := r0 1
                            have s2 : W5.cell? ⟨n0, 2, none⟩ = some (.string t) := r0 2
                            have s3 : W5.cell? ⟨n0, 3, none⟩ = some (.string z) := r0 3
                            have s4 : W5.cell? ⟨n0, 4, none⟩ = some (.string k) := r0 4
                            have s5 : W5.cell? ⟨n0, 5, none⟩ = some (.int .i64 0) := r0 5
                            have s6 : W5.cell? ⟨n0, 6, none⟩ = some (.int .i64 (min 1099511627776 (wrap64 (now + c.dl)))) := r0 6
                            have HRW := Lib.hid H5.is
                            have HC5 := Lib.hid H5
                            have hoi' := fun r hr => (hoi r hr).1
                            obtain ⟨i0, hi, hz0, hz1, hz2⟩ := info_parts info41
                            have HI := Lib.hid hi
                            have HZ0 := Lib.hid hz0
                            have HZ1 := Lib.hid hz1
                            have HZ2 := Lib.hid hz2
                            clear hi hz0 hz1 hz2 r0 p5 H5 H4 Q4 b45 hoi
                            refine RegRel.wp_region_grow 8 7 oi (fun w' => Rowed w' 41 7 oi (.slice a c.is.length cap) c.is.length ((c.is.map (mark c.en)).flatMap In.cells)) (by kernel_rfl) (by kernel_rfl)
                              [RegRel.is (.pointer (some ⟨p, 0, none⟩)), RegRel.is (.pointer (some ⟨p, 0, none⟩)), RegRel.is (.pointer (some ⟨p, 0, none⟩)), RegRel.is (.pointer (some ⟨p, 0, none⟩)), RegRel.is (.slice a c.is.length cap), RegRel.is (.agg #[.string (idStr (c.is.length + 1)), .string tok, .string t, .string z, .string k, .int .i64 0, .int .i64 (min 1099511627776 (wrap64 (now + c.dl)))]), ⟨none, fun v _ w' => ∃ g, v = .slice (some ⟨g, 0, none⟩) 1 1 ∧ W5.heap.size ≤ g ∧ g < w'.heap.size ∧ ∀ j u, ([.string (idStr (c.is.length + 1)), .string tok, .string t, .string z, .string k, .int .i64 0, .int .i64 (min 1099511627776 (wrap64 (now + c.dl)))] : List Value)[j]? = some u → w'.cell? ⟨g, j, none⟩ = some u⟩,
                               ⟨none, fun v _ w' => ∃ o' a' cap', v = .slice a' (c.is.length + 1) cap' ∧ Rowed w' 41 7 o' v (c.is.length + 1) (((c.is.map (mark c.en)).flatMap In.cells) ++ [.string (idStr (c.is.length + 1)), .string tok, .string t, .string z, .string k, .int .i64 0, .int .i64 (min 1099511627776 (wrap64 (now + c.dl)))]) ∧ (o' = oi ∨ ∃ g, o' = some g ∧ W5.heap.size ≤ g)⟩]
                              rfl ?hst rfl HRW.out (fun _ h => h) (fun _ _ h hb => h.below hb) ?_ ?_
                            case hst =>
                              intro j e hj
                              rcases j with _ | _ | _ | _ | _ | _ | _ | _ | j
                              all_goals first | (have e1 := Option.some.inj hj; subst e1) | (simp at hj; done)
                              · exact ⟨RegRel.stable_is _, .inr (RegRel.toughG_is _ _ _)⟩
                              · exact ⟨RegRel.stable_is _, .inr (RegRel.toughG_is _ _ _)⟩
                              · exact ⟨RegRel.stable_is _, .inr (RegRel.toughG_is _ _ _)⟩
                              · exact ⟨RegRel.stable_is _, .inr (RegRel.toughG_is _ _ _)⟩
                              · exact ⟨RegRel.stable_is _, .inr (RegRel.toughG_is _ _ _)⟩
                              · exact ⟨RegRel.stable_is _, .inr (RegRel.toughG_is _ _ _)⟩
                              · refine ⟨?_, .inr ?_⟩
                                · rintro v v' w1 w2 hb ⟨g, rfl, h1, h2, h3⟩
                                  exact ⟨g, rfl, h1, Nat.lt_of_lt_of_le h2 hb.size, fun j u hj => (hb.cell (p := ⟨g, j, none⟩) h2).trans (h3 j u hj)⟩
                                · rintro v v' w1 w2 _ hg ⟨g, rfl, h1, h2, h3⟩
                                  exact ⟨g, rfl, h1, Nat.lt_of_lt_of_le h2 hg.size, fun j u hj => hg.cell (h3 j u hj) (fun e => by have := hoi' g e.symm; omega)⟩
                              · refine ⟨?_, .inl rfl⟩
                                rintro v v' w1 w2 hb ⟨o', a', cap', rfl, h1, h2⟩
                                exact ⟨o', a', cap', rfl, h1.below hb, h2⟩
                            · simp only [List.take_succ_cons, List.take_zero, RegRel.OpsOk, RegRel.puts]
                              refine ⟨?_, ?_, ?_, ?_, ?_, ?_, ?_, ?_, trivial⟩
                              rotate_left 7
                              · intro u w' hC hD
                                simp [RegRel.DepsOk, Region.binds, RegRel.ent, RegRel.is] at hD
                                obtain ⟨d4, g, d6, i1, i2, i3⟩ := hD
                                obtain ⟨v', wA, o', hr, hrow, hgr, hfr, hold⟩ := run_append_rowed (P := Tryd.prog) w' 35 35 41 i0 _ 7 96 Tryd.underlying35 HI.out HZ0.out HZ1.out HZ2.out rfl oi (.slice a c.is.length cap) c.is.length _ hC.2 ⟨g, 0, none⟩ 1 1 [.string (idStr (c.is.length + 1)), .string tok, .string t, .string z, .string k, .int .i64 0, .int .i64 (min 1099511627776 (wrap64 (now + c.dl)))] rfl (fun j u hj => by rw [Addr.add_lit, Nat.zero_add]; exact i3 j u hj) (by simp [Value.oneCell']) (by decide) (by unfold maxLen; omega) (by omega)
                                obtain ⟨a', cap', rfl, -⟩ := hrow.shape
                                have hW : W5.heap.size ≤ w'.heap.size := hC.1.size
                                have hfr' : o' = oi ∨ ∃ g, o' = some g ∧ W5.heap.size ≤ g := by
                                  rcases hfr with e | ⟨g', e, h1, _⟩
                                  · exact .inl e
                                  · exact .inr ⟨g', e, by omega⟩
                                have hk2 : Rowed wA 41 7 oi (.slice a c.is.length cap) c.is.length ((c.is.map (mark c.en)).flatMap In.cells) := hold
                                unfold RegRel.opOk
                                rw [if_pos (by simp [Region.wanted])]
                                unfold execOp
                                simp [resolve, invoke, builtin, d4, d6, hr, Act.eval, Act.put, RegRel.relUpon, Result.andThen, RegRel.ent, RegRel.growSt, RegRel.upd]
                                exact ⟨⟨o', hrow, hfr'⟩, hgr, hk2⟩
                              all_goals
                                intro u w' hC hD
                                try simp [RegRel.DepsOk, Region.binds, RegRel.ent, RegRel.is] at hD
                                have e1 : w'.cell? ⟨p, 0, none⟩ = _ := (World.cell?_of_block (a := ⟨p, 0, none⟩) (hC.1.block p hp5 hoip)).trans m0
                                have e2 : w'.cell? ⟨n0, 0, none⟩ = _ := (World.cell?_of_block (a := ⟨n0, 0, none⟩) (hC.1.block n0 hn5 hon0)).trans s0
                                have e3 : w'.cell? ⟨n0, 1, none⟩ = _ := (World.cell?_of_block (a := ⟨n0, 1, none⟩) (hC.1.block n0 hn5 hon0)).trans s1
                                have e4 : w'.cell? ⟨n0, 2, none⟩ = _ := (World.cell?_of_block (a := ⟨n0, 2, none⟩) (hC.1.block n0 hn5 hon0)).trans s2
                                have e5 : w'.cell? ⟨n0, 3, none⟩ = _ := (World.cell?_of_block (a := ⟨n0, 3, none⟩) (hC.1.block n0 hn5 hon0)).trans s3
                                have e6 : w'.cell? ⟨n0, 4, none⟩ = _ := (World.cell?_of_block (a := ⟨n0, 4, none⟩) (hC.1.block n0 hn5 hon0)).trans s4
                                have e7 : w'.cell? ⟨n0, 5, none⟩ = _ := (World.cell?_of_block (a := ⟨n0, 5, none⟩) (hC.1.block n0 hn5 hon0)).trans s5
                                have e8 : w'.cell? ⟨n0, 6, none⟩ = _ := (World.cell?_of_block (a := ⟨n0, 6, none⟩) (hC.1.block n0 hn5 hon0)).trans s6
                                go_simp
                              all_goals (try simp [RegRel.ent, RegRel.is, RegRel.growSt, RegRel.upd, Below.refl])
                              · have h : W5.heap.size ≤ w'.heap.size := hC.1.size
                                exact ⟨by omega, below_new _ _⟩
                            · intro u w6 hC hv
                              simp only [List.take_succ_cons, List.take_zero, List.drop_succ_cons, List.drop_zero, RegRel.puts]
                              simp [RegRel.allV, RegRel.is] at hv
                              obtain ⟨g0, g1, g2, g3, g4, g5, _, ⟨a', cap', g7⟩, o', hrow, hfr⟩ := hv
                              have hg : W5.grownBy w6 oi := ⟨hC.1.os, hC.1.tape, hC.1.output, hC.1.size, hC.1.block⟩
                              rw [g7] at hrow
                              have hmk : mark c.en (newIn c tok ⟨t, z, k⟩ now) = newIn c tok ⟨t, z, k⟩ now := by
                                rw [hx]
                                unfold mark
                                simp only [hen]
                                rfl
                              have hrow' : Rowed w6 41 7 o' (.slice a' (c.is.length + 1) cap') (c.is ++ [newIn c tok ⟨t, z, k⟩ now]).length (((c.is ++ [newIn c tok ⟨t, z, k⟩ now]).map (mark c.en)).flatMap In.cells) := by
                                rw [List.map_append, List.flatMap_append, List.length_append, List.map_cons, hmk]
                                exact hrow
                              have hf : Fresh W5 w6 oi o' := by
                                rcases hfr with e | ⟨g', e, h1⟩
                                · exact .inl e
                                · exact .inr ⟨g', e, by omega, hrow.lt e⟩
                              obtain ⟨Q1, Q2⟩ := HC5.out.set_is hg hrow' hf
                              have QQ1 := Lib.hid (Q1.set_n (wrap64 (c.n + 1)))
                              have QQ2 := Lib.hid Q2
                              have l0 : w6.cell? ⟨p, 0, none⟩ = _ := (World.cell?_of_block (a := ⟨p, 0, none⟩) (hg.block p hp5 hoip)).trans m0
                              have l4 : w6.cell? ⟨p, 4, none⟩ = _ := (World.cell?_of_block (a := ⟨p, 4, none⟩) (hg.block p hp5 hoip)).trans m4
                              have lf0 : w6.frozen? ⟨p, 0, none⟩ = false := (World.frozen?_of_block (a := ⟨p, 0, none⟩) (hg.block p hp5 hoip)).trans f0
                              have lf4 : w6.frozen? ⟨p, 4, none⟩ = false := (World.frozen?_of_block (a := ⟨p, 4, none⟩) (hg.block p hp5 hoip)).trans f4
                              have ls : w6.cell? ⟨n0, 0, none⟩ = _ := (World.cell?_of_block (a := ⟨n0, 0, none⟩) (hg.block n0 hn5 hon0)).trans s0
                              have hnp : ¬ p = n0 := by omega
                              clear hrow hrow' hf hfr hg hC Q1 Q2 m0 m1 m2 m3 m4 s0 s1 s2 s3 s4 s5 s6 f0 f4
                              go_wp2_with fail
                              go_ret2
                              exact ⟨by rw [E1.out]; rfl, _, by rw [E2.out]; exact ⟨o', os, on, _, _, vn, QQ1.out, rfl⟩, (q5.trans QQ2.out).trans (step_set _ _ (mem_rfoot.2 (.inl rfl)))⟩
  · have hbad : badL tok ⟨t, z, k⟩ now = true := by simp [badL, emp, he]
    obtain ⟨e1, e2⟩ := launch_bad (c := c) hbad
    rw [e1, e2]
    clear e1 e2 hbad
    have hl : tok.toList = [] := by simpa using he
    go_enter Tryd.func18, Tryd.ntmps18
    go_wp2_with fail
    go_ret2
    exact ⟨rfl, _, HO.out.below (hB.out _), Step.of_below (hB.out _)⟩
end Go.Proofs.YtpoegpojlcbfgaaDoor
