/- The reference's End. -/
import Derived.Test.YtpoegpojlcbfgaaDoorRc
import Derived.Test.YtpoegpojlcbfgaaDoorP
namespace Go.Proofs.YtpoegpojlcbfgaaDoor
open Go.RowKit

/-- One cell of one element. -/
theorem flat_set {α : Type} {k : Nat} {f : α → List Value} (hf : ∀ x, (f x).length = k) {x' : α} {u : Value} {j : Nat} : ∀ (l : List α) (i : Nat) (x : α), l[i]? = some x → j < k → f x' = (f x).set j u → (l.set i x').flatMap f = (l.flatMap f).set (i * k + j) u
  | [], i, x, h, _, _ => by simp at h
  | y :: r, 0, x, h, hj, hx => by
    simp only [List.getElem?_cons_zero, Option.some.injEq] at h
    subst h
    rw [List.set_cons_zero, List.flatMap_cons, List.flatMap_cons, hx, Nat.zero_mul, Nat.zero_add, List.set_append_left _ _ (by rw [hf]; exact hj)]
  | y :: r, i + 1, x, h, hj, hx => by
    rw [List.set_cons_succ, List.flatMap_cons, List.flatMap_cons, flat_set hf r i x (by simpa using h) hj hx, List.set_append_right _ _ (by rw [hf, Nat.succ_mul]; omega), hf, show (i + 1) * k + j - k = i * k + j by rw [Nat.succ_mul]; omega]
theorem Rowed.poke {α : Type} {k : Nat} {f : α → List Value} (hf : ∀ x, (f x).length = k) {w : World} {e : TypeId} {o : Option Nat} {v : Value} {l : List α} (h : Rowed w e k o v l.length (l.flatMap f)) {i j : Nat} {x x' : α} {u : Value} (hi : l[i]? = some x) (hj : j < k) (hx : f x' = (f x).set j u)
    {g off cap : Nat} (hv : v = .slice (some ⟨g, off, none⟩) l.length cap) : Rowed (w.setCell ⟨g, off + i * k + j, none⟩ u) e k o v (l.set i x').length ((l.set i x').flatMap f) := by
  have hl : (l.set i x').length = l.length := List.length_set
  have hil := (List.getElem?_eq_some_iff.1 hi).1
  refine ⟨rows_len hf _, ?_⟩
  rcases h.2 with ⟨⟨a, e1⟩, h0, _⟩ | ⟨g', off', cap', cur, ho, e1, hh, hn, hm, hs, ht⟩
  · omega
  · rw [hv] at e1
    cases e1
    refine .inr ⟨g, off, cap, cur.setIfInBounds (off + i * k + j) u, ho, by rw [hl]; exact hv, heap_set hh _, by rw [hl]; exact hn, hm, by rw [Array.size_setIfInBounds]; exact hs, ?_⟩
    rw [Array.toList_setIfInBounds, List.drop_set, if_neg (by omega), List.take_set, hl, ht, flat_set hf l i x hi hj hx, show off + i * k + j - off = i * k + j by omega]

theorem end_none {c : Cd} {s : ByteArray} (h : ∀ (j : Nat) (y : In), c.is[j]? = some y → sq y.id s = false) : endE c s = 5 ∧ c.fin s = c := by
  have h1 : c.is.any (fun x => sq x.id s) = false := by
    rw [List.any_eq_false]
    intro y hy
    obtain ⟨j, hj⟩ := List.getElem?_of_mem hy
    rw [h j y hj]; decide
  unfold endE Cd.fin
  rw [h1]
  exact ⟨rfl, rfl⟩
theorem end_any_of {c : Cd} {s : ByteArray} {k : Nat} {x : In} (hx : c.is[k]? = some x) (hs : sq x.id s = true) : c.is.any (fun x => sq x.id s) = true := List.any_eq_true.2 ⟨x, List.mem_of_getElem? hx, hs⟩
theorem end_was {c : Cd} {s : ByteArray} {k : Nat} {x : In} (hx : c.is[k]? = some x) (hs : sq x.id s = true) (he : has c.en s = true) : endE c s = 4 ∧ c.fin s = c := by
  unfold endE Cd.fin
  rw [end_any_of hx hs, he]
  exact ⟨rfl, rfl⟩
theorem end_now {c : Cd} {s : ByteArray} {k : Nat} {x : In} (hx : c.is[k]? = some x) (hs : sq x.id s = true) (he : has c.en s = false) : endE c s = 0 ∧ c.fin s = { c with en := c.en ++ [s], n := wrap64 (c.n + 1) } := by
  unfold endE Cd.fin
  rw [end_any_of hx hs, he]
  exact ⟨rfl, rfl⟩
theorem mark_next {c : Cd} {s : ByteArray} {k : Nat} {x : In} (hd : ∀ (i j : Nat) (x y : In), c.is[i]? = some x → c.is[j]? = some y → x.id = y.id → i = j) (hx : c.is[k]? = some x) (hs : x.id = s) :
    c.is.map (mark (c.en ++ [s])) = (c.is.map (mark c.en)).set k { x with st := 3 } := by
  apply List.ext_getElem?
  intro j
  rw [List.getElem?_map, List.getElem?_set, List.getElem?_map, List.length_map]
  have hk := (List.getElem?_eq_some_iff.1 hx).1
  by_cases e : k = j
  · subst e
    rw [if_pos rfl, if_pos hk, hx]
    simp [mark, has, hs, sq_self]
  · rw [if_neg e]
    cases hy : c.is[j]? with
    | none => rfl
    | some y =>
      have hne : y.id ≠ s := fun h => e (hd k j x y hx hy (hs.trans h.symm))
      simp [mark, has, sq_ne.2 hne]
/-- The k-th has ended. -/
theorem Rl.set_end {w : World} {p : Nat} {c : Cd} {oi os on : Option Nat} {vi vs vn : Value} {s : ByteArray} {k : Nat} {x : In} (h : Rl w p c oi os on vi vs vn) (hd : ∀ (i j : Nat) (x y : In), c.is[i]? = some x → c.is[j]? = some y → x.id = y.id → i = j) (hx : c.is[k]? = some x) (hs : x.id = s)
    {g off cap : Nat} (hv : vi = .slice (some ⟨g, off, none⟩) c.is.length cap) (hg : oi = some g) :
    Rl (w.setCell ⟨g, off + k * 7 + 5, none⟩ (.int .i64 3)) p { c with en := c.en ++ [s] } oi os on vi vs vn := by
  have hne := h.ne_i hg
  refine ⟨(Below.heap_setCell _ _ _ _ (Ne.symm hne.1)).trans h.head, ?_, h.sk.kept fun g' hg' => Below.heap_setCell _ _ _ _ (fun e => hne.2.1 (by rw [hg', e])), h.ns.kept fun g' hg' => Below.heap_setCell _ _ _ _ (fun e => hne.2.2 (by rw [hg', e]))⟩
  have h1 : Rowed w 41 7 oi vi (c.is.map (mark c.en)).length ((c.is.map (mark c.en)).flatMap In.cells) := by rw [List.length_map]; exact h.is
  have h2 := Rowed.poke (x' := { x with st := 3 }) (u := .int .i64 3) in_len h1 (i := k) (j := 5) (x := mark c.en x) (by rw [List.getElem?_map, hx]; rfl) (by omega) rfl (g := g) (off := off) (cap := cap) (by rw [List.length_map]; exact hv)
  rw [← mark_next hd hx hs] at h2
  show Rowed _ 41 7 oi vi c.is.length ((c.is.map (mark (c.en ++ [s]))).flatMap In.cells)
  rw [List.length_map] at h2
  exact h2

set_option maxRecDepth 100000 in
set_option maxHeartbeats 4000000 in
theorem rend_any (c : Cd) (p : Nat) (F : List Nat) (w : World) (s : ByteArray) (hd : ∀ (i j : Nat) (x y : In), c.is[i]? = some x → c.is[j]? = some y → x.id = y.id → i = j) (h64 : c.is.length ≤ 64) (h : Rown w p c F) :
    Calls Tryd.prog 19 #[.pointer (some ⟨p, 0, none⟩), .string s] w fun e w' => e = .returned (.int .i64 (endE c s)) ∧ Rown w' p (c.fin s) F ∧ Step F F w w' := by
  have HO := Lib.hid h
  obtain ⟨oi, os, on, vi, vs, vn, h, rfl⟩ := h
  obtain ⟨c0, c1, c2, c3, c4⟩ := h.cells
  have H := Lib.hid h
  obtain ⟨a, cap, rfl, -⟩ := h.is.shape
  clear h
  go_enter Tryd.func19, Tryd.ntmps19
  go_wp2_with fail
  go_loopw [11] (fun i wr => ∃ k : Nat, k ≤ c.is.length ∧ i = .int .i64 k ∧ wr = w ∧ Hid (∀ (j : Nat) (y : In), j < k → c.is[j]? = some y → sq y.id s = false))
    (fun i _ => c.is.length - (intOf i).toNat)
  case atStart => exact ⟨0, Nat.zero_le _, rfl, rfl, fun j y hj => absurd hj (Nat.not_lt_zero _)⟩
  case round =>
    obtain ⟨k, hk, rfl, rfl, HN⟩ := hrel
    by_cases hlt : k < c.is.length
    · obtain ⟨x, hx⟩ : ∃ x, c.is[k]? = some x := ⟨_, List.getElem?_eq_getElem hlt⟩
      have hx' : (c.is.map (mark c.en))[k]? = some (mark c.en x) := by rw [List.getElem?_map, hx]; rfl
      have hrow : Rowed wr 41 7 oi (.slice a c.is.length cap) (c.is.map (mark c.en)).length ((c.is.map (mark c.en)).flatMap In.cells) := by rw [List.length_map]; exact H.out.is
      obtain ⟨g, off, cap', hv, ho, hg, -, hc, hfz⟩ := hrow.elt in_len hx'
      rw [List.length_map] at hv
      cases hv
      have hc0 : wr.cell? ⟨g, off + k * 7, none⟩ = some (.string x.id) := by
        have := hc 0 (.string x.id) (by unfold mark; rfl)
        simpa using this
      rcases hn : sq x.id s with _ | _
      · have hne : (x.id.toList == s.toList) = false := hn
        have HN' : Hid (∀ (j : Nat) (y : In), j < k + 1 → c.is[j]? = some y → sq y.id s = false) := fun j y hj hy => by
          rcases Nat.lt_succ_iff_lt_or_eq.1 hj with h | h
          · exact HN.out j y h hy
          · subst h
            rw [hx] at hy; cases hy; exact hn
        clear hc hrow hx' hx hn HN
        go_wp2_with fail
        go_roundw
        case rel => exact ⟨k + 1, by omega, by go_num, by trivial, HN'⟩
        case measure => simp [intOf]; omega
      · have hid := sq_iff.1 hn
        rcases he : has c.en s with _ | _
        · obtain ⟨e1, e2⟩ := end_now hx hn he
          have E1 := Lib.hid e1
          have E2 := Lib.hid e2
          have hc5 : wr.cell? ⟨g, off + k * 7 + 5, none⟩ = some (.int .i64 0) := hc 5 (.int .i64 0) (by unfold mark; rw [hid, he]; rfl)
          have hf5 := hfz (off + k * 7 + 5)
          have q := H.out.set_end hd hx hid rfl ho
          obtain ⟨d0, d1, d2, d3, d4⟩ := q.cells
          have f4 := q.free 4
          have Q1 := Lib.hid (q.set_n (wrap64 (c.n + 1)))
          have S1 := Lib.hid (step_set (F := rfoot p oi os on) wr (j := off + k * 7 + 5) (.int .i64 3) (mem_rfoot.2 (.inr (.inl ho))))
          clear ho hc hrow hx' e1 e2 hx hn HN q
          rw [hid] at hc0
          go_wp2_with fail
          go_ret
          exact ⟨by rw [E1.out]; rfl, by rw [E2.out]; exact ⟨oi, os, on, _, vs, vn, Q1.out, rfl⟩, S1.out.trans (step_set _ _ (mem_rfoot.2 (.inl rfl)))⟩
        · obtain ⟨e1, e2⟩ := end_was hx hn he
          have E1 := Lib.hid e1
          have E2 := Lib.hid e2
          have hc5 : wr.cell? ⟨g, off + k * 7 + 5, none⟩ = some (.int .i64 3) := hc 5 (.int .i64 3) (by unfold mark; rw [hid, he]; rfl)
          clear ho hc hrow hx' e1 e2 hx hn HN
          rw [hid] at hc0
          go_wp2_with fail
          go_ret
          exact ⟨by rw [E1.out]; rfl, by rw [E2.out]; exact HO.out, step_refl _ _⟩
    · have hkl : k = c.is.length := by omega
      subst hkl
      obtain ⟨e1, e2⟩ := end_none (c := c) (s := s) (fun j y hy => HN.out j y (List.getElem?_eq_some_iff.1 hy).1 hy)
      have E1 := Lib.hid e1
      have E2 := Lib.hid e2
      clear e1 e2 HN
      go_wp2_with fail
      go_ret
      exact ⟨by rw [E1.out]; rfl, by rw [E2.out]; exact HO.out, step_refl _ _⟩
end Go.Proofs.YtpoegpojlcbfgaaDoor
