/- What is kept by whatever is done to a cloud; the blocks of two clouds and of a call. -/
import Derived.Test.YtpoegpojlcbfgaaDoorRk
namespace Go.Proofs.YtpoegpojlcbfgaaDoor
open Go.RowKit

/-- Numbers in their order, tokens and offers all other ones, not too many of anything; what has ended is there. -/
structure Good (c : Cd) (k : Nat) : Prop where
  fine : Fine c.is
  keys : Keys c.sk
  sk : c.sk.length ≤ k
  ns : c.ns.length ≤ 32
  en : ∀ s, has c.en s = true → ∃ (j : Nat) (x : In), c.is[j]? = some x ∧ x.id = s
theorem Good.new : Good Cd.new 0 := ⟨Fine.nil, fun i j x y h => by simp [Cd.new] at h, by simp [Cd.new], by simp [Cd.new], fun s h => by simp [Cd.new, has] at h⟩
theorem Good.mono {c : Cd} {k k' : Nat} (g : Good c k) (h : k ≤ k') : Good c k' := ⟨g.fine, g.keys, Nat.le_trans g.sk h, g.ns, g.en⟩
/-- The next number has not ended. -/
theorem Good.free {c : Cd} {k : Nat} (g : Good c k) : has c.en (idStr (c.is.length + 1)) = false := by
  rw [← Bool.not_eq_true]
  intro h
  obtain ⟨j, x, hj, hx⟩ := g.en _ h
  have h1 := (List.getElem?_eq_some_iff.1 hj).1
  have hl := g.fine.len
  rw [g.fine.ids j x hj] at hx
  have := id_inj (by omega) (by omega) hx
  omega
theorem tk_fst (o : Of) (x : Of × Int) : (tk o x).1 = x.1 := by
  unfold tk
  split
  · split <;> rfl
  · rfl
theorem Keys.map {l : List (Of × Int)} (h : Keys l) {f : Of × Int → Of × Int} (hf : ∀ x, (f x).1 = x.1) : Keys (l.map f) := by
  intro i j x y hi hj e
  rw [List.getElem?_map] at hi hj
  cases hx : l[i]? with
  | none => rw [hx] at hi; cases hi
  | some x' =>
    cases hy : l[j]? with
    | none => rw [hy] at hj; cases hj
    | some y' =>
      rw [hx] at hi; rw [hy] at hj
      cases hi; cases hj
      rw [hf, hf] at e
      exact h i j x' y' hx hy e
theorem Good.launch {c : Cd} {k : Nat} (g : Good c k) (tok : ByteArray) (o : Of) (now : Int) : Good (c.launch tok o now) k := by
  obtain ⟨id, e, he⟩ : ∃ id e, launchE c tok o now = (id, e) := ⟨_, _, rfl⟩
  rcases launch_good g.fine tok o now he with ⟨_, h⟩ | ⟨_, h, _⟩ | ⟨_, ⟨y, his, _, _⟩, _, hF⟩
  · rw [h]; exact g
  · rw [h]; exact g
  · have hns : (c.launch tok o now).ns = c.ns := by
      unfold Cd.launch
      split
      · rfl
      · split
        · rfl
        · split
          · rfl
          · split <;> rfl
    have hen : (c.launch tok o now).en = c.en := by
      unfold Cd.launch
      split
      · rfl
      · split
        · rfl
        · split
          · rfl
          · split <;> rfl
    have hsk : (c.launch tok o now).sk = c.sk ∨ (c.launch tok o now).sk = c.sk.map (tk o) := by
      unfold Cd.launch
      split
      · exact .inl rfl
      · split
        · exact .inl rfl
        · split
          · exact .inl rfl
          · split
            · exact .inr (take_map g.keys)
            · exact .inl rfl
    refine ⟨hF, ?_, ?_, by rw [hns]; exact g.ns, fun s hs => ?_⟩
    · rcases hsk with h | h
      · rw [h]; exact g.keys
      · rw [h]; exact g.keys.map (tk_fst o)
    · rcases hsk with h | h
      · rw [h]; exact g.sk
      · rw [h, List.length_map]; exact g.sk
    · rw [hen] at hs
      obtain ⟨j, x, hj, hx⟩ := g.en s hs
      exact ⟨j, x, by rw [his, List.getElem?_append_left (List.getElem?_eq_some_iff.1 hj).1]; exact hj, hx⟩
theorem Good.fin {c : Cd} {k : Nat} (g : Good c k) (s : ByteArray) : Good (c.fin s) k := by
  unfold Cd.fin
  split
  · rename_i ha
    split
    · exact g
    · refine ⟨g.fine, g.keys, g.sk, g.ns, fun t ht => ?_⟩
      obtain ⟨x, hx, hxs⟩ := List.any_eq_true.1 ha
      obtain ⟨j, hj⟩ := List.getElem?_of_mem hx
      simp only [has, List.any_append, List.any_cons, List.any_nil, Bool.or_false, Bool.or_eq_true] at ht
      rcases ht with ht | ht
      · exact g.en t ht
      · exact ⟨j, x, hj, (sq_iff.1 hxs).trans (sq_iff.1 ht).symm⟩
  · exact g
theorem Good.take {c : Cd} {k : Nat} (g : Good c k) : Good c.take k := by
  unfold Cd.take
  split
  · exact g
  · rename_i h
    exact ⟨g.fine, g.keys, g.sk, by have := g.ns; rw [h] at this; simp only [List.length_cons] at this ⊢; omega, g.en⟩
theorem Good.delay {c : Cd} {k : Nat} (g : Good c k) (n : Int) : Good (c.delay n) k := by
  unfold Cd.delay
  split
  · exact g
  · exact ⟨g.fine, g.keys, g.sk, g.ns, g.en⟩
theorem Good.notify {c : Cd} {k : Nat} (g : Good c k) (s : ByteArray) : Good (c.notify s) k := by
  unfold Cd.notify
  split
  · exact g
  · split
    · exact g
    · exact ⟨g.fine, g.keys, g.sk, by simp only [List.length_append, List.length_cons, List.length_nil]; omega, g.en⟩
theorem Good.set {c : Cd} {k : Nat} (g : Good c k) (o : Of) (n : Int) : Good (c.set o n) (k + 1) := by
  unfold Cd.set
  split
  · exact g.mono (by omega)
  · have hs := g.sk
    cases ho : stockOf o c.sk with
    | some m =>
      obtain ⟨i, hi⟩ := stock_some ho
      have e := set_at (n := n) hi (keys_before g.keys hi)
      refine ⟨g.fine, ?_, ?_, g.ns, g.en⟩
      · show Keys (setStock o n c.sk)
        rw [e]
        intro a b x y ha hb hxy
        rw [List.getElem?_set] at ha hb
        have key : ∀ (a : Nat) (x : Of × Int), (if i = a then if i < c.sk.length then some (o, n) else none else c.sk[a]?) = some x → ∃ x', c.sk[a]? = some x' ∧ x'.1 = x.1 := by
          intro a x h
          split at h
          · rename_i e; subst e
            split at h
            · cases h; exact ⟨_, hi, rfl⟩
            · cases h
          · exact ⟨x, h, rfl⟩
        obtain ⟨x', hx, ex⟩ := key a x ha
        obtain ⟨y', hy, ey⟩ := key b y hb
        exact g.keys a b x' y' hx hy (by rw [ex, ey, hxy])
      · show (setStock o n c.sk).length ≤ k + 1
        rw [e, List.length_set]; omega
    | none =>
      have hno : ∀ (j : Nat) (y : Of × Int), c.sk[j]? = some y → y.1 ≠ o := by
        rintro j ⟨y1, y2⟩ hy rfl
        rw [stock_at hy (keys_before g.keys hy)] at ho
        cases ho
      have e := set_new (n := n) hno
      refine ⟨g.fine, ?_, ?_, g.ns, g.en⟩
      · show Keys (setStock o n c.sk)
        rw [e]
        intro a b x y ha hb hxy
        have key : ∀ (a : Nat) (x : Of × Int), (c.sk ++ [(o, n)])[a]? = some x → c.sk[a]? = some x ∨ (a = c.sk.length ∧ x = (o, n)) := by
          intro i x hi
          rw [List.getElem?_append] at hi
          split at hi
          · exact .inl hi
          · right
            have : i - c.sk.length = 0 := by
              have := (List.getElem?_eq_some_iff.1 hi).1
              simp at this; omega
            rw [this] at hi
            exact ⟨by omega, by simpa using hi.symm⟩
        rcases key a x ha with h1 | ⟨h1, h1'⟩ <;> rcases key b y hb with h2 | ⟨h2, h2'⟩
        · exact g.keys a b x y h1 h2 hxy
        · exact absurd (hxy.trans (by rw [h2'])) (hno a x h1)
        · exact absurd (hxy.symm.trans (by rw [h1'])) (hno b y h2)
        · omega
      · show (setStock o n c.sk).length ≤ k + 1
        rw [e, List.length_append]; simp; omega

/-- The box that a call lies in, and both clouds: behind what is done to the first. -/
theorem duo1 {w wr w3 : World} {p q : Nat} {c : Cd} {F F' G : List Nat} {cs : Array Value} {t : TypeId} (hb : Below w.heap.size w wr) (hO : Own wr p c F) (hR : Rown wr q c G) (hF : ∀ k ∈ F, w.heap.size ≤ k) (hFG : ∀ k ∈ F, k ∉ G) (hS : Step F F' (wr.alloc (.cells cs t)) w3) :
    Rown w3 q c G ∧ (∀ k ∈ F', k ∉ G) ∧ (∀ j, w3.cell? ⟨wr.heap.size, j, none⟩ = cs[j]?) ∧ wr.heap.size < w3.heap.size ∧ Below w.heap.size w w3 ∧ ∀ k ∈ F', w.heap.size ≤ k := by
  have hz : (wr.alloc (.cells cs t)).heap.size = wr.heap.size + 1 := by simp
  have hSr : Step F F' wr w3 := (Step.of_below (F := F) (below_new wr _)).trans hS
  obtain ⟨k1, -, k3⟩ := keep_box (B := wr.heap.size) hS (by omega) (hO.new_not (Nat.le_refl _)) (fun j => by rw [World.cell?_alloc_new])
  refine ⟨hR.other hSr (fun k hk hf => hFG k hf hk), fun k hk hg => ?_, k1, k3, hb.trans (hSr.below hb.size hF), hSr.far hb.size hF⟩
  rcases hSr.new k hk with h | h
  · exact hFG k h hg
  · have := hR.lt k hg; omega
/-- Behind what is done to the second. -/
theorem duo2 {w w3 w4 : World} {p q B : Nat} {c d : Cd} {F G G' : List Nat} {cs : Array Value} (hb : Below w.heap.size w w3) (hO : Own w3 p d F) (_ : Rown w3 q c G) (hG : ∀ k ∈ G, w.heap.size ≤ k) (hFG : ∀ k ∈ F, k ∉ G) (hB : B < w3.heap.size) (hBG : B ∉ G) (hc : ∀ j, w3.cell? ⟨B, j, none⟩ = cs[j]?) (hS : Step G G' w3 w4) :
    Own w4 p d F ∧ (∀ k ∈ F, k ∉ G') ∧ (∀ j, w4.cell? ⟨B, j, none⟩ = cs[j]?) ∧ B < w4.heap.size ∧ Below w.heap.size w w4 ∧ ∀ k ∈ G', w.heap.size ≤ k := by
  obtain ⟨k1, -, k3⟩ := keep_box hS hB hBG hc
  refine ⟨hO.other hS hFG, fun k hk => hS.not_in (hO.lt k hk) (hFG k hk), k1, k3, hb.trans (hS.below hb.size hG), hS.far hb.size hG⟩
/-- A clone goes on in the first one's place. -/
theorem duo3 {w w6 w7 w8 w9 : World} {p p2 q : Nat} {c : Cd} {F F' F2 G : List Nat} (hb : Below w.heap.size w w6) (hO : Own w6 p c F) (hR : Rown w6 q c G) (hF : ∀ k ∈ F, w.heap.size ≤ k) (hFG : ∀ k ∈ F, k ∉ G)
    (hO2 : Own w7 p2 c F2) (hb7 : Below w6.heap.size w6 w7) (hf2 : ∀ k ∈ F2, w6.heap.size ≤ k) (h8 : Step F F' w7 w8) (h9 : Step F' F' w8 w9) :
    Own w9 p2 c F2 ∧ Rown w9 q c G ∧ Below w.heap.size w w9 ∧ (∀ k ∈ F2, w.heap.size ≤ k) ∧ ∀ k ∈ F2, k ∉ G := by
  have hS : Step F F' w7 w9 := h8.trans h9
  have z7 := hb7.size
  have z6 := hb.size
  have hb7' : Below w.heap.size w w7 := hb.trans (hb7.mono hb.size)
  refine ⟨hO2.other hS (fun k hk hf => ?_), (hR.below hb7).other hS (fun k hk hf => hFG k hf hk), hb7'.trans (hS.below hb7'.size hF), fun k hk => ?_, fun k hk hg => ?_⟩
  · have := hf2 k hk; have := hO.lt k hf; omega
  · have := hf2 k hk; omega
  · have := hf2 k hk; have := hR.lt k hg; omega
end Go.Proofs.YtpoegpojlcbfgaaDoor
