/- slices.IndexFunc and slices.ContainsFunc over instances. -/
import Derived.Test.YtpoegpojlcbfgaaDoorE
namespace Go.Proofs.YtpoegpojlcbfgaaDoor
open Go.RowKit

section
variable {α : Type} {f : α → List Value} {k : Nat}
theorem rows_len (hf : ∀ x, (f x).length = k) : ∀ l : List α, (l.flatMap f).length = l.length * k
  | [] => by simp
  | x :: r => by rw [List.flatMap_cons, List.length_append, hf, rows_len hf r, List.length_cons, Nat.succ_mul, Nat.add_comm]
theorem rows_at (hf : ∀ x, (f x).length = k) : ∀ (l : List α) (i j : Nat) (x : α), l[i]? = some x → j < k → (l.flatMap f)[i * k + j]? = (f x)[j]?
  | [], i, j, x, h, _ => by simp at h
  | y :: r, 0, j, x, h, hj => by
    have e : y = x := by simpa using h
    subst e
    rw [List.flatMap_cons, Nat.zero_mul, Nat.zero_add, List.getElem?_append_left (by rw [hf]; exact hj)]
  | y :: r, i + 1, j, x, h, hj => by
    rw [List.flatMap_cons, List.getElem?_append_right (by rw [hf, Nat.succ_mul]; omega), hf, show (i + 1) * k + j - k = i * k + j by rw [Nat.succ_mul]; omega]
    exact rows_at hf r i j x (by simpa using h) hj
/-- An element of a row. -/
theorem Rowed.elt {w : World} {e : TypeId} {o : Option Nat} {v : Value} (hf : ∀ x, (f x).length = k) {l : List α} (h : Rowed w e k o v l.length (l.flatMap f)) {i : Nat} {x : α} (hi : l[i]? = some x) :
    ∃ g off cap, v = .slice (some ⟨g, off, none⟩) l.length cap ∧ o = some g ∧ g < w.heap.size ∧ l.length ≤ cap ∧ (∀ j u, (f x)[j]? = some u → w.cell? ⟨g, off + i * k + j, none⟩ = some u) ∧ ∀ j, w.frozen? ⟨g, j, none⟩ = false := by
  obtain ⟨a, cap, rfl, hle, h0, hs⟩ := h.shape
  have hil : i < l.length := (List.getElem?_eq_some_iff.1 hi).1
  obtain ⟨ad, rfl⟩ : ∃ ad, a = some ad := by
    cases a with
    | none => have := (h0 rfl).1; omega
    | some ad => exact ⟨ad, rfl⟩
  obtain ⟨g, off, ho, rfl, hg, hc, hfz⟩ := hs ad rfl (by omega)
  refine ⟨g, off, cap, rfl, ho, hg, hle, fun j u hj => ?_, hfz⟩
  have hjk : j < k := by rw [← hf x]; exact (List.getElem?_eq_some_iff.1 hj).1
  have hlt : i * k + j < l.length * k := by
    have : (i + 1) * k ≤ l.length * k := Nat.mul_le_mul_right _ hil
    rw [Nat.succ_mul] at this; omega
  rw [show off + i * k + j = off + (i * k + j) by omega, hc _ hlt, rows_at hf l i j x hi hjk]
  exact hj
end
theorem in_len (x : In) : x.cells.length = 7 := rfl
theorem in_one (l : List In) : ∀ u ∈ l.flatMap In.cells, u.oneCell' = true := by
  intro u hu
  obtain ⟨c, _, hc⟩ := List.mem_flatMap.1 hu
  simp only [In.cells, List.mem_cons, List.not_mem_nil, or_false] at hc
  rcases hc with rfl | rfl | rfl | rfl | rfl | rfl | rfl <;> rfl
theorem strs_one (l : List ByteArray) : ∀ u ∈ strs l, u.oneCell' = true := by
  intro u hu
  simp only [strs, List.mem_map] at hu
  obtain ⟨_, _, rfl⟩ := hu
  rfl
theorem strs_flat (l : List ByteArray) : strs l = l.flatMap fun s => [Value.string s] := by
  unfold strs
  induction l with
  | nil => rfl
  | cons x r ih => rw [List.map_cons, List.flatMap_cons, ih]; rfl
theorem Rowed.str {w : World} {o : Option Nat} {v : Value} {l : List ByteArray} (h : Rowed w 9 1 o v l.length (strs l)) {i : Nat} {x : ByteArray} (hi : l[i]? = some x) :
    ∃ g off cap, v = .slice (some ⟨g, off, none⟩) l.length cap ∧ o = some g ∧ g < w.heap.size ∧ l.length ≤ cap ∧ w.cell? ⟨g, off + i, none⟩ = some (.string x) ∧ ∀ j, w.frozen? ⟨g, j, none⟩ = false := by
  rw [strs_flat] at h
  obtain ⟨g, off, cap, h1, h2, h3, h4, h5, h6⟩ := Rowed.elt (f := fun s => [Value.string s]) (fun _ => rfl) h hi
  refine ⟨g, off, cap, h1, h2, h3, h4, ?_, h6⟩
  have := h5 0 _ rfl
  simpa using this
theorem Rowed.below {w w' : World} {e : TypeId} {size n : Nat} {o : Option Nat} {v : Value} {xs : List Value} (h : Rowed w e size o v n xs) (hb : Below w.heap.size w w') : Rowed w' e size o v n xs := h.kept fun g hg => hb.block g (h.lt hg)

/-- Where the first of that kind stands, counted from k. -/
def idxGo {α : Type} (p : α → Bool) (k : Nat) : List α → Int
  | [] => -1
  | c :: r => if p c then (k : Int) else idxGo p (k + 1) r
theorem idxGo_at {α : Type} {p : α → Bool} {cs : List α} {k : Nat} {x : α} (h : cs[k]? = some x) : idxGo p k (cs.drop k) = if p x then (k : Int) else idxGo p (k + 1) (cs.drop (k + 1)) := by
  obtain ⟨hlt, rfl⟩ := List.getElem?_eq_some_iff.1 h
  rw [List.drop_eq_getElem_cons hlt]; rfl
theorem idxGo_any {α : Type} (p : α → Bool) : ∀ (cs : List α) (k : Nat), (cs.any p = true ↔ 0 ≤ idxGo p k cs)
  | [], k => by simp [idxGo]
  | c :: r, k => by
    have ih := idxGo_any p r (k + 1)
    simp only [idxGo, List.any_cons, Bool.or_eq_true]
    split
    · rename_i h; simp [h]
    · rename_i h; simp only [h, false_or, Bool.false_eq_true]; exact ih
/-- It is found where the first of that kind is. -/
theorem idxGo_find {α : Type} (p : α → Bool) : ∀ (cs : List α) (k : Nat), (cs.find? p = none ∧ idxGo p k cs = -1) ∨ ∃ j x, cs.find? p = some x ∧ cs[j]? = some x ∧ p x = true ∧ idxGo p k cs = (k + j : Nat)
  | [], k => .inl ⟨rfl, rfl⟩
  | c :: r, k => by
    cases hp : p c with
    | true => exact .inr ⟨0, c, by simp [hp], rfl, hp, by simp [idxGo, hp]⟩
    | false =>
      rcases idxGo_find p r (k + 1) with ⟨h1, h2⟩ | ⟨j, x, h1, h2, h3, h4⟩
      · exact .inl ⟨by simp [hp, h1], by simp [idxGo, hp, h2]⟩
      · exact .inr ⟨j + 1, x, by simp [hp, h1], by simpa using h2, h3, by simp only [idxGo, hp]; rw [if_neg (by simp), h4]; congr 1; omega⟩

set_option maxRecDepth 100000 in
set_option maxHeartbeats 2000000 in
theorem index_tok (is : List In) (o : Option Nat) (v : Value) (B : Nat) (s : ByteArray) (w : World) (hA : Rowed w 41 7 o v is.length (is.flatMap In.cells)) (hB : B < w.heap.size) (hcell : w.cell? ⟨B, 0, none⟩ = some (.string s)) :
    Calls Tryd.prog 30 #[v, .func (.func 31) #[] #[.pointer (some ⟨B, 0, none⟩)]] w fun e w' => e = .returned (.int .i64 (idxGo (fun x : In => sq x.tok s) 0 is)) ∧ Below w.heap.size w w' := by
  have hl : is.length ≤ 9223372036854775807 := by have := hA.max; unfold maxLen at this; omega
  obtain ⟨a, cap, rfl, -⟩ := hA.shape
  have HA := Lib.hid hA
  have HC := Lib.hid hcell
  clear hA hcell
  go_enter Tryd.func30, Tryd.ntmps30
  go_wp2_with fail
  go_loopw [5, 8] (fun _ i wr => ∃ k : Nat, k ≤ is.length ∧ i = .int .i64 k ∧ Below w.heap.size w wr ∧ Hid (idxGo (fun x : In => sq x.tok s) k (is.drop k) = idxGo (fun x : In => sq x.tok s) 0 is))
    (fun _ i _ => is.length - (intOf i).toNat)
  case atStart => exact ⟨0, Nat.zero_le _, rfl, Below.refl _ _, rfl⟩
  case round =>
    obtain ⟨k, hk, rfl, hb, HI⟩ := hrel
    by_cases hlt : k < is.length
    · obtain ⟨x, hx⟩ : ∃ x, is[k]? = some x := ⟨_, List.getElem?_eq_getElem hlt⟩
      obtain ⟨g, off, cap', hv, ho, hg, -, hc, -⟩ := (HA.out.below hb).elt in_len hx
      cases hv
      have hi := HI.out
      rw [idxGo_at hx] at hi
      clear hx HI
      have hc0 := hc 0 _ rfl
      have hc1 := hc 1 _ rfl
      have hc2 := hc 2 _ rfl
      have hc3 := hc 3 _ rfl
      have hc4 := hc 4 _ rfl
      have hc5 := hc 5 _ rfl
      have hc6 := hc 6 _ rfl
      simp only [Nat.add_zero] at hc0
      have hlook := closure31 x B s wr (by have := hb.size; omega) ((hb.cell (p := ⟨B, 0, none⟩) hB).trans HC.out)
      have HL := Lib.hid hlook
      clear hc hlook
      rcases hn : sq x.tok s with _ | _
      · rw [hn] at hi HL
        have HI := Lib.hid hi
        clear hi hn
        go_wp2_with fail
        refine HL.out.mono ?_
        rintro e w2 ⟨rfl, hb2⟩
        have hB2 : Below w.heap.size w w2 := hb.trans (hb2.mono hb.size)
        clear hb2
        go_wp2_with fail
        go_roundw
        case rel => exact ⟨k + 1, by omega, by go_num, hB2, HI⟩
        case measure => simp [intOf]; omega
      · rw [hn] at hi HL
        have hi' : (k : Int) = _ := hi
        have HI := Lib.hid hi'
        clear hi hi' hn
        go_wp2_with fail
        refine HL.out.mono ?_
        rintro e w2 ⟨rfl, hb2⟩
        have hB2 : Below w.heap.size w w2 := hb.trans (hb2.mono hb.size)
        clear hb2
        go_wp2_with fail
        go_ret
        exact ⟨by rw [← HI.out]; rfl, hB2⟩
    · have hkl : k = is.length := by omega
      subst hkl
      have hi := HI.out
      rw [List.drop_length] at hi
      have hi' : (-1 : Int) = _ := hi
      have HI := Lib.hid hi'
      clear hi hi'
      go_wp2_with fail
      go_ret
      exact ⟨by rw [← HI.out]; rfl, hb⟩

set_option maxRecDepth 100000 in
set_option maxHeartbeats 2000000 in
theorem index_id (is : List In) (o : Option Nat) (v : Value) (B : Nat) (s : ByteArray) (w : World) (hA : Rowed w 41 7 o v is.length (is.flatMap In.cells)) (hB : B < w.heap.size) (hcell : w.cell? ⟨B, 0, none⟩ = some (.string s)) :
    Calls Tryd.prog 30 #[v, .func (.func 28) #[] #[.pointer (some ⟨B, 0, none⟩)]] w fun e w' => e = .returned (.int .i64 (idxGo (fun x : In => sq x.id s) 0 is)) ∧ Below w.heap.size w w' := by
  have hl : is.length ≤ 9223372036854775807 := by have := hA.max; unfold maxLen at this; omega
  obtain ⟨a, cap, rfl, -⟩ := hA.shape
  have HA := Lib.hid hA
  have HC := Lib.hid hcell
  clear hA hcell
  go_enter Tryd.func30, Tryd.ntmps30
  go_wp2_with fail
  go_loopw [5, 8] (fun _ i wr => ∃ k : Nat, k ≤ is.length ∧ i = .int .i64 k ∧ Below w.heap.size w wr ∧ Hid (idxGo (fun x : In => sq x.id s) k (is.drop k) = idxGo (fun x : In => sq x.id s) 0 is))
    (fun _ i _ => is.length - (intOf i).toNat)
  case atStart => exact ⟨0, Nat.zero_le _, rfl, Below.refl _ _, rfl⟩
  case round =>
    obtain ⟨k, hk, rfl, hb, HI⟩ := hrel
    by_cases hlt : k < is.length
    · obtain ⟨x, hx⟩ : ∃ x, is[k]? = some x := ⟨_, List.getElem?_eq_getElem hlt⟩
      obtain ⟨g, off, cap', hv, ho, hg, -, hc, -⟩ := (HA.out.below hb).elt in_len hx
      cases hv
      have hi := HI.out
      rw [idxGo_at hx] at hi
      clear hx HI
      have hc0 := hc 0 _ rfl
      have hc1 := hc 1 _ rfl
      have hc2 := hc 2 _ rfl
      have hc3 := hc 3 _ rfl
      have hc4 := hc 4 _ rfl
      have hc5 := hc 5 _ rfl
      have hc6 := hc 6 _ rfl
      simp only [Nat.add_zero] at hc0
      have hlook := closure28 x B s wr (by have := hb.size; omega) ((hb.cell (p := ⟨B, 0, none⟩) hB).trans HC.out)
      have HL := Lib.hid hlook
      clear hc hlook
      rcases hn : sq x.id s with _ | _
      · rw [hn] at hi HL
        have HI := Lib.hid hi
        clear hi hn
        go_wp2_with fail
        refine HL.out.mono ?_
        rintro e w2 ⟨rfl, hb2⟩
        have hB2 : Below w.heap.size w w2 := hb.trans (hb2.mono hb.size)
        clear hb2
        go_wp2_with fail
        go_roundw
        case rel => exact ⟨k + 1, by omega, by go_num, hB2, HI⟩
        case measure => simp [intOf]; omega
      · rw [hn] at hi HL
        have hi' : (k : Int) = _ := hi
        have HI := Lib.hid hi'
        clear hi hi' hn
        go_wp2_with fail
        refine HL.out.mono ?_
        rintro e w2 ⟨rfl, hb2⟩
        have hB2 : Below w.heap.size w w2 := hb.trans (hb2.mono hb.size)
        clear hb2
        go_wp2_with fail
        go_ret
        exact ⟨by rw [← HI.out]; rfl, hB2⟩
    · have hkl : k = is.length := by omega
      subst hkl
      have hi := HI.out
      rw [List.drop_length] at hi
      have hi' : (-1 : Int) = _ := hi
      have HI := Lib.hid hi'
      clear hi hi'
      go_wp2_with fail
      go_ret
      exact ⟨by rw [← HI.out]; rfl, hb⟩

set_option maxRecDepth 100000 in
theorem contains_id (is : List In) (o : Option Nat) (v : Value) (B : Nat) (s : ByteArray) (w : World) (hA : Rowed w 41 7 o v is.length (is.flatMap In.cells)) (hB : B < w.heap.size) (hcell : w.cell? ⟨B, 0, none⟩ = some (.string s)) :
    Calls Tryd.prog 27 #[v, .func (.func 28) #[] #[.pointer (some ⟨B, 0, none⟩)]] w fun e w' => e = .returned (.bool (is.any (fun x : In => sq x.id s))) ∧ Below w.heap.size w w' := by
  have hi := index_id is o v B s w hA hB hcell
  have ha := idxGo_any (fun x : In => sq x.id s) is 0
  obtain ⟨i, hi0⟩ : ∃ i, idxGo (fun x : In => sq x.id s) 0 is = i := ⟨_, rfl⟩
  rw [hi0] at hi ha
  have HI := Lib.hid hi
  have e : is.any (fun x : In => sq x.id s) = decide (0 ≤ i) := by rw [Bool.eq_iff_iff, ha]; simp
  rw [e]
  clear hi ha hi0 e hA hcell
  by_cases h : 0 ≤ i
  · go_enter Tryd.func27, Tryd.ntmps27
    go_wp2_with fail
    refine HI.out.mono ?_
    rintro e w2 ⟨rfl, hb2⟩
    go_wp2_with fail
    go_ret
    exact ⟨by simp [h], hb2⟩
  · go_enter Tryd.func27, Tryd.ntmps27
    go_wp2_with fail
    refine HI.out.mono ?_
    rintro e w2 ⟨rfl, hb2⟩
    go_wp2_with fail
    go_ret
    exact ⟨by simp, hb2⟩
end Go.Proofs.YtpoegpojlcbfgaaDoor
