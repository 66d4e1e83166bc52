/- Rows of structs as lists of cells: parts of a list, what an append takes, what it leaves. -/
import Derived.Test.YtnaphpgbmjpicaaP10
namespace Go.Proofs.Ytnaphpgbmjpicaa
open Go.RowKit

section
variable {α : Type} {f : α → List Value} {k : Nat}
theorem rows_len (hf : ∀ x, (f x).length = k) : ∀ l : List α, (l.flatMap f).length = l.length * k
  | [] => by simp
  | x :: r => by rw [List.flatMap_cons, List.length_append, hf, rows_len hf r, List.length_cons, Nat.succ_mul, Nat.add_comm]
theorem rows_at (hf : ∀ x, (f x).length = k) : ∀ (l : List α) (i j : Nat) (x : α), l[i]? = some x → j < k → (l.flatMap f)[i * k + j]? = (f x)[j]?
  | [], i, j, x, h, _ => by simp at h
  | y :: r, 0, j, x, h, hj => by
    have e : y = x := by simpa using h
    subst e
    rw [List.flatMap_cons, Nat.zero_mul, Nat.zero_add, List.getElem?_append_left (by rw [hf]; exact hj)]
  | y :: r, i + 1, j, x, h, hj => by
    rw [List.flatMap_cons, List.getElem?_append_right (by rw [hf, Nat.succ_mul]; omega), hf, show (i + 1) * k + j - k = i * k + j by rw [Nat.succ_mul]; omega]
    exact rows_at hf r i j x (by simpa using h) hj
theorem rw_news {w : World} {a : Option Addr} (hf : ∀ x, (f x).length = k) (hk : 0 < k) {l : List α} (h : Rw w a k (l.map f)) : ∀ ad, a = some ad → ∀ j u, (l.flatMap f)[j]? = some u → w.cell? (ad.add j) = some u := by
  rintro ad rfl j u hj
  have hlt : j < l.length * k := by rw [← rows_len hf]; exact (List.getElem?_eq_some_iff.1 hj).1
  have hi : j / k < l.length := (Nat.div_lt_iff_lt_mul hk).2 hlt
  have hx : l[j / k]? = some l[j / k] := List.getElem?_eq_getElem hi
  obtain ⟨b, off, e, _, _, hc⟩ := h (j / k) (f l[j / k]) (by simp [hi])
  cases e
  have hadd : (⟨b, off, none⟩ : Addr).add j = ⟨b, off + j, none⟩ := by unfold Addr.add; split <;> simp_all
  have hm := rows_at hf l (j / k) (j % k) _ hx (Nat.mod_lt _ hk)
  have hdm : j / k * k + j % k = j := by rw [Nat.mul_comm]; exact Nat.div_add_mod j k
  rw [hdm] at hm
  rw [hadd, show off + j = off + j / k * k + j % k by omega]
  exact hc _ _ (by rw [← hm]; exact hj)
theorem own_rw {w : World} {base : Nat} {e : TypeId} {v : Value} (hf : ∀ x, (f x).length = k) {l : List α} (h : w.ownsRow base e k v l.length (l.flatMap f)) : ∃ a cap, v = .slice a l.length cap ∧ Rw w a k (l.map f) := by
  rcases h.2 with ⟨hv, hn⟩ | ⟨g, cap, cur, hv, hb, hg, hle, hm, hs, ht⟩
  · have e : l = [] := List.eq_nil_of_length_eq_zero hn
    subst e
    exact ⟨none, 0, hv, fun i r hr => by simp at hr⟩
  · refine ⟨some ⟨g, 0, none⟩, cap, hv, fun i r hr => ?_⟩
    subst hv
    have hil : i < l.length := by
      have := (List.getElem?_eq_some_iff.1 hr).1
      simpa using this
    have hr' : r = f l[i] := by
      simp [hil] at hr
      exact hr.symm
    subst hr'
    refine ⟨g, 0, rfl, (Array.getElem?_eq_some_iff.1 hg).1, hf _, fun j u hj => ?_⟩
    have hjk : j < k := by rw [← hf l[i]]; exact (List.getElem?_eq_some_iff.1 hj).1
    have hlt : i * k + j < l.length * k := by
      have : (i + 1) * k ≤ l.length * k := Nat.mul_le_mul_right _ hil
      rw [Nat.succ_mul] at this; omega
    rw [Nat.zero_add, World.ownsRow.cellAt h _ hlt, rows_at hf l i j _ (List.getElem?_eq_getElem hil) hjk]
    exact hj
theorem Rw.take {w : World} {a : Option Addr} {rows : List (List Value)} (m : Nat) (h : Rw w a k rows) : Rw w a k (rows.take m) := fun i r hr => by
  rw [List.getElem?_take] at hr
  split at hr
  · exact h i r hr
  · cases hr
theorem Rw.drop {w : World} {b off : Nat} {rows : List (List Value)} (m : Nat) (h : Rw w (some ⟨b, off, none⟩) k rows) : Rw w (some ⟨b, off + m * k, none⟩) k (rows.drop m) := fun i r hr => by
  rw [List.getElem?_drop] at hr
  obtain ⟨b', off', e, l, n, c⟩ := h (m + i) r hr
  cases e
  exact ⟨b, off + m * k, rfl, l, n, fun j v hj => by rw [show off + m * k + i * k + j = off + (m + i) * k + j by rw [Nat.add_mul]; omega]; exact c j v hj⟩
theorem own_stable {e : TypeId} {size n B : Nat} {xs : List Value} {v : Value} {w w' : World} (hb : Below w.heap.size w w') (h : w.ownsRow B e size v n xs) : w'.ownsRow B e size v n xs := by
  refine ⟨h.1, ?_⟩
  rcases h.2 with h0 | ⟨g, cap, cur, rfl, h1, h2, rest⟩
  · exact .inl h0
  · exact .inr ⟨g, cap, cur, rfl, h1, by rw [hb.block g (Array.getElem?_eq_some_iff.1 h2).1]; exact h2, rest⟩
end
theorem pd_len (c : Pd) : c.cells.length = 12 := rfl
theorem cl_len (c : Cl) : c.cells.length = 15 := rfl
theorem pd_one (l : List Pd) : ∀ u ∈ l.flatMap Pd.cells, u.oneCell' = true := by
  intro u hu
  obtain ⟨c, _, hc⟩ := List.mem_flatMap.1 hu
  simp only [Pd.cells, List.mem_cons, List.not_mem_nil, or_false] at hc
  rcases hc with rfl | rfl | rfl | rfl | rfl | rfl | rfl | rfl | rfl | rfl | rfl | rfl <;> first | rfl | exact c.h0 | exact c.h1 | exact c.h4 | exact c.h5 | exact c.h6 | exact c.h7 | exact c.h8 | exact c.h9 | exact c.h10
theorem cl_one (l : List Cl) : ∀ u ∈ l.flatMap Cl.cells, u.oneCell' = true := by
  intro u hu
  obtain ⟨c, _, hc⟩ := List.mem_flatMap.1 hu
  simp only [Cl.cells, List.mem_cons, List.not_mem_nil, or_false] at hc
  rcases hc with rfl | rfl | rfl | rfl | rfl | rfl | rfl | rfl | rfl | rfl | rfl | rfl | rfl | rfl | rfl <;> first | rfl | exact c.h2 | exact c.h3 | exact c.h4 | exact c.h5 | exact c.h6 | exact c.h9 | exact c.h10 | exact c.h11 | exact c.h12 | exact c.h13 | exact c.h14
end Go.Proofs.Ytnaphpgbmjpicaa
