/- Clouds whose numbers and tokens are all other ones; calls in memory. -/
import Derived.Test.YtpoegpojlcbfgaaDoorN
namespace Go.Proofs.YtpoegpojlcbfgaaDoor
open Go.RowKit

def digVal (l : List UInt8) : Nat := l.foldl (fun a d => a * 10 + (d.toNat - 48)) 0
theorem dig_val {n : Nat} (h : n < 100) : digVal (Lib.decDigits n) = n := by
  unfold Lib.decDigits
  split
  · simp [digVal]; omega
  · unfold Lib.decDigits
    rw [dif_pos (by omega)]
    simp [digVal]; omega
theorem id_inj {a b : Nat} (ha : a < 100) (hb : b < 100) (h : idStr a = idStr b) : a = b := by
  unfold idStr at h
  have h1 : (105 :: Lib.decDigits a) = 105 :: Lib.decDigits b := by
    have := congrArg (fun s : ByteArray => s.data.toList) h
    simpa using this
  have h2 : Lib.decDigits a = Lib.decDigits b := by simpa using h1
  rw [← dig_val ha, ← dig_val hb, h2]

/-- Numbers in their order, tokens all other ones. -/
structure Fine (l : List In) : Prop where
  len : l.length ≤ 64
  ids : ∀ (i : Nat) (x : In), l[i]? = some x → x.id = idStr (i + 1)
  toks : ∀ (i j : Nat) (x y : In), l[i]? = some x → l[j]? = some y → x.tok = y.tok → i = j
theorem Fine.nil : Fine [] := ⟨by simp, fun i x h => by simp at h, fun i j x y h => by simp at h⟩
theorem Fine.id_ne {l : List In} (h : Fine l) {i j : Nat} {x y : In} (hi : l[i]? = some x) (hj : l[j]? = some y) (e : x.id = y.id) : i = j := by
  have h1 := (List.getElem?_eq_some_iff.1 hi).1
  have h2 := (List.getElem?_eq_some_iff.1 hj).1
  have hl := h.len
  rw [h.ids i x hi, h.ids j y hj] at e
  have := id_inj (by omega) (by omega) e
  omega
/-- What a launch does to a good cloud. -/
theorem launch_good {c : Cd} (g : Fine c.is) (tok : ByteArray) (o : Of) (now : Int) {id : ByteArray} {e : Int} (he : launchE c tok o now = (id, e)) :
    ((e != 0) = true ∧ c.launch tok o now = c) ∨
    ((e != 0) = false ∧ c.launch tok o now = c ∧ ∃ (j : Nat) (x : In), c.is[j]? = some x ∧ x.tok = tok ∧ x.id = id) ∨
    ((e != 0) = false ∧ (∃ y : In, (c.launch tok o now).is = c.is ++ [y] ∧ y.tok = tok ∧ y.id = id) ∧ (∀ (i : Nat) (x : In), c.is[i]? = some x → x.tok ≠ tok ∧ x.id ≠ id) ∧ Fine (c.launch tok o now).is) := by
  cases hb : badL tok o now with
  | true =>
    obtain ⟨h1, h2⟩ := launch_bad (c := c) hb
    rw [h1] at he; cases he
    exact .inl ⟨rfl, h2⟩
  | false =>
    cases hf : c.is.find? (fun x => sq x.tok tok) with
    | some x =>
      obtain ⟨h1, h2⟩ := launch_was (c := c) hb hf
      rw [h1] at he; cases he
      have hx := List.mem_of_find?_eq_some hf
      obtain ⟨j, hj⟩ := List.getElem?_of_mem hx
      have ht := List.find?_some hf
      exact .inr (.inl ⟨rfl, h2, j, x, hj, sq_iff.1 ht, rfl⟩)
    | none =>
      by_cases hl : 64 ≤ c.is.length
      · obtain ⟨h1, h2⟩ := launch_many (c := c) hb hf hl
        rw [h1] at he; cases he
        exact .inl ⟨rfl, h2⟩
      · cases ht : takeOk c.sk o with
        | false =>
          obtain ⟨h1, h2⟩ := launch_out (c := c) hb hf hl ht
          rw [h1] at he; cases he
          exact .inl ⟨rfl, h2⟩
        | true =>
          obtain ⟨h1, h2⟩ := launch_new (c := c) hb hf hl ht
          rw [h1] at he; cases he
          have hne : ∀ (i : Nat) (x : In), c.is[i]? = some x → x.tok ≠ tok := by
            intro i x hi e
            have := List.find?_eq_none.1 hf x (List.mem_of_getElem? hi)
            exact this (sq_iff.2 e)
          have hid : ∀ (i : Nat) (x : In), c.is[i]? = some x → x.id ≠ idStr (c.is.length + 1) := by
            intro i x hi e
            have h1 := (List.getElem?_eq_some_iff.1 hi).1
            rw [g.ids i x hi] at e
            have := id_inj (by omega) (by omega) e
            omega
          refine .inr (.inr ⟨rfl, ⟨newIn c tok o now, by rw [h2], rfl, rfl⟩, fun i x hi => ⟨hne i x hi, hid i x hi⟩, ?_⟩)
          rw [h2]
          have key : ∀ (i : Nat) (x : In), (c.is ++ [newIn c tok o now])[i]? = some x → c.is[i]? = some x ∨ (i = c.is.length ∧ x = newIn c tok o now) := by
            intro i x hi
            rw [List.getElem?_append] at hi
            split at hi
            · exact .inl hi
            · right
              rename_i hlt
              have : i - c.is.length = 0 := by
                have := (List.getElem?_eq_some_iff.1 hi).1
                simp at this; omega
              rw [this] at hi
              exact ⟨by omega, by simpa using hi.symm⟩
          refine ⟨by simp; omega, fun i x hi => ?_, fun i j x y hi hj e => ?_⟩
          · rcases key i x hi with h | ⟨rfl, rfl⟩
            · exact g.ids i x h
            · rfl
          · rcases key i x hi with h | ⟨rfl, rfl⟩
            · rcases key j y hj with h' | ⟨rfl, rfl⟩
              · exact g.toks i j x y h h' e
              · exact absurd e (hne i x h)
            · rcases key j y hj with h' | ⟨rfl, rfl⟩
              · exact absurd e.symm (hne j y h')
              · rfl
theorem fin_is (c : Cd) (s : ByteArray) : (c.fin s).is = c.is := by
  unfold Cd.fin
  split
  · split <;> rfl
  · rfl

/-- A call: seven cells. -/
structure Opr where
  d : Int
  t : ByteArray
  o : Of
  n : Int
  cl : Bool
def Opr.cells (x : Opr) : List Value := [.int .i64 x.d, .string x.t, .string x.o.t, .string x.o.z, .string x.o.k, .int .i64 x.n, .bool x.cl]
def Om (w : World) (a : Option Addr) (l : List Opr) : Prop := ∀ (i : Nat) (x : Opr), l[i]? = some x → ∃ b off, a = some ⟨b, off, none⟩ ∧ b < w.heap.size ∧ (∀ j u, x.cells[j]? = some u → w.cell? ⟨b, off + i * 7 + j, none⟩ = some u) ∧ x.t.size ≤ 9223372036854775807
theorem Om.below {w w' : World} {B : Nat} {a : Option Addr} {l : List Opr} (h : Om w a l) (hB : w.heap.size ≤ B) (hb : Below B w w') : Om w' a l := fun i x hi => by
  obtain ⟨b, off, e, hlt, hc, hs⟩ := h i x hi
  exact ⟨b, off, e, by have := hb.size; omega, fun j u hj => (hb.cell (p := ⟨b, off + i * 7 + j, none⟩) (by show b < B; omega)).trans (hc j u hj), hs⟩
/-- A row beside that one. -/
theorem append_row {w3 w4 : World} {tmp : Obj} {o o' o2 : Option Nat} {e : TypeId} {size n : Nat} {v : Value} {xs : List Value} (hr : Rowed w3 e size o2 v n xs) (hg : (w3.alloc tmp).grownBy w4 o) (hf : Fresh (w3.alloc tmp) w4 o o') (hne : ∀ g, o2 = some g → some g ≠ o) :
    Rowed w4 e size o2 v n xs ∧ ∀ g, o2 = some g → some g ≠ o' := by
  have h1 := hr.below (below_new w3 tmp)
  refine ⟨h1.kept fun g e => hg.block g (h1.lt e) (hne g e), fun g e e' => ?_⟩
  rcases hf with rfl | ⟨g', rfl, h2, _⟩
  · exact hne g e e'
  · cases e'
    have := hr.lt e
    simp at h2
    omega
theorem strs_len (l : List ByteArray) : (strs l).length = l.length := by simp [strs]
end Go.Proofs.YtpoegpojlcbfgaaDoor
