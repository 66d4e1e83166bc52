/- A region that draws its order, one of whose operations may write into one old row. -/
import Derived.Test.YtpoegpojlcbfgaaDoorR
namespace Go.RegRel
open Go Go.RowKit

section
variable {P : Program} {l : List Oper} {a0 : Act} {Q : Exit → Act → World → Prop}
def growC (W0 : World) (row : Option Nat) (Keep : World → Prop) (w' : World) : Prop := W0.grownBy w' row ∧ Keep w'
def growSt (wi : Nat) (row : Option Nat) (Keep : World → Prop) (i : Nat) (w w' : World) : Prop := if i = wi then w.grownBy w' row ∧ Keep w' else Below w.heap.size w w'
/-- Kept by the one writer. -/
def ToughG (W0 : World) (row : Option Nat) (p : Value → Value → World → Prop) : Prop := ∀ v v' w w', W0.grownBy w row → w.grownBy w' row → p v v' w → p v v' w'
theorem grown_trans {a b c : World} {row : Option Nat} (h : a.grownBy b row) (k : b.grownBy c row) : a.grownBy c row :=
  ⟨k.os.trans h.os, k.tape.trans h.tape, k.output.trans h.output, Nat.le_trans h.size k.size, fun i hi hr => (k.block i (Nat.lt_of_lt_of_le hi h.size) hr).trans (h.block i hi hr)⟩
theorem grown_below {a b c : World} {row : Option Nat} (h : a.grownBy b row) (k : Below b.heap.size b c) : a.grownBy c row :=
  grown_trans h ⟨k.os, k.tape, k.output, k.size, fun i hi _ => k.block i hi⟩
theorem wp_region_grow {id : Nat} {w : World} (n wi : Nat) (row : Option Nat) (Keep : World → Prop) (hm : P.follows .mixedOrders = true) (hB : relB l.toArray n = true) (El : List Ent)
    (hnone : El.all (fun e => e.d.isNone) = true)
    (hst : ∀ (j : Nat) (e : Ent), El[j]? = some e → Stable e.p ∧ (j = wi ∨ ToughG w.drew row e.p)) (hlen : El.length = n)
    (hK0 : Keep w) (hKd : ∀ w, Keep w → Keep w.drew) (hKb : ∀ w w', Keep w → Below w.heap.size w w' → Keep w')
    (hop : OpsOk P l.toArray (ent El) (growC w.drew row Keep) (growSt wi row Keep) (fun u => puts (l.take n) 0 u a0) (l.take n) 0)
    (hend : ∀ u w', growC w.drew row Keep w' → allV u w' El 0 → wpList P l.toArray Q (l.drop n) (puts (l.take n) 0 u a0) w') : (Code.region id l.toArray true).wp P Q a0 w := by
  refine wp_region_rel n hm hB (ent El) (growC w.drew row Keep) (growSt wi row Keep) ?_ ⟨⟨rfl, rfl, rfl, Nat.le_refl _, fun _ _ _ => rfl⟩, hKd _ hK0⟩ (fun i w' hC => ?_) (fun i w1 w2 hC hs => ?_) (fun i j u w1 w2 hi hj hij hC hs hv => ?_) hop
    (fun u w' hc hv => hend u w' hc (allV_of fun j e hj => ?_))
  · intro j hj u u' w1 hk hv
    unfold ent at *
    cases he : El[j]? with
    | none => trivial
    | some e =>
      simp only [he] at hv ⊢
      have hd : e.d = none := by
        have := List.all_eq_true.1 hnone e (List.mem_of_getElem? he)
        simpa using this
      rw [hd] at hv ⊢
      have h1 : u j = u' j := hk j (.inl rfl)
      simp only [Option.getD_none] at hv ⊢
      rw [← h1]; exact hv
  · unfold growSt; split
    · exact ⟨⟨rfl, rfl, rfl, Nat.le_refl _, fun _ _ _ => rfl⟩, hC.2⟩
    · exact Below.refl _ _
  · unfold growSt at hs; split at hs
    · exact ⟨grown_trans hC.1 hs.1, hs.2⟩
    · exact ⟨grown_below hC.1 hs, hKb _ _ hC.2 hs⟩
  · unfold ent at *
    cases he : El[j]? with
    | none => trivial
    | some e =>
      simp only [he] at hv ⊢
      obtain ⟨h1, h2⟩ := hst j e he
      unfold growSt at hs; split at hs
      · rename_i hiw
        rcases h2 with h2 | h2
        · omega
        · exact h2 _ _ _ _ hC.1 hs.1 hv
      · exact h1 _ _ _ _ hs hv
  · have := hv j (by rw [← hlen]; exact (List.getElem?_eq_some_iff.1 hj).1)
    unfold ent at this
    rw [hj] at this
    rw [Nat.zero_add]; exact this
theorem toughG_is (W0 : World) (row : Option Nat) (c : Value) : ToughG W0 row (is c).p := fun _ _ _ _ _ _ h => h
end
end Go.RegRel
