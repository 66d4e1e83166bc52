/- A region that draws its order, by predicates on what each operation yields: one goal behind it, whatever the order. -/
import Derived.StillTail
import Derived.Below
namespace Go.RegRel
open Go

section
variable {P : Program} {ops : Array Oper} {Q : Exit → Act → World → Prop}

def upd (u : Nat → Value) (i : Nat) (v : Value) : Nat → Value := fun j => if j = i then v else u j

/-- The frame with the values of the operations laid in. -/
def puts : List Oper → Nat → (Nat → Value) → Act → Act
  | [], _, _, a => a
  | o :: r, k, u, a => puts r (k + 1) u (a.put o.dst (u k))

def distinct : List Oper → Bool
  | [] => true
  | o :: r => (match o.dst with | some d => r.all (fun o' => o'.dst != some d) | none => true) && distinct r

theorem puts_congr : ∀ (l : List Oper) (k : Nat) (u u' : Nat → Value) (a : Act), (∀ j, k ≤ j → u j = u' j) → puts l k u a = puts l k u' a
  | [], _, _, _, _, _ => rfl
  | o :: r, k, u, u', a, h => by
    simp only [puts]; rw [h k (Nat.le_refl _)]; exact puts_congr r (k + 1) u u' _ fun j hj => h j (by omega)

theorem puts_put : ∀ (l : List Oper) (k : Nat) (u : Nat → Value) (a : Act) (x : Option Tmp) (v : Value), (∀ o ∈ l, ∀ d, x = some d → o.dst ≠ some d) → puts l k u (a.put x v) = (puts l k u a).put x v
  | [], _, _, _, _, _, _ => rfl
  | o :: r, k, u, a, x, v, h => by
    simp only [puts]
    rw [Act.put_comm a v (u k) (h o (by simp))]
    exact puts_put r (k + 1) u _ x v fun o' ho' => h o' (by simp [ho'])

theorem put_put (a : Act) (x : Option Tmp) (v v' : Value) : (a.put x v).put x v' = a.put x v' := by
  cases x <;> simp [Act.put]

theorem puts_upd : ∀ (l : List Oper) (k i : Nat) (o : Oper) (u : Nat → Value) (v : Value) (a : Act), distinct l = true → l[i]? = some o → puts l k (upd u (k + i) v) a = (puts l k u a).put o.dst v
  | [], _, _, _, _, _, _, _, h => by simp at h
  | o' :: r, k, 0, o, u, v, a, hd, h => by
    have ho : o' = o := by simpa using h
    subst ho
    simp only [puts, Nat.add_zero]
    rw [show upd u k v k = v by simp [upd], puts_congr r (k + 1) (upd u k v) u _ (fun j hj => by simp only [upd]; rw [if_neg (by omega)])]
    have hne : ∀ o ∈ r, ∀ d, o'.dst = some d → o.dst ≠ some d := by
      intro o ho d hd'
      simp only [distinct, Bool.and_eq_true, hd', List.all_eq_true] at hd
      have := hd.1 o ho
      simpa using this
    rw [← puts_put r (k + 1) u _ o'.dst v hne, put_put]
  | o' :: r, k, i + 1, o, u, v, a, hd, h => by
    simp only [puts]
    rw [show upd u (k + (i + 1)) v k = u k by simp only [upd]; rw [if_neg (by omega)]]
    have := puts_upd r (k + 1) i o u v (a.put o'.dst (u k)) (by simp only [distinct, Bool.and_eq_true] at hd; exact hd.2) (by simpa using h)
    rw [show k + 1 + i = k + (i + 1) by omega] at this
    exact this

theorem put_same (a : Act) (d : Tmp) : a.put (some d) (a.tmps.getD d undef) = a := by
  simp only [Act.put]
  have : a.tmps.setIfInBounds d (a.tmps.getD d undef) = a.tmps := by
    apply Array.ext
    · simp
    · intro i h1 h2
      rw [Array.getElem_setIfInBounds]
      split
      · rename_i he; subst he; simp [h2]
      · rfl
  rw [this]

theorem puts_same : ∀ (l : List Oper) (k : Nat) (u : Nat → Value) (a : Act), (∀ j o, l[j]? = some o → ∀ d, o.dst = some d → u (k + j) = a.tmps.getD d undef) → puts l k u a = a
  | [], _, _, _, _ => rfl
  | o :: r, k, u, a, h => by
    simp only [puts]
    have h0 : a.put o.dst (u k) = a := by
      cases hd : o.dst with
      | none => rfl
      | some d =>
        have := h 0 o (by simp) d hd
        rw [Nat.add_zero] at this
        rw [this]; exact put_same a d
    rw [h0]
    exact puts_same r (k + 1) u a fun j o' hj d hd => by
      have := h (j + 1) o' (by simpa using hj) d hd
      rw [show k + 1 + j = k + (j + 1) by omega]; exact this

/-- What the operations that this one waits for have yielded. -/
def DepsOk (V : Nat → (Nat → Value) → World → Prop) (u : Nat → Value) (w : World) : List Edge → Prop
  | [] => True
  | e :: r => (Region.binds .any e = true → V e.on u w) ∧ DepsOk V u w r
theorem DepsOk.of {V : Nat → (Nat → Value) → World → Prop} {u : Nat → Value} {w : World} : ∀ {l : List Edge}, (∀ e ∈ l, Region.binds .any e = true → V e.on u w) → DepsOk V u w l
  | [], _ => trivial
  | e :: _, h => ⟨h e (by simp), DepsOk.of fun e' he' => h e' (by simp [he'])⟩

/-- What is asked once an operation has yielded this. -/
def relUpon (P : Program) (Vi : Value → World → Prop) (Sw : World → Prop) : Result Next → Prop
  | .ok (.value v) w' => Vi v w' ∧ Sw w'
  | .ok .skip w' => Vi undef w' ∧ Sw w'
  | .ok (.enter f args) w' => Calls P f args w' fun e w'' => ∃ v, e = .returned v ∧ Vi v w'' ∧ Sw w''
  | _ => False
def opOk (P : Program) (ops : Array Oper) (V : Nat → (Nat → Value) → World → Prop) (St : Nat → World → World → Prop) (i : Nat) (o : Oper) (u : Nat → Value) (a : Act) (w : World) : Prop :=
  if Region.wanted o (yielded ops a.tmps) then relUpon P (fun v w' => V i (upd u i v) w') (St i w) ((execOp a.eval o).run P w) else V i (upd u i undef) w

def OpsOk (P : Program) (ops : Array Oper) (V : Nat → (Nat → Value) → World → Prop) (C : World → Prop) (St : Nat → World → World → Prop) (fr : (Nat → Value) → Act) : List Oper → Nat → Prop
  | [], _ => True
  | o :: r, i => (∀ u w, C w → DepsOk V u w o.after.toList → opOk P ops V St i o u (fr u) w) ∧ OpsOk P ops V C St fr r (i + 1)
theorem OpsOk.at {V : Nat → (Nat → Value) → World → Prop} {C : World → Prop} {St : Nat → World → World → Prop} {fr : (Nat → Value) → Act} : ∀ {l : List Oper} {k i : Nat} {o : Oper}, OpsOk P ops V C St fr l k → l[i]? = some o →
    ∀ u w, C w → DepsOk V u w o.after.toList → opOk P ops V St (k + i) o u (fr u) w
  | [], _, _, _, _, h => by simp at h
  | o' :: r, k, 0, o, h, ho => by
    have he : o' = o := by simpa using ho
    subst he; exact h.1
  | o' :: r, k, i + 1, o, h, ho => by
    have := OpsOk.at (l := r) (k := k + 1) (i := i) h.2 (by simpa using ho)
    rw [show k + 1 + i = k + (i + 1) by omega] at this
    exact this

theorem Oper.wp_of_rel {o : Oper} {a : Act} {w : World} {Vi : Value → World → Prop} {Sw : World → Prop} {K : Act → World → Prop} {Q : Exit → Act → World → Prop} (hk : ∀ v w', Vi v w' → Sw w' → K (a.put o.dst v) w')
    (hh : relUpon P Vi Sw ((execOp a.eval o).run P w)) : o.wp P a w K Q := by
  unfold Oper.wp
  generalize (execOp a.eval o).run P w = r at *
  cases r with
  | ok n w' =>
    cases n <;> simp only [relUpon] at hh <;> simp only [Oper.upon]
    case value v => exact hk _ _ hh.1 hh.2
    case skip => exact hk _ _ hh.1 hh.2
    case enter f args =>
      refine Calls.mono hh fun e w'' ⟨v, he, h1, h2⟩ => ?_
      subst he
      exact hk _ _ h1 h2
  | halt x w' => cases x <;> simp only [relUpon] at hh

def depsB (ops : Array Oper) (n : Nat) : Bool :=
  (List.range n).all fun i => ((ops[i]?).map fun o => o.after.all fun e => !Region.binds .any e || decide (e.on < i)).getD false
def relB (ops : Array Oper) (n : Nat) : Bool :=
  decide (n < ops.size) && depsB ops n && distinct (ops.toList.take n) && Region.sinkB .any ops n && Region.chainB .any ops n && Region.seqB .any ops (ops.size - n) n (Array.replicate n true ++ Array.replicate (ops.size - n) false)

theorem depsB_spec {n i : Nat} {o : Oper} (h : depsB ops n = true) (hi : i < n) (ho : ops[i]? = some o) : ∀ e ∈ o.after, Region.binds .any e = true → e.on < i := by
  intro e he hb
  have h1 := List.all_eq_true.1 h i (List.mem_range.2 hi)
  simp only [ho, Option.map_some, Option.getD_some] at h1
  have h2 := Array.all_eq_true'.1 h1 e he
  simp only [hb, Bool.not_true, Bool.false_or, decide_eq_true_eq] at h2
  exact h2

theorem wpAny_succ : ∀ (f : Nat) (listed : Array Bool) (a : Act) (w : World), wpAny P .any ops Q f listed a w → wpAny P .any ops Q (f + 1) listed a w
  | 0, _, _, _, h => ⟨fun _ => h.2, fun i hi => by rw [h.1] at hi; cases hi⟩
  | f + 1, _, _, _, h => ⟨h.1, fun i hi => wpOp_mono (fun a' w' h' => wpAny_succ f _ a' w' h') (h.2 i hi)⟩
theorem wpAny_add (g f : Nat) {listed : Array Bool} {a : Act} {w : World} (h : wpAny P .any ops Q g listed a w) : wpAny P .any ops Q (f + g) listed a w := by
  induction f with
  | zero => rw [Nat.zero_add]; exact h
  | succ f ih => rw [show f + 1 + g = f + g + 1 by omega]; exact wpAny_succ _ _ _ _ ih

def left (n : Nat) (listed : Array Bool) : Nat := (List.range n).countP fun j => !listed.getD j true

theorem countP_lt {α : Type} {p p' : α → Bool} : ∀ {l : List α} {x : α}, (∀ y ∈ l, p' y = true → p y = true) → x ∈ l → p x = true → p' x = false → l.countP p' < l.countP p
  | [], _, _, hx, _, _ => by simp at hx
  | y :: l, x, h, hx, h1, h2 => by
    have hl : l.countP p' ≤ l.countP p := List.countP_mono_left fun z hz hp => h z (by simp [hz]) hp
    rw [List.countP_cons, List.countP_cons]
    rcases List.mem_cons.1 hx with rfl | hx
    · rw [h1, h2]; simp; omega
    · have := countP_lt (fun z hz hp => h z (by simp [hz]) hp) hx h1 h2
      cases hy : p' y
      · simp; omega
      · rw [h y (by simp) hy]; simp; omega

theorem left_set {n i : Nat} {listed : Array Bool} (hi : i < n) (hun : listed.getD i true = false) : left n (listed.setIfInBounds i true) < left n listed := by
  unfold left
  refine countP_lt (x := i) (fun y _ hy => ?_) (List.mem_range.2 hi) (by rw [hun]; rfl) ?_
  · by_cases hiy : i = y
    · subst hiy; rw [hun]; rfl
    · rw [getD_set_ne true hiy] at hy; exact hy
  · have hs : i < listed.size := by
      rcases Nat.lt_or_ge i listed.size with h | h
      · exact h
      · simp [Array.getElem?_eq_none h] at hun
    simp [hs]

theorem left_zero {n : Nat} {listed : Array Bool} (h : left n listed = 0) : ∀ j, j < n → listed.getD j true = true := by
  intro j hj
  unfold left at h
  rw [List.countP_eq_zero] at h
  have := h j (List.mem_range.2 hj)
  simpa using this

theorem left_pos {n : Nat} {listed : Array Bool} (h : left n listed ≠ 0) : ∃ j, j < n ∧ listed.getD j true = false := by
  unfold left at h
  rw [Ne, List.countP_eq_zero] at h
  simp only [List.mem_range, Bool.not_eq_true', Classical.not_forall] at h
  obtain ⟨j, hj, h2⟩ := h
  exact ⟨j, hj, by simpa using h2⟩

/-- The first one that is not listed yet may come up. -/
theorem ready_exists {n : Nat} {listed : Array Bool} (hd : depsB ops n = true) (hn : n ≤ ops.size) (hs : listed.size = ops.size) : ∀ j, j < n → listed.getD j true = false → ∃ i, i < n ∧ i ∈ Region.ready .any ops listed := by
  intro j
  induction j using Nat.strongRecOn with
  | _ j ih =>
    intro hj hun
    by_cases hall : ∀ i, i < j → listed.getD i true = true
    · have hlt : j < ops.size := by omega
      refine ⟨j, hj, mem_ready.2 ⟨hun, ops[j], by simp [hlt], fun e he hb => ?_⟩⟩
      have h1 := depsB_spec hd hj (o := ops[j]) (by simp [hlt]) e he hb
      have h2 := hall e.on h1
      have : e.on < listed.size := by omega
      simp [this] at h2 ⊢; exact h2
    · simp only [Classical.not_forall] at hall
      obtain ⟨i, hi, h2⟩ := hall
      exact ih i hi (by omega) (by simpa using h2)

variable {V : Nat → (Nat → Value) → World → Prop} {C : World → Prop} {St : Nat → World → World → Prop} {l : List Oper} {a0 : Act}

structure Inv (V : Nat → (Nat → Value) → World → Prop) (C : World → Prop) (l : List Oper) (n : Nat) (a0 : Act) (listed : Array Bool) (a : Act) (w : World) : Prop where
  head : HeadInv .any l.toArray n listed
  cls : C w
  vals : ∃ u, a = puts (l.take n) 0 u a0 ∧ ∀ j, j < n → listed.getD j false = true → V j u w

/-- V j looks at the values of j and of those that j waits for. -/
def Local (ops : Array Oper) (V : Nat → (Nat → Value) → World → Prop) (n : Nat) : Prop :=
  ∀ j, j < n → ∀ u u' w, (∀ k, (k = j ∨ ∃ o, ops[j]? = some o ∧ ∃ e ∈ o.after, Region.binds .any e = true ∧ e.on = k) → u k = u' k) → V j u w → V j u' w

theorem rel_main {n : Nat} (hB : relB l.toArray n = true) (hloc : Local l.toArray V n) (hSr : ∀ i w, C w → St i w w) (hCS : ∀ i w w', C w → St i w w' → C w')
    (hVS : ∀ i j u w w', i < n → j < n → i ≠ j → C w → St i w w' → V j u w → V j u w')
    (hop : OpsOk P l.toArray V C St (fun u => puts (l.take n) 0 u a0) (l.take n) 0)
    (hend : ∀ u w, C w → (∀ j, j < n → V j u w) → wpList P l.toArray Q (l.drop n) (puts (l.take n) 0 u a0) w) :
    ∀ (f : Nat) (listed : Array Bool) (a : Act) (w : World), Inv V C l n a0 listed a w → left n listed ≤ f → wpAny P .any l.toArray Q (f + (l.toArray.size - n)) listed a w := by
  simp only [relB, Bool.and_eq_true, decide_eq_true_eq] at hB
  obtain ⟨⟨⟨⟨⟨hn, hd⟩, hdis⟩, hs⟩, hc⟩, hseq⟩ := hB
  have hnl : n < l.length := by simpa using hn
  have hdl : (l.drop n).length = l.toArray.size - n := by simp
  intro f
  induction f with
  | zero =>
    intro listed a w inv hf
    have h0 := left_zero (Nat.le_zero.1 hf)
    have hL : listed = Array.replicate n true ++ Array.replicate (l.toArray.size - n) false := by
      apply Array.ext
      · rw [inv.head.size]; simp; omega
      · intro i h1 h2
        rw [inv.head.size] at h1
        rcases Nat.lt_or_ge i n with h | h
        · have := h0 i h
          have hi : i < listed.size := by rw [inv.head.size]; omega
          simp [hi] at this
          rw [this, Array.getElem_append_left (by simpa using h)]; simp
        · have := inv.head.tail i h h1
          have hi : i < listed.size := by rw [inv.head.size]; omega
          simp [hi] at this
          rw [this, Array.getElem_append_right (by simpa using h)]; simp
    obtain ⟨u, rfl, hu⟩ := inv.vals
    rw [Nat.zero_add, ← hdl]
    refine wpAny_of_seq (l.drop n) n listed _ w (fun j => by simp [List.getElem?_drop]) (by rw [hdl, hL]; exact hseq) (hend u w inv.cls fun j hj => hu j hj ?_)
    have := h0 j hj
    have hi : j < listed.size := by rw [inv.head.size]; omega
    simp [hi] at this ⊢; exact this
  | succ f ih =>
    intro listed a w inv hf
    by_cases hz : left n listed = 0
    · rw [show f + 1 + (l.toArray.size - n) = f + (l.toArray.size - n) + 1 by omega]
      exact wpAny_succ _ _ _ _ (ih listed a w inv (by omega))
    · obtain ⟨j0, hj0, hun0⟩ := left_pos hz
      rw [show f + 1 + (l.toArray.size - n) = f + (l.toArray.size - n) + 1 by omega]
      refine ⟨fun hr => ?_, fun i hi => ?_⟩
      · obtain ⟨i, _, h⟩ := ready_exists hd (Nat.le_of_lt hn) inv.head.size j0 hj0 hun0
        rw [hr] at h; cases h
      · have hin : i < n := by
          rcases Nat.lt_or_ge i n with h | h
          · exact h
          · exact absurd hi (tail_waits hs hc hn inv.head _ j0 rfl hj0 hun0 i h)
        obtain ⟨hun, o, ho, hall⟩ := mem_ready.1 hi
        obtain ⟨u, rfl, hu⟩ := inv.vals
        have hot : (l.take n)[i]? = some o := by
          rw [List.getElem?_take]; rw [if_pos hin]; simpa using ho
        have h1 := hop.at hot u w inv.cls (DepsOk.of fun e he hb => hu e.on (by have := depsB_spec hd hin ho e (by simpa using he) hb; omega) (hall e (by simpa using he) hb))
        rw [Nat.zero_add] at h1
        have next : ∀ (v : Value) (w' : World), V i (upd u i v) w' → St i w w' → wpAny P .any l.toArray Q (f + (l.toArray.size - n)) (listed.setIfInBounds i true) ((puts (l.take n) 0 u a0).put o.dst v) w' := by
          intro v w' hv hst
          refine ih _ _ w' ⟨inv.head.set hi hin, hCS i w w' inv.cls hst, upd u i v, ?_, fun j hj hl => ?_⟩ (by have := left_set hin hun; omega)
          · have := puts_upd (l.take n) 0 i o u v a0 (by simpa using hdis) hot
            rw [Nat.zero_add] at this; exact this.symm
          · by_cases hji : j = i
            · subst hji; exact hv
            · rw [getD_set_ne false (Ne.symm hji)] at hl
              have h2 := hVS i j _ w w' hin hj (Ne.symm hji) inv.cls hst (hu j hj hl)
              refine hloc j hj u _ w' (fun k hk => ?_) h2
              have hki : k ≠ i := by
                rcases hk with rfl | ⟨oj, hoj, e, he, hb, rfl⟩
                · exact hji
                · intro h
                  have := inv.head.closed j oj hoj hl e he hb
                  rw [h, getD_both hun] at this
                  cases this
              simp only [upd, if_neg hki]
        unfold wpOp
        simp only [ho]
        unfold opOk at h1
        split
        · rename_i hw
          rw [if_pos hw] at h1
          exact .inl (Oper.wp_of_rel next h1)
        · rename_i hw
          rw [if_neg hw] at h1
          exact next undef w h1 (hSr i w inv.cls)

/-- **A region that draws its order**: the first n operations in whatever order, each shown alone by what those that it waits for have yielded; then the rest, in the text's order. -/
theorem wp_region_rel {id : Nat} {w : World} (n : Nat) (hm : P.follows .mixedOrders = true) (hB : relB l.toArray n = true)
    (V : Nat → (Nat → Value) → World → Prop) (C : World → Prop) (St : Nat → World → World → Prop) (hloc : Local l.toArray V n) (hC : C w.drew) (hSr : ∀ i w, C w → St i w w) (hCS : ∀ i w w', C w → St i w w' → C w')
    (hVS : ∀ i j u w w', i < n → j < n → i ≠ j → C w → St i w w' → V j u w → V j u w')
    (hop : OpsOk P l.toArray V C St (fun u => puts (l.take n) 0 u a0) (l.take n) 0)
    (hend : ∀ u w, C w → (∀ j, j < n → V j u w) → wpList P l.toArray Q (l.drop n) (puts (l.take n) 0 u a0) w) : (Code.region id l.toArray true).wp P Q a0 w := by
  refine wp_region_any hm ?_
  have hn : n < l.toArray.size := by
    simp only [relB, Bool.and_eq_true, decide_eq_true_eq] at hB; exact hB.1.1.1.1.1
  have h0 : Inv V C l n a0 (Array.replicate l.toArray.size false) a0 w.drew :=
    ⟨⟨by simp, fun j oj _ hl => (by rw [getD_replicate_false] at hl; cases hl), fun t _ ht => getD_in (by simpa using ht) (getD_replicate_false _ _)⟩, hC,
      fun j => match (l.take n)[j]? with | some o => (match o.dst with | some d => a0.tmps.getD d undef | none => undef) | none => undef,
      (puts_same _ _ _ _ fun j o hj d hd => by rw [Nat.zero_add]; simp only [hj, hd]).symm,
      fun j _ hl => (by rw [getD_replicate_false] at hl; cases hl)⟩
  have hl : left n (Array.replicate l.toArray.size false) ≤ n := by
    unfold left
    exact Nat.le_trans List.countP_le_length (by simp)
  have := rel_main hB hloc hSr hCS hVS hop hend n _ _ _ h0 hl
  rw [show n + (l.toArray.size - n) = l.toArray.size by omega] at this
  exact this

/-! ### At the class 'below what there was nothing has turned'; one operation may write a block that the region itself has made -/
open Go.RowKit

/-- An entry: what an operation yields, and the number of another one at whose value it looks (its own number: none). -/
structure Ent where
  d : Option Nat
  p : Value → Value → World → Prop
def ent (l : List Ent) (j : Nat) (u : Nat → Value) (w : World) : Prop :=
  match l[j]? with
  | some e => e.p (u j) (u (e.d.getD j)) w
  | none => True
/-- The world has kept each block's make: cells stay cells, as many, as free as they were. -/
def Shaped (w w' : World) : Prop := ∀ (n : Nat) (c : Array Value) (t : TypeId) (f : Nat × Nat), w.heap[n]? = some (Obj.cells c t f) → ∃ c' : Array Value, w'.heap[n]? = some (Obj.cells c' t f) ∧ c'.size = c.size
theorem Shaped.refl (w : World) : Shaped w w := fun _ c _ _ h => ⟨c, h, rfl⟩
theorem Shaped.trans {a b c : World} (h : Shaped a b) (k : Shaped b c) : Shaped a c := fun n x t f hx => by
  obtain ⟨y, hy, e⟩ := h n x t f hx
  obtain ⟨z, hz, e'⟩ := k n y t f hy
  exact ⟨z, hz, e'.trans e⟩
theorem Shaped.of_below {w w' : World} (h : Below w.heap.size w w') : Shaped w w' := fun n c t f hc => by
  have hn : n < w.heap.size := by
    rcases Nat.lt_or_ge n w.heap.size with h' | h'
    · exact h'
    · rw [Array.getElem?_eq_none h'] at hc; cases hc
  exact ⟨c, by rw [h.block n hn]; exact hc, rfl⟩
theorem Shaped.setCell (w : World) (a : Addr) (v : Value) : Shaped w (w.setCell a v) := fun n c t f hc => by
  by_cases hn : a.block = n
  · subst hn
    refine ⟨if a.spot.isSome then c else c.setIfInBounds a.off v, ?_, ?_⟩
    · simp only [World.setCell, Array.getElem?_modify, if_true, hc, Option.map_some]
    · split <;> simp
  · exact ⟨c, by rw [Below.heap_setCell _ _ _ _ (Ne.symm hn)]; exact hc, rfl⟩

/-- Kept by whatever leaves what there is as it was. -/
def Stable (p : Value → Value → World → Prop) : Prop := ∀ v v' w w', Below w.heap.size w w' → p v v' w → p v v' w'
/-- Kept by a write into a block of the region's own, too. -/
def Tough (B : Nat) (p : Value → Value → World → Prop) : Prop := ∀ v v' w w', Below B w w' → Shaped w w' → p v v' w → p v v' w'
def AllStable (B wi : Nat) : List Ent → Nat → Prop
  | [], _ => True
  | e :: r, k => (Stable e.p ∧ (k = wi ∨ Tough B e.p)) ∧ AllStable B wi r (k + 1)
theorem AllStable.at {B wi : Nat} : ∀ {l : List Ent} {k j : Nat} {e : Ent}, AllStable B wi l k → l[j]? = some e → Stable e.p ∧ (k + j = wi ∨ Tough B e.p)
  | [], _, _, _, _, h => by simp at h
  | e' :: _, k, 0, e, h, he => by
    have : e' = e := by simpa using he
    subst this; exact h.1
  | _ :: r, k, j + 1, e, h, he => by
    have := AllStable.at (l := r) (k := k + 1) (j := j) h.2 (by simpa using he)
    rw [show k + 1 + j = k + (j + 1) by omega] at this
    exact this
def localB (ops : Array Oper) : List Ent → Nat → Bool
  | [], _ => true
  | e :: r, k => (match e.d with | none => true | some d => d == k || (((ops[k]?).map fun o => o.after.any fun e => Region.binds .any e && e.on == d).getD false)) && localB ops r (k + 1)
theorem localB_at : ∀ {l : List Ent} {k j : Nat} {e : Ent}, localB ops l k = true → l[j]? = some e → ∀ d, e.d = some d → d = k + j ∨ ∃ o, ops[k + j]? = some o ∧ ∃ e ∈ o.after, Region.binds .any e = true ∧ e.on = d
  | [], _, _, _, _, h => by simp at h
  | e' :: r, k, 0, e, h, he => by
    have : e' = e := by simpa using he
    subst this
    intro d hd
    simp only [localB, hd, Bool.and_eq_true, Bool.or_eq_true, beq_iff_eq] at h
    rcases h.1 with h | h
    · exact .inl h
    · right
      cases ho : ops[k]? with
      | none => rw [ho] at h; simp at h
      | some o =>
        rw [ho] at h
        simp only [Option.map_some, Option.getD_some] at h
        obtain ⟨e, he, hb⟩ := Array.any_eq_true'.1 h
        simp only [Bool.and_eq_true, beq_iff_eq] at hb
        exact ⟨o, rfl, e, he, hb.1, hb.2⟩
  | _ :: r, k, j + 1, e, h, he => by
    have := localB_at (l := r) (k := k + 1) (j := j) (by simp only [localB, Bool.and_eq_true] at h; exact h.2) (by simpa using he)
    rw [show k + 1 + j = k + (j + 1) by omega] at this
    exact this

/-- It is just this. -/
def is (c : Value) : Ent := ⟨none, fun v _ _ => v = c⟩
/-- Of it nothing need be known. -/
def any : Ent := ⟨none, fun _ _ _ => True⟩
/-- The block v points to has just these cells. -/
def Has (B : Nat) (cs : List Value) (v : Value) (w : World) : Prop := ∃ n, v = .pointer (some ⟨n, 0, none⟩) ∧ B ≤ n ∧ n < w.heap.size ∧ ∃ t, w.heap[n]? = some (.cells cs.toArray t (0, 0))
/-- A new block of k cells. -/
def fresh (B k : Nat) : Ent := ⟨none, fun v _ w => ∃ n, v = .pointer (some ⟨n, 0, none⟩) ∧ B ≤ n ∧ n < w.heap.size ∧ ∃ c t, w.heap[n]? = some (.cells c t (0, 0)) ∧ c.size = k⟩
/-- The new block that operation d has made holds these cells. -/
def filled (B d : Nat) (cs : List Value) : Ent := ⟨some d, fun _ v w => Has B cs v w⟩
theorem stable_is (c : Value) : Stable (is c).p := fun _ _ _ _ _ h => h
theorem tough_is (B : Nat) (c : Value) : Tough B (is c).p := fun _ _ _ _ _ _ h => h
theorem stable_any : Stable any.p := fun _ _ _ _ _ h => h
theorem tough_any (B : Nat) : Tough B any.p := fun _ _ _ _ _ _ h => h
theorem stable_fresh (B k : Nat) : Stable (fresh B k).p := by
  rintro v v' w w' hb ⟨n, rfl, h1, h2, c, t, h3, h4⟩
  exact ⟨n, rfl, h1, Nat.lt_of_lt_of_le h2 hb.size, c, t, by rw [hb.block n h2]; exact h3, h4⟩
theorem tough_fresh (B k : Nat) : Tough B (fresh B k).p := by
  rintro v v' w w' hb hs ⟨n, rfl, h1, h2, c, t, h3, h4⟩
  obtain ⟨c', h5, h6⟩ := hs n c t _ h3
  exact ⟨n, rfl, h1, Nat.lt_of_lt_of_le h2 hb.size, c', t, h5, h6.trans h4⟩
theorem Has.keep {B : Nat} {cs : List Value} {v : Value} {w w' : World} (hb : Below w.heap.size w w') (h : Has B cs v w) : Has B cs v w' := by
  obtain ⟨n, rfl, h1, h2, t, h3⟩ := h
  exact ⟨n, rfl, h1, Nat.lt_of_lt_of_le h2 hb.size, t, by rw [hb.block n h2]; exact h3⟩
theorem stable_filled (B d : Nat) (cs : List Value) : Stable (filled B d cs).p := fun _ _ _ _ hb h => h.keep hb
/-- A block of two cells, read and written. -/
theorem two_cells {w : World} {n : Nat} {c : Array Value} {t : TypeId} (h : w.heap[n]? = some (Obj.cells c t (0, 0))) (hc : c.size = 2) :
    ∃ p q, w.heap[n]? = some (Obj.cells #[p, q] t (0, 0)) ∧ w.cell? ⟨n, 0, none⟩ = some p ∧ w.cell? ⟨n, 1, none⟩ = some q ∧ ∀ i, w.frozen? ⟨n, i, none⟩ = false := by
  obtain ⟨l⟩ := c
  match l, hc with
  | [p, q], _ => exact ⟨p, q, h, by simp [World.cell?, h], by simp [World.cell?, h], fun i => by simp [World.frozen?, h]⟩
theorem two_put {w : World} {n : Nat} {p q : Value} {t : TypeId} (h : w.heap[n]? = some (Obj.cells #[p, q] t (0, 0))) (a b : Value) :
    ((w.setCell ⟨n, 0, none⟩ a).setCell ⟨n, 1, none⟩ b).heap[n]? = some (Obj.cells #[a, b] t (0, 0)) := by
  simp only [World.setCell, Array.getElem?_modify, if_true, h, Option.map_some]
  rfl
theorem Has.cells2 {B : Nat} {a b v : Value} {w : World} (h : Has B [a, b] v w) : ∃ n, v = .pointer (some ⟨n, 0, none⟩) ∧ B ≤ n ∧ n < w.heap.size ∧ w.cell? ⟨n, 0, none⟩ = some a ∧ w.cell? ⟨n, 1, none⟩ = some b ∧ ∀ i, w.frozen? ⟨n, i, none⟩ = false := by
  obtain ⟨n, hv, h1, h2, t, h3⟩ := h
  exact ⟨n, hv, h1, h2, by simp [World.cell?, h3], by simp [World.cell?, h3], fun i => by simp [World.frozen?, h3]⟩
theorem fresh_new (w : World) {B : Nat} (cs : Array Value) (t : TypeId) (h : B ≤ w.heap.size) : ∃ n, Value.pointer (some ⟨w.heap.size, 0, none⟩) = .pointer (some ⟨n, 0, none⟩) ∧ B ≤ n ∧ n < (w.alloc (.cells cs t)).heap.size ∧ ∃ c t', (w.alloc (.cells cs t)).heap[n]? = some (Obj.cells c t' (0, 0)) ∧ c.size = cs.size :=
  ⟨w.heap.size, rfl, h, by simp, cs, t, by show (w.heap.push _)[w.heap.size]? = _; simp, rfl⟩
theorem below_new (w : World) (o : Obj) : Below w.heap.size w (w.alloc o) := (Below.refl _ _).alloc (Nat.le_refl _) _

/-- The step of the one writer: a pair laid into the block that the region has made. -/
theorem store_step {w : World} {B n : Nat} {p q a b : Value} {t : TypeId} {v : Value} (hv : v = .pointer (some ⟨n, 0, none⟩)) (hB : B ≤ n) (hn : n < w.heap.size) (h : w.heap[n]? = some (Obj.cells #[p, q] t (0, 0))) :
    Has B [a, b] v ((w.setCell ⟨n, 0, none⟩ a).setCell ⟨n, 1, none⟩ b) ∧ Below B w ((w.setCell ⟨n, 0, none⟩ a).setCell ⟨n, 1, none⟩ b) ∧ Shaped w ((w.setCell ⟨n, 0, none⟩ a).setCell ⟨n, 1, none⟩ b) :=
  ⟨⟨n, hv, hB, by simpa using hn, t, two_put h a b⟩, ((Below.refl _ _).setCell (p := ⟨n, 0, none⟩) hB _).setCell (p := ⟨n, 1, none⟩) hB _, (Shaped.setCell _ _ _).trans (Shaped.setCell _ _ _)⟩

/-- What all of them have yielded. -/
def allV (u : Nat → Value) (w : World) : List Ent → Nat → Prop
  | [], _ => True
  | e :: r, k => e.p (u k) (u (e.d.getD k)) w ∧ allV u w r (k + 1)
theorem allV_of {u : Nat → Value} {w : World} : ∀ {l : List Ent} {k : Nat}, (∀ (j : Nat) (e : Ent), l[j]? = some e → e.p (u (k + j)) (u (e.d.getD (k + j))) w) → allV u w l k
  | [], _, _ => trivial
  | e :: r, k, h => ⟨h 0 e (by simp), allV_of (l := r) fun j e' hj => by
      have := h (j + 1) e' (by simpa using hj)
      rw [show k + 1 + j = k + (j + 1) by omega]; exact this⟩

/-- The step of operation i: what there was is kept; the one writer may turn a block of the region's own. -/
def step (B wi i : Nat) (w w' : World) : Prop := if i = wi then Below B w w' ∧ Shaped w w' else Below w.heap.size w w'

/-- **The region's rule** (w: the world ahead of it; wi: the number of the one operation that writes; n, where none does). -/
theorem wp_region_bel {id : Nat} {w : World} (n wi : Nat) (hm : P.follows .mixedOrders = true) (hB : relB l.toArray n = true) (El : List Ent) (hst : AllStable w.heap.size wi El 0) (hlen : El.length = n) (hL : localB l.toArray El 0 = true)
    (hop : OpsOk P l.toArray (ent El) (fun w' => Below w.heap.size w w') (step w.heap.size wi) (fun u => puts (l.take n) 0 u a0) (l.take n) 0)
    (hend : ∀ u w', Below w.heap.size w w' → allV u w' El 0 → wpList P l.toArray Q (l.drop n) (puts (l.take n) 0 u a0) w') : (Code.region id l.toArray true).wp P Q a0 w := by
  refine wp_region_rel n hm hB (ent El) (fun w' => Below w.heap.size w w') (step w.heap.size wi) ?_ (Below.refl _ _).drew (fun i w' _ => ?_) (fun i w1 w2 h h' => ?_) (fun i j u w1 w2 hi hj hij hc hs hv => ?_) hop
    (fun u w' hc hv => hend u w' hc (allV_of fun j e hj => ?_))
  · intro j hj u u' w1 hk hv
    unfold ent at *
    cases he : El[j]? with
    | none => trivial
    | some e =>
      simp only [he] at hv ⊢
      have h1 : u j = u' j := hk j (.inl rfl)
      have h2 : u (e.d.getD j) = u' (e.d.getD j) := by
        cases hd : e.d with
        | none => simpa using h1
        | some d =>
          have := localB_at hL he d hd
          rw [Nat.zero_add] at this
          exact hk d this
      rw [← h1, ← h2]; exact hv
  · unfold step; split
    · exact ⟨Below.refl _ _, Shaped.refl _⟩
    · exact Below.refl _ _
  · unfold step at h'; split at h'
    · exact h.trans h'.1
    · exact h.trans (h'.mono h.size)
  · unfold ent at *
    cases he : El[j]? with
    | none => trivial
    | some e =>
      simp only [he] at hv ⊢
      obtain ⟨h1, h2⟩ := hst.at he
      rw [Nat.zero_add] at h2
      unfold step at hs; split at hs
      · rename_i hiw
        rcases h2 with h2 | h2
        · omega
        · exact h2 _ _ _ _ hs.1 hs.2 hv
      · exact h1 _ _ _ _ hs hv
  · have := hv j (by rw [← hlen]; exact (List.getElem?_eq_some_iff.1 hj).1)
    unfold ent at this
    rw [hj] at this
    rw [Nat.zero_add]; exact this
end
attribute [irreducible] opOk relUpon
end Go.RegRel
