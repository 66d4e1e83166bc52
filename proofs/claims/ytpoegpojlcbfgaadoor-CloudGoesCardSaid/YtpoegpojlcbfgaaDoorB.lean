/- The cloud's two maps, entry by entry: looked up, written. -/
import Derived.Test.YtpoegpojlcbfgaaDoorA
import Derived.Laws.StructEq
import Derived.MapKept
import Derived.RangeFuncRecord
namespace Go.Proofs.YtpoegpojlcbfgaaDoor
open Go.RowKit

/-- The same bytes. -/
def sq (a b : ByteArray) : Bool := a.toList == b.toList
theorem sq_iff {a b : ByteArray} : sq a b = true ↔ a = b := by
  unfold sq
  rw [ByteArray.toList_eq, ByteArray.toList_eq, beq_iff_eq]
  obtain ⟨⟨x⟩⟩ := a
  obtain ⟨⟨y⟩⟩ := b
  simp
theorem sq_self (a : ByteArray) : sq a a = true := sq_iff.2 rfl
theorem sq_ne {a b : ByteArray} : sq a b = false ↔ a ≠ b := by
  rw [← Bool.not_eq_true, sq_iff]
theorem sq_comm (a b : ByteArray) : sq a b = sq b a := by
  rw [Bool.eq_iff_iff, sq_iff, sq_iff]; exact eq_comm

/-- An offer: a type, a zone, a kind. -/
structure Of where
  t : ByteArray
  z : ByteArray
  k : ByteArray
def Of.val (o : Of) : Value := .agg #[.string o.t, .string o.z, .string o.k]
def same (a b : Of) : Bool := sq a.t b.t && (sq a.z b.z && sq a.k b.k)
theorem same_iff {a b : Of} : same a b = true ↔ a = b := by
  obtain ⟨a1, a2, a3⟩ := a
  obtain ⟨b1, b2, b3⟩ := b
  simp [same, sq_iff]
theorem same_self (a : Of) : same a a = true := same_iff.2 rfl

theorem part28_0 (x y z : Value) (w : World) : (part 9 #[x, y, z] 0).run Tryd.prog w = .ok x w := by kernel_rfl
theorem part28_1 (x y z : Value) (w : World) : (part 9 #[x, y, z] 1).run Tryd.prog w = .ok y w := by kernel_rfl
theorem part28_2 (x y z : Value) (w : World) : (part 9 #[x, y, z] 2).run Tryd.prog w = .ok z w := by kernel_rfl
theorem stood28 : Tryd.prog.stoodInHeld 28 = false := by kernel_rfl
theorem fields28 : (Tryd.prog.fieldsOf 28).toList.map (fun f => (f.name, f.type, f.offset)) = [("Type", 9, 0), ("Zone", 9, 1), ("Kind", 9, 2)] := by kernel_rfl
theorem equal28 (k : Nat) (a b : Of) (w : World) : (Op.equalIn (k + 2) 28 a.val b.val).run Tryd.prog w = .ok (same a b) w := by
  have h0 : ∀ x y : ByteArray, (Op.equalIn (k + 1) 9 (.string x) (.string y)).run Tryd.prog w = .ok (x.toList == y.toList) w := fun x y => run_equalIn_string w k 9 x y Tryd.underlying9
  unfold Of.val
  rw [run_equalIn_struct w (k + 1) 28 _ _ (by kernel_rfl) stood28]
  have hf := fields28
  generalize (Tryd.prog.fieldsOf 28).toList = fs at hf
  obtain ⟨f0, f1, f2, rfl⟩ : ∃ f0 f1 f2, fs = [f0, f1, f2] := by
    rcases fs with _ | ⟨f0, _ | ⟨f1, _ | ⟨f2, _ | ⟨f3, r⟩⟩⟩⟩
    all_goals first | exact ⟨_, _, _, rfl⟩ | simp at hf
  simp only [List.map_cons, List.map_nil, List.cons.injEq, Prod.mk.injEq, and_true] at hf
  obtain ⟨⟨n0, t0, o0⟩, ⟨n1, t1, o1⟩, ⟨n2, t2, o2⟩⟩ := hf
  simp only [Op.eqFields, n0, n1, n2, t0, t1, t2, o0, o1, o2]
  simp only [ne_eq, String.reduceEq, not_false_eq_true, if_true, Sem.run_bind, part28_0, Result.andThen_ok, h0]
  simp only [same, sq]
  rcases e1 : (a.t.toList == b.t.toList) with _ | _ <;> rcases e2 : (a.z.toList == b.z.toList) with _ | _ <;> rcases e3 : (a.k.toList == b.k.toList) with _ | _ <;> simp_all [part28_1, part28_2]

/-! ### The set of those that have ended -/
def ends : List ByteArray → Nat → List MapEntry
  | [], _ => []
  | s :: r, i => ⟨.string s, .bool true, i⟩ :: ends r (i + 1)
theorem ends_snoc (s : ByteArray) : ∀ (l : List ByteArray) (i : Nat), ends (l ++ [s]) i = ends l i ++ [⟨.string s, .bool true, i + l.length⟩]
  | [], i => rfl
  | x :: r, i => by rw [List.cons_append, ends, ends_snoc s r (i + 1), ends, List.length_cons, List.cons_append, show i + 1 + r.length = i + (r.length + 1) by omega]
def has (l : List ByteArray) (s : ByteArray) : Bool := l.any fun x => sq s x
theorem findNow_ends (s : ByteArray) : ∀ (l : List ByteArray) (i j : Nat), (has l s = false ∧ Instr.findNow .string (.string s) (ends l i) j = some none) ∨ (has l s = true ∧ ∃ k, Instr.findNow .string (.string s) (ends l i) j = some (some (k, .bool true)))
  | [], i, j => .inl ⟨rfl, rfl⟩
  | x :: r, i, j => by
    have hs : Instr.sameNow .string (.string s) (.string x) = some (sq s x) := by simp [Instr.sameNow, sq, beq_toListBytes]
    unfold ends Instr.findNow
    rw [hs]
    cases hx : sq s x with
    | true => exact .inr ⟨by simp [has, hx], j, rfl⟩
    | false =>
      rcases findNow_ends s r (i + 1) (j + 1) with ⟨h1, h2⟩ | ⟨h1, k, h2⟩
      · exact .inl ⟨by simpa [has, hx] using h1, h2⟩
      · exact .inr ⟨by simp only [has, List.any_cons, hx, Bool.false_or]; exact h1, k, h2⟩
/-- Block b is the map of those that have ended. -/
def EndMap (w : World) (b : Nat) (l : List ByteArray) : Prop := w.heap[b]? = some (.map (ends l 0).toArray l.length)
theorem checkKey9 (e : Bool) (s : ByteArray) (w : World) : (Instr.checkKey e 10000 9 (.string s)).run Tryd.prog w = .ok () w := by
  unfold Instr.checkKey
  simp [run_underlying Tryd.underlying9]
theorem zero4 (w : World) : (zeroValue 4).run Tryd.prog w = .ok (.bool false) w := by kernel_rfl
theorem look_end {w : World} {b : Nat} {l : List ByteArray} (h : EndMap w b l) (s : ByteArray) : (Instr.lookup 51 (.map (some b)) (.string s) false).run Tryd.prog w = .ok (.bool (has l s)) w := by
  unfold Instr.lookup
  simp only [Sem.run_bind, run_underlying Tryd.underlying51, Result.andThen_ok, MapKept.run_getObj_map h, Sem.run_pure, checkKey9, Instr.findKey, run_underlying Tryd.underlying9]
  rcases findNow_ends s l 0 0 with ⟨h1, h2⟩ | ⟨h1, k, h2⟩
  · simp [h1, h2]
  · simp [h1, h2]
theorem put_end {w : World} {b : Nat} {l : List ByteArray} (h : EndMap w b l) (s : ByteArray) (hn : has l s = false) : (Instr.mapUpdate 51 (.map (some b)) (.string s) (.bool true)).run Tryd.prog w = .ok () (w.putObj b (.map (ends (l ++ [s]) 0).toArray (l ++ [s]).length)) := by
  unfold Instr.mapUpdate
  simp only [Sem.run_bind, run_underlying Tryd.underlying51, Result.andThen_ok, MapKept.run_getObj_map h, checkKey9, Instr.findKey, run_underlying Tryd.underlying9]
  rcases findNow_ends s l 0 0 with ⟨h1, h2⟩ | ⟨h1, k, h2⟩
  · simp [h2, MapKept.run_setObj_map _ h, World.putObj, ends_snoc]
  · rw [h1] at hn; cases hn

/-! ### The stocks -/
def stks : List (Of × Int) → Nat → List MapEntry
  | [], _ => []
  | (o, n) :: r, i => ⟨o.val, .int .i64 n, i⟩ :: stks r (i + 1)
def stockOf (o : Of) : List (Of × Int) → Option Int
  | [] => none
  | (o', n) :: r => if same o o' then some n else stockOf o r
def setStock (o : Of) (n : Int) : List (Of × Int) → List (Of × Int)
  | [] => [(o, n)]
  | (o', m) :: r => if same o o' then (o, n) :: r else (o', m) :: setStock o n r
def StockMap (w : World) (b : Nat) (l : List (Of × Int)) : Prop := w.heap[b]? = some (.map (stks l 0).toArray l.length)
theorem stks_len : ∀ (l : List (Of × Int)) (i : Nat), (stks l i).length = l.length
  | [], _ => rfl
  | _ :: r, i => by rw [stks, List.length_cons, stks_len r, List.length_cons]
theorem equalSt (a b : Of) (w : World) : (Op.equal 28 a.val b.val).run Tryd.prog w = .ok (same a b) w := equal28 9998 a b w
theorem findAsking_stks (o : Of) (w : World) : ∀ (l : List (Of × Int)) (i j : Nat), (stockOf o l = none ∧ setStock o 0 l = l ++ [(o, 0)] ∧ (∀ n, stks (setStock o n l) i = stks l i ++ [⟨o.val, .int .i64 n, i + l.length⟩]) ∧ (Instr.findAsking 28 o.val (stks l i) j).run Tryd.prog w = .ok none w) ∨
    (∃ m k, stockOf o l = some m ∧ (Instr.findAsking 28 o.val (stks l i) j).run Tryd.prog w = .ok (some (j + k, .int .i64 m)) w ∧ k < l.length ∧ ((stks l i)[k]?).map (·.key) = some o.val ∧ (∀ n, stks (setStock o n l) i = (stks l i).modify k fun e => { e with key := o.val, val := .int .i64 n }) ∧ ∀ n, (setStock o n l).length = l.length)
  | [], i, j => .inl ⟨rfl, rfl, fun _ => rfl, rfl⟩
  | (o', m) :: r, i, j => by
    unfold stks Instr.findAsking
    simp only [Sem.run_bind, equalSt, Result.andThen_ok, stockOf, setStock]
    cases hx : same o o' with
    | true =>
      have e := same_iff.1 hx
      subst e
      refine .inr ⟨m, 0, by simp, by simp, by simp, by simp, fun n => by simp, fun n => by simp⟩
    | false =>
      rcases findAsking_stks o w r (i + 1) (j + 1) with ⟨h1, h2, h3, h4⟩ | ⟨m', k, h1, h2, h3, h4, h5, h6⟩
      · refine .inl ⟨by simpa using h1, by simp [h2], fun n => ?_, by simpa using h4⟩
        simp only [Bool.false_eq_true, if_false, h3 n, List.cons_append, List.length_cons]
        rw [show i + 1 + r.length = i + (r.length + 1) by omega]
      · refine .inr ⟨m', k + 1, by simpa using h1, ?_, by simp; omega, by simpa using h4, fun n => ?_, fun n => ?_⟩
        · rw [show j + (k + 1) = j + 1 + k by omega]; simpa using h2
        · simp [h5 n]
        · simp [h6 n]
theorem findKey_stks (o : Of) (w : World) (l : List (Of × Int)) : (stockOf o l = none ∧ (∀ n, stks (setStock o n l) 0 = stks l 0 ++ [⟨o.val, .int .i64 n, l.length⟩]) ∧ (Instr.findKey 28 o.val (stks l 0)).run Tryd.prog w = .ok none w) ∨
    (∃ m k, stockOf o l = some m ∧ (Instr.findKey 28 o.val (stks l 0)).run Tryd.prog w = .ok (some (k, .int .i64 m)) w ∧ ((stks l 0)[k]?).map (·.key) = some o.val ∧ (∀ n, stks (setStock o n l) 0 = (stks l 0).modify k fun e => { e with key := o.val, val := .int .i64 n }) ∧ ∀ n, (setStock o n l).length = l.length) := by
  have hk : (Instr.findKey 28 o.val (stks l 0)).run Tryd.prog w = (Instr.findAsking 28 o.val (stks l 0)).run Tryd.prog w := by
    unfold Instr.findKey
    simp only [Sem.run_bind, run_underlying Tryd.underlying28, Result.andThen_ok]
    rcases l with _ | ⟨⟨o', m⟩, r⟩
    · rfl
    · rfl
  rw [hk]
  rcases findAsking_stks o w l 0 0 with ⟨h1, _, h3, h4⟩ | ⟨m, k, h1, h2, _, h4, h5, h6⟩
  · exact .inl ⟨h1, fun n => by rw [h3 n, Nat.zero_add], h4⟩
  · exact .inr ⟨m, k, h1, by rw [Nat.zero_add] at h2; exact h2, h4, h5, h6⟩
theorem setStock_none {o : Of} : ∀ {l : List (Of × Int)}, stockOf o l = none → ∀ n, (setStock o n l).length = l.length + 1
  | [], _, _ => rfl
  | (o', m) :: r, h, n => by
    unfold stockOf at h
    unfold setStock
    split at h
    · cases h
    · rename_i hx
      rw [if_neg hx, List.length_cons, setStock_none h n, List.length_cons]

theorem checkKeyStr (k : Nat) (e : Bool) (s : ByteArray) (w : World) : (Instr.checkKey e (k + 1) 9 (.string s)).run Tryd.prog w = .ok () w := by
  unfold Instr.checkKey
  simp [run_underlying Tryd.underlying9]
theorem checkKey28 (e : Bool) (o : Of) (w : World) : (Instr.checkKey e 10000 28 o.val).run Tryd.prog w = .ok () w := by
  have hu : Tryd.prog.underlying 28 = some (.struct (Tryd.prog.fieldsOf 28)) := by kernel_rfl
  unfold Instr.checkKey Of.val
  simp only [Sem.run_bind, run_underlying hu, Result.andThen_ok]
  rw [← Array.forIn_toList]
  have hf := fields28
  generalize (Tryd.prog.fieldsOf 28).toList = fs at hf
  obtain ⟨f0, f1, f2, rfl⟩ : ∃ f0 f1 f2, fs = [f0, f1, f2] := by
    rcases fs with _ | ⟨f0, _ | ⟨f1, _ | ⟨f2, _ | ⟨f3, r⟩⟩⟩⟩
    all_goals first | exact ⟨_, _, _, rfl⟩ | simp at hf
  simp only [List.map_cons, List.map_nil, List.cons.injEq, Prod.mk.injEq, and_true] at hf
  obtain ⟨⟨n0, t0, o0⟩, ⟨n1, t1, o1⟩, ⟨n2, t2, o2⟩⟩ := hf
  simp [List.forIn_cons, n0, n1, n2, t0, t1, t2, o0, o1, o2, Sem.run_bind, part28_0, part28_1, part28_2, checkKeyStr]
theorem zero3 (w : World) : (zeroValue 3).run Tryd.prog w = .ok (.int .i64 0) w := by kernel_rfl
theorem look_stock {w : World} {b : Nat} {l : List (Of × Int)} (h : StockMap w b l) (o : Of) : (Instr.lookup 53 (.map (some b)) o.val true).run Tryd.prog w = .ok (.tuple #[.int .i64 ((stockOf o l).getD 0), .bool (stockOf o l).isSome]) w := by
  unfold Instr.lookup
  simp only [Sem.run_bind, run_underlying Tryd.underlying53, Result.andThen_ok, MapKept.run_getObj_map h, Sem.run_pure, checkKey28]
  rcases findKey_stks o w l with ⟨h1, _, h2⟩ | ⟨m, k, h1, h2, _⟩
  · simp [h1, h2]
  · simp [h1, h2]
theorem sameBits28 (o : Of) : Instr.sameBits 10000 o.val o.val = true := by
  simp [Instr.sameBits, Of.val, beq_toListBytes]
theorem put_stock {w : World} {b : Nat} {l : List (Of × Int)} (h : StockMap w b l) (o : Of) (n : Int) : (Instr.mapUpdate 53 (.map (some b)) o.val (.int .i64 n)).run Tryd.prog w = .ok () (w.putObj b (.map (stks (setStock o n l) 0).toArray (setStock o n l).length)) := by
  unfold Instr.mapUpdate
  simp only [Sem.run_bind, run_underlying Tryd.underlying53, Result.andThen_ok, MapKept.run_getObj_map h, checkKey28]
  rcases findKey_stks o w l with ⟨h1, h3, h2⟩ | ⟨m, k, h1, h2, h4, h5, h6⟩
  · simp [h2, MapKept.run_setObj_map _ h, World.putObj, h3, setStock_none h1]
  · simp [h2, h4, Instr.keyThatStays, sameBits28, MapKept.run_setObj_map _ h, World.putObj, h5, h6]
end Go.Proofs.YtpoegpojlcbfgaaDoor
