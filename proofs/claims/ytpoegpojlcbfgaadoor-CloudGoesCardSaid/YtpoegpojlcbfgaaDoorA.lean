/- Rows that may begin within their block; appended to, cut at the head; what stays as it was but for some blocks. -/
import Derived.Test.YtpoegpojlcbfgaaDoorChecked
import Derived.WalkKit
import Derived.WalkLawsBesides
import Derived.WalkSpells
import Derived.RegionTactic
import Derived.BigRegion
import Derived.Deep.QuietTactic
import Derived.BigQuiet
import Derived.Lib.Hide
import Derived.Outline
import Derived.LoopTactic
import Derived.Below
import Derived.Laws.CopyRow
namespace Go.Proofs.YtpoegpojlcbfgaaDoor
open Go.RowKit

/-- A row of n elements of some cells each, in a block of its own (o), from some offset on. -/
def Rowed (w : World) (e : TypeId) (size : Nat) (o : Option Nat) (v : Value) (n : Nat) (xs : List Value) : Prop :=
  xs.length = n * size ∧ (((∃ a, v = .slice a 0 0) ∧ n = 0 ∧ o = none) ∨
    ∃ g off cap cur, o = some g ∧ v = .slice (some ⟨g, off, none⟩) n cap ∧ w.heap[g]? = some (.cells cur e (0, 0)) ∧ n ≤ cap ∧ cap ≤ maxLen ∧ off + cap * size ≤ cur.size ∧ (cur.toList.drop off).take (n * size) = xs)

section
variable {w w' : World} {e : TypeId} {size n : Nat} {o : Option Nat} {v : Value} {xs : List Value}
theorem Rowed.nil (w : World) (e : TypeId) (size : Nat) : Rowed w e size none (.slice none 0 0) 0 [] := ⟨by simp, .inl ⟨⟨none, rfl⟩, rfl, rfl⟩⟩
/-- A row of nothing, wherever it begins. -/
theorem Rowed.empty (w : World) (e : TypeId) (size : Nat) (a : Option Addr) : Rowed w e size none (.slice a 0 0) 0 [] := ⟨by simp, .inl ⟨⟨a, rfl⟩, rfl, rfl⟩⟩
theorem Rowed.lt (h : Rowed w e size o v n xs) {g : Nat} (hg : o = some g) : g < w.heap.size := by
  rcases h.2 with ⟨_, _, rfl⟩ | ⟨g', _, _, _, ho, _, hh, _⟩
  · cases hg
  · rw [ho] at hg; cases hg
    exact (Array.getElem?_eq_some_iff.1 hh).1
theorem Rowed.kept (h : Rowed w e size o v n xs) (hk : ∀ g, o = some g → w'.heap[g]? = w.heap[g]?) : Rowed w' e size o v n xs := by
  refine ⟨h.1, h.2.imp id ?_⟩
  rintro ⟨g, off, cap, cur, ho, hv, hh, r⟩
  exact ⟨g, off, cap, cur, ho, hv, (hk g ho).trans hh, r⟩
theorem Rowed.shape (h : Rowed w e size o v n xs) : ∃ a cap, v = .slice a n cap ∧ n ≤ cap ∧ (a = none → n = 0 ∧ cap = 0 ∧ o = none) ∧ (∀ ad, a = some ad → 0 < n → ∃ g off, o = some g ∧ ad = ⟨g, off, none⟩ ∧ g < w.heap.size ∧ (∀ j, j < n * size → w.cell? ⟨g, off + j, none⟩ = xs[j]?) ∧ (∀ j, w.frozen? ⟨g, j, none⟩ = false)) := by
  rcases h.2 with ⟨⟨a, rfl⟩, rfl, rfl⟩ | ⟨g, off, cap, cur, ho, rfl, hh, hn, hm, hs, hx⟩
  · exact ⟨a, 0, rfl, Nat.le_refl _, fun _ => ⟨rfl, rfl, rfl⟩, fun _ _ h => absurd h (Nat.lt_irrefl _)⟩
  · refine ⟨some ⟨g, off, none⟩, cap, rfl, hn, (fun h => by cases h), fun ad h _ => ?_⟩
    cases h
    refine ⟨g, off, ho, rfl, (Array.getElem?_eq_some_iff.1 hh).1, fun j hj => ?_, fun j => ?_⟩
    · subst hx
      rw [List.getElem?_take_of_lt hj, List.getElem?_drop]
      simp [World.cell?, hh]
    · simp [World.frozen?, hh]
theorem Rowed.news {ad : Addr} {c : Nat} (h : Rowed w e size o (.slice (some ad) n c) n xs) : ∀ j u, xs[j]? = some u → w.cell? (ad.add j) = some u := by
  obtain ⟨a, cap, hv, _, _, hs⟩ := h.shape
  cases hv
  intro j u hj
  have hpos : 0 < n := by
    rcases Nat.eq_zero_or_pos n with h0 | h0
    · have h1 := h.1
      have := (List.getElem?_eq_some_iff.1 hj).1
      rw [h1, h0] at this
      simp at this
    · exact h0
  obtain ⟨g, off, _, rfl, _, hc, _⟩ := hs ad rfl hpos
  rw [Addr.add_lit, hc j (by rw [← h.1]; exact (List.getElem?_eq_some_iff.1 hj).1)]
  exact hj

/-- What an append may do: the old row's block, or a new one. -/
def Fresh (w w' : World) (o o' : Option Nat) : Prop := o' = o ∨ ∃ g, o' = some g ∧ w.heap.size ≤ g ∧ g < w'.heap.size

variable {P : Program}
theorem run_append_room_at (w : World) (t ty e : TypeId) (i : TypeInfo) (ht : P.underlying t = some (.slice e)) (hi : P.info? e = some i)
    (g off sLen sCap : Nat) (cur : Array Value) (hg : w.heap[g]? = some (.cells cur e (0, 0)))
    (a : Addr) (m c : Nat) (news : List Value) (hl : news.length = m * i.size) (hnews : ∀ j u, news[j]? = some u → w.cell? (a.add j) = some u) (h1 : ∀ u ∈ news, u.oneCell' = true)
    (hroom : sLen + m ≤ sCap) (hfit : off + sLen * i.size + news.length ≤ cur.size) :
    (Builtin.append_ #[t, t] ty #[.slice (some ⟨g, off, none⟩) sLen sCap, .slice (some a) m c]).run P w =
      .ok (.slice (some ⟨g, off, none⟩) (sLen + m) sCap) (w.setRow g (cur.toList.take (off + sLen * i.size) ++ news ++ cur.toList.drop (off + sLen * i.size + news.length)).toArray) := by
  have hf := run_firstCells_some (P := P) w i.size m a m c news hl hnews
  have hst := run_storeCells_at P g (off + sLen * i.size) e news 0 cur w hg (by simpa using hfit) h1
  simp only [Nat.add_zero] at hst
  simp [Builtin.append_, run_underlying ht, sizeOf, typeInfo, hi, Builtin.lenOf, hroom, hf, Addr.add_lit, hst]

/-- **An append onto a row**, of m elements that lie somewhere. -/
theorem run_append_rowed (w : World) (t ty e : TypeId) (i : TypeInfo) (z : Value) (size bytes : Nat) (ht : P.underlying t = some (.slice e)) (hi : P.info? e = some i) (hz : i.zero = some z)
    (hsize : i.size = size) (hby : i.bytes = bytes) (hzs : z.cells.size = size)
    (o : Option Nat) (v : Value) (n : Nat) (xs : List Value) (hown : Rowed w e size o v n xs)
    (a : Addr) (m c : Nat) (news : List Value) (hl : news.length = m * size) (hnews : ∀ j u, news[j]? = some u → w.cell? (a.add j) = some u) (h1 : ∀ u ∈ news, u.oneCell' = true) (hm0 : 0 < m)
    (h63 : n + m ≤ maxLen) (hbytes : (n + m) * bytes ≤ 140737488355328) :
    ∃ v' w' o', (Builtin.append_ #[t, t] ty #[v, .slice (some a) m c]).run P w = .ok v' w' ∧ Rowed w' e size o' v' (n + m) (xs ++ news) ∧ w.grownBy w' o ∧ Fresh w w' o o' ∧ Rowed w' e size o v n xs := by
  subst hsize
  subst hby
  have hsmall : n + m ≤ 9223372036854775807 := by simp only [maxLen] at h63; omega
  have hlen : (xs ++ news).length = (n + m) * i.size := by rw [List.length_append, hown.1, hl, Nat.add_mul]
  have grown : ∀ (old : Nat), old < n + m →
      Rowed (w.drew.alloc (.cells (xs.toArray ++ news.toArray ++ Builtin.zeroCells z.cells (grownCap w (n + m) old e - (n + m))) e)) e i.size (some w.heap.size)
        (.slice (some ⟨w.heap.size, 0, none⟩) (n + m) (grownCap w (n + m) old e)) (n + m) (xs ++ news) ∧
      w.grownBy (w.drew.alloc (.cells (xs.toArray ++ news.toArray ++ Builtin.zeroCells z.cells (grownCap w (n + m) old e - (n + m))) e)) o := by
    intro old ho
    have hge := grownCap_ge w (n + m) old e
    have hcm : grownCap w (n + m) old e ≤ maxLen := grownCap_le_maxLen w (n + m) old e h63
    refine ⟨⟨hlen, .inr ⟨w.heap.size, 0, _, _, rfl, rfl, heap_alloc_new w.drew _, hge, hcm, ?_, ?_⟩⟩, ⟨rfl, rfl, rfl, by simp, fun k hk _ => Below.heap_alloc w.drew _ k hk⟩⟩
    · simp only [Array.size_append, List.size_toArray, size_zeroCells, hzs, hown.1, hl, ← Nat.add_mul, Nat.zero_add]
      exact Nat.mul_le_mul_right _ (by omega)
    · simp only [Array.toList_append, List.append_assoc, List.drop_zero]
      rw [← List.append_assoc, ← hlen]
      exact List.take_left
  rcases hown.2 with ⟨⟨a0, rfl⟩, rfl, rfl⟩ | ⟨g, off, cap, cur, rfl, rfl, hg, hnc, hcm, hcs, htake⟩
  · have hx : xs = [] := List.eq_nil_of_length_eq_zero (by simpa using hown.1)
    subst hx
    have hgr := grown 0 (by omega)
    simp only [Nat.zero_add, List.nil_append, Array.empty_append] at hgr ⊢
    cases a0 with
    | some ad =>
      have hr := run_append_grow (P := P) w t ty e i z ht hi hz ad 0 0 [] (by simp) (fun j u h => by simp at h) a m c news hl hnews (by omega) (by omega) (growslice_fits (by omega) (by simpa using hbytes))
      simp only [Nat.zero_add, Array.empty_append] at hr
      exact ⟨_, _, some w.heap.size, hr, hgr.1, hgr.2, .inr ⟨_, rfl, Nat.le_refl _, by simp⟩, Rowed.empty _ _ _ _⟩
    | none =>
      have hr := run_append_nil (P := P) w t ty e i z ht hi hz a m c news hl hnews (by omega) (by omega) (by have hb := hbytes; simp only [Nat.zero_add] at hb; omega)
      exact ⟨_, _, some w.heap.size, hr, hgr.1, hgr.2, .inr ⟨_, rfl, Nat.le_refl _, by simp⟩, Rowed.nil _ _ _⟩
  · by_cases hroom : n + m ≤ cap
    · have hfit : off + n * i.size + news.length ≤ cur.size := by
        have : (n + m) * i.size ≤ cap * i.size := Nat.mul_le_mul_right _ hroom
        rw [hl]; rw [Nat.add_mul] at this; omega
      have hr := run_append_room_at (P := P) w t ty e i ht hi g off n cap cur hg a m c news hl hnews h1 hroom hfit
      have hto : (cur.toList.take (off + n * i.size)).length = off + n * i.size := by rw [List.length_take, Array.length_toList]; omega
      have hd : (cur.toList.take (off + n * i.size)).drop off = xs := by
        rw [← htake, List.drop_take]; congr 1; omega
      have hsz : off + cap * i.size ≤ (cur.toList.take (off + n * i.size) ++ news ++ cur.toList.drop (off + n * i.size + news.length)).toArray.size := by
        simp only [List.size_toArray, List.length_append, List.length_take, List.length_drop, Array.length_toList]
        omega
      refine ⟨_, _, some g, hr, ⟨hlen, .inr ⟨g, off, cap, _, rfl, rfl, setRow_heap w g cur _ e _ hg, hroom, hcm, hsz, ?_⟩⟩, ⟨rfl, rfl, rfl, by simp, fun k _ hk => setRow_other w g k _ (fun e => hk (by rw [e]))⟩, .inl rfl,
        ⟨hown.1, .inr ⟨g, off, cap, _, rfl, rfl, setRow_heap w g cur _ e _ hg, hnc, hcm, hsz, ?_⟩⟩⟩
      · rw [List.append_assoc, List.drop_append_of_le_length (by rw [hto]; omega), hd, ← List.append_assoc, ← hlen]
        exact List.take_left
      · rw [List.append_assoc, List.drop_append_of_le_length (by rw [hto]; omega), hd, ← hown.1]
        exact List.take_left
    · have holds : ∀ j u, xs[j]? = some u → w.cell? ((⟨g, off, none⟩ : Addr).add j) = some u := hown.news
      have hr := run_append_grow (P := P) w t ty e i z ht hi hz ⟨g, off, none⟩ n cap xs hown.1 holds a m c news hl hnews (by omega) (by omega) (growslice_fits (by omega) hbytes)
      have hgr := grown cap (by omega)
      exact ⟨_, _, some w.heap.size, hr, hgr.1, hgr.2, .inr ⟨_, rfl, Nat.le_refl _, by simp⟩, hown.kept fun g' hg' => by cases hg'; exact Below.heap_alloc w.drew _ _ (Array.getElem?_eq_some_iff.1 hg).1⟩

theorem wpList_append_rowed {ops : Array Oper} {rest : List Oper} {op : Oper} {act : Act} {Q : Exit → Act → World → Prop} (hgd : op.guard = none) (s x : Operand) (t : TypeId)
    (ho : op.op = .call { callee := .builtin .append, args := #[s, x], argTypes := #[t, t] })
    (e : TypeId) (i : TypeInfo) (z : Value) (size bytes : Nat) (ht : P.underlying t = some (.slice e)) (hi : P.info? e = some i) (hz : i.zero = some z)
    (hsize : i.size = size) (hby : i.bytes = bytes) (hzs : z.cells.size = size)
    (o : Option Nat) (v : Value) (n : Nat) (xs : List Value) (hs : act.eval s = v) (hown : Rowed w e size o v n xs)
    (ad : Addr) (m c : Nat) (news : List Value) (hx : act.eval x = .slice (some ad) m c) (hl : news.length = m * size) (hnews : ∀ j u, news[j]? = some u → w.cell? (ad.add j) = some u) (h1 : ∀ u ∈ news, u.oneCell' = true) (hm0 : 0 < m)
    (h63 : n + m ≤ maxLen) (hbytes : (n + m) * bytes ≤ 140737488355328)
    (h : ∀ v' w' o', Rowed w' e size o' v' (n + m) (xs ++ news) → w.grownBy w' o → Fresh w w' o o' → wpList P ops Q rest (act.put op.dst v') w') : wpList P ops Q (op :: rest) act w := by
  refine wpList_plain hgd fun _ hK => ?_
  obtain ⟨v', w', o', hr, h2, h3, h4, -⟩ := run_append_rowed (P := P) w t op.type e i z size bytes ht hi hz hsize hby hzs o v n xs hown ad m c news hl hnews h1 hm0 h63 hbytes
  unfold Oper.wp execOp
  simp only [ho, resolve, invoke, builtin, Sem.run_bind, Sem.run_pure, Result.andThen_ok, List.map_toArray, List.map_cons, List.map_nil, hs, hx, hr]
  exact hK _ _ (h v' w' o' h2 h3 h4)
/-- The row less its first element. -/
theorem Rowed.tail {n : Nat} {ad : Addr} {cap : Nat} (h : Rowed w e size o (.slice (some ad) (n + 1) cap) (n + 1) xs) : Rowed w e size o (.slice (if cap = 1 then some ad else some ⟨ad.block, ad.off + size, none⟩) n (cap - 1)) n (xs.drop size) := by
  refine ⟨by rw [List.length_drop, h.1, Nat.add_mul]; omega, ?_⟩
  rcases h.2 with ⟨_, hn0, _⟩ | ⟨g, off, cap', cur, ho, hv, hh, hn, hm, hs, hx⟩
  · omega
  · cases hv
    have hdrop : (List.take (n * size) (cur.toList.drop (off + size))) = xs.drop size := by
      rw [← hx, List.drop_take, List.drop_drop]; congr 1; rw [Nat.add_mul]; omega
    split
    · have hn0 : n = 0 := by omega
      subst hn0
      refine .inr ⟨g, off, cap - 1, cur, ho, rfl, hh, by omega, by omega, ?_, ?_⟩
      · have : (cap - 1) * size ≤ cap * size := Nat.mul_le_mul_right _ (by omega)
        omega
      · rw [← hdrop]; simp
    · refine .inr ⟨g, off + size, cap - 1, cur, ho, rfl, hh, by omega, by omega, ?_, hdrop⟩
      have : cap * size = (cap - 1) * size + size := by rw [← Nat.succ_mul]; congr 1; omega
      omega
end

/-! ### What stays -/
/-- From w to w': the blocks F may have turned, and there may be new ones; F' are those of F and new ones. -/
structure Step (F F' : List Nat) (w w' : World) : Prop where
  os : w'.os = w.os
  tape : w'.tape = w.tape
  output : w'.output = w.output
  size : w.heap.size ≤ w'.heap.size
  block : ∀ k, k < w.heap.size → k ∉ F → w'.heap[k]? = w.heap[k]?
  new : ∀ k, k ∈ F' → k ∈ F ∨ w.heap.size ≤ k
theorem Step.trans {F F' F'' : List Nat} {a b c : World} (h : Step F F' a b) (k : Step F' F'' b c) : Step F F'' a c := by
  have hs := h.size
  refine ⟨k.os.trans h.os, k.tape.trans h.tape, k.output.trans h.output, Nat.le_trans h.size k.size, fun i hi hF => ?_, fun i hi => ?_⟩
  · rw [k.block i (by omega) (fun h' => by rcases h.new i h' with h' | h'; exact hF h'; omega)]
    exact h.block i hi hF
  · rcases k.new i hi with h' | h'
    · exact h.new i h'
    · exact .inr (by omega)
theorem Step.of_below {F : List Nat} {a b : World} (h : Below a.heap.size a b) : Step F F a b :=
  ⟨h.os, h.tape, h.output, h.size, fun k hk _ => h.block k hk, fun _ h => .inl h⟩
theorem Step.below {F F' : List Nat} {a b : World} {B : Nat} (h : Step F F' a b) (hB : B ≤ a.heap.size) (hF : ∀ k ∈ F, B ≤ k) : Below B a b :=
  ⟨h.os, h.tape, h.output, h.size, fun k hk => h.block k (by omega) (fun h' => by have := hF k h'; omega)⟩
theorem Step.far {F F' : List Nat} {a b : World} {B : Nat} (h : Step F F' a b) (hB : B ≤ a.heap.size) (hF : ∀ k ∈ F, B ≤ k) : ∀ k ∈ F', B ≤ k := fun k hk => by
  rcases h.new k hk with h' | h'
  · exact hF k h'
  · omega
theorem Step.not_in {F F' : List Nat} {a b : World} {k : Nat} (h : Step F F' a b) (hk : k < a.heap.size) (hF : k ∉ F) : k ∉ F' := fun h' => by
  rcases h.new k h' with h' | h'
  · exact hF h'
  · omega
theorem Step.cell {F F' : List Nat} {a b : World} (h : Step F F' a b) {p : Addr} (hk : p.block < a.heap.size) (hF : p.block ∉ F) : b.cell? p = a.cell? p := World.cell?_of_block (h.block _ hk hF)
theorem Step.rowed {F F' : List Nat} {a b : World} {e : TypeId} {size n : Nat} {o : Option Nat} {v : Value} {xs : List Value} (h : Step F F' a b) (hr : Rowed a e size o v n xs) (hF : ∀ g, o = some g → g ∉ F) : Rowed b e size o v n xs :=
  hr.kept fun g hg => h.block g (hr.lt hg) (hF g hg)
end Go.Proofs.YtpoegpojlcbfgaaDoor
