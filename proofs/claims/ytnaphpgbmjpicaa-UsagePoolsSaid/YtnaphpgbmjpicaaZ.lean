/- An append of whatever slice onto a row of one's own; lists of numbers opened; what a bound on the bulk gives. -/
import Derived.Test.YtnaphpgbmjpicaaX
import Derived.Test.YtnaphpgbmjpicaaY
import Derived.Laws.AppendOwnNone
import Derived.Deep.CondSized
namespace Go.Proofs.Ytnaphpgbmjpicaa
open Go.ChangeShapes Go.WideShapes Go.ChangeAt Go.RowKit

theorem wpList_append_all {P : Program} {w : World} {ops : Array Oper} {rest : List Oper} {o : Oper} {a : Act} {Q : Exit → Act → World → Prop} (hgd : o.guard = none) (s x : Operand) (t : TypeId)
    (ho : o.op = .call { callee := .builtin .append, args := #[s, x], argTypes := #[t, t] })
    (base : Nat) (e : TypeId) (i : TypeInfo) (z : Value) (size bytes : Nat) (ht : P.underlying t = some (.slice e)) (hi : P.info? e = some i) (hz : i.zero = some z)
    (hsize : i.size = size) (hby : i.bytes = bytes) (hzs : z.cells.size = size) (hsz : 0 < size)
    (v : Value) (n : Nat) (xs : List Value) (hs : a.eval s = v) (hown : w.ownsRow base e size v n xs)
    (ao : Option Addr) (m c : Nat) (news : List Value) (hx : a.eval x = .slice ao m c) (hn : ao = none → m = 0 ∧ c = 0) (hl : news.length = m * size) (hnews : ∀ ad, ao = some ad → ∀ j u, news[j]? = some u → w.cell? (ad.add j) = some u) (h1 : ∀ u ∈ news, u.oneCell' = true)
    (h63 : n + m ≤ maxLen) (hbytes : (n + m) * bytes ≤ 140737488355328) (hbase : base ≤ w.heap.size)
    (h : ∀ v' w', w'.ownsRow base e size v' (n + m) (xs ++ news) → w.grownBy w' v.ownBlock → wpList P ops Q rest (a.put o.dst v') w') :
    wpList P ops Q (o :: rest) a w := by
  cases ao with
  | none =>
    obtain ⟨rfl, rfl⟩ := hn rfl
    obtain rfl : news = [] := by cases news <;> simp_all
    refine wpList_append_own_none hgd s x t ho base e i size ht hi v n xs hs hown hx ?_
    exact h v w (by simpa using hown) ⟨rfl, rfl, rfl, Nat.le_refl _, fun _ _ _ => rfl⟩
  | some ad =>
    exact wpList_append_own w hgd s x t ho base e i z size bytes ht hi hz hsize hby hzs hsz v n xs hs hown ad m c news hx hl (hnews ad rfl) h1 h63 hbytes hbase (fun v' w' k1 k2 _ => h v' w' k1 k2)

theorem Am.below {w w' : World} {a : Option Addr} {ps : List (Int × Int)} (h : Am w a ps) (hb : Below w.heap.size w w') : Am w' a ps := fun i hi => by
  obtain ⟨b, off, e, l, c0, c1⟩ := h i hi
  exact ⟨b, off, e, by have := hb.size; omega, (hb.cell (p := ⟨b, _, none⟩) l).trans c0, (hb.cell (p := ⟨b, _, none⟩) l).trans c1⟩
theorem Nm.below {w w' : World} {a : Option Addr} {ns : List Int} (h : Nm w a ns) (hb : Below w.heap.size w w') : Nm w' a ns := fun i hi => by
  obtain ⟨b, off, e, l, c0⟩ := h i hi
  exact ⟨b, off, e, by have := hb.size; omega, (hb.cell (p := ⟨b, _, none⟩) l).trans c0⟩

theorem one2 (ps : List (Int × Int)) : ∀ u ∈ pairCells ps, u.oneCell' = true := by
  intro u hu
  simp only [pairCells, List.mem_flatMap] at hu
  obtain ⟨p, _, hp⟩ := hu
  simp at hp
  rcases hp with rfl | rfl <;> rfl
theorem am_news {w : World} {a : Option Addr} {ps : List (Int × Int)} (h : Am w a ps) : ∀ ad, a = some ad → ∀ j u, (pairCells ps)[j]? = some u → w.cell? (ad.add j) = some u := by
  rintro ad rfl j u hj
  have hlt : j < ps.length * 2 := by rw [← pairCells_length]; exact (List.getElem?_eq_some_iff.1 hj).1
  obtain ⟨b, off, e, l, c0, c1⟩ := h (j / 2) (by omega)
  cases e
  obtain ⟨h0, h1⟩ := pairCells_at ps (j / 2) (by omega)
  have hadd : (⟨b, off, none⟩ : Addr).add j = ⟨b, off + j, none⟩ := by unfold Addr.add; split <;> simp_all
  rw [hadd]
  rcases (by omega : j = j / 2 * 2 ∨ j = j / 2 * 2 + 1) with q | q
  · rw [← q] at h0 c0; rw [c0, ← h0, hj]
  · rw [← q] at h1; rw [show off + j = off + j / 2 * 2 + 1 by omega, c1, ← h1, hj]

def numCells (ns : List Int) : List Value := ns.map fun n => .int .i64 n
theorem one1 (ns : List Int) : ∀ u ∈ numCells ns, u.oneCell' = true := by
  intro u hu
  simp only [numCells, List.mem_map] at hu
  obtain ⟨p, _, rfl⟩ := hu
  rfl
theorem nm_news {w : World} {a : Option Addr} {ns : List Int} (h : Nm w a ns) : ∀ ad, a = some ad → ∀ j u, (numCells ns)[j]? = some u → w.cell? (ad.add j) = some u := by
  rintro ad rfl j u hj
  have hlt : j < ns.length := by have := (List.getElem?_eq_some_iff.1 hj).1; simpa [numCells] using this
  obtain ⟨b, off, e, l, c0⟩ := h j hlt
  cases e
  have hadd : (⟨b, off, none⟩ : Addr).add j = ⟨b, off + j, none⟩ := by unfold Addr.add; split <;> simp_all
  rw [hadd, c0, ← hj]
  simp [numCells, List.getD, hlt]
theorem own_nm {w : World} {base : Nat} {v : Value} {ns : List Int} (h : w.ownsRow base 2 1 v ns.length (numCells ns)) : ∃ a cap, v = .slice a ns.length cap ∧ Nm w a ns := by
  rcases h.2 with ⟨hv, hn⟩ | ⟨g, cap, cur, hv, hb, hg, hle, hm, hs, ht⟩
  · exact ⟨none, 0, by rw [hv, hn], fun i hi => by omega⟩
  · refine ⟨some ⟨g, 0, none⟩, cap, hv, fun i hi => ⟨g, 0, rfl, (Array.getElem?_eq_some_iff.1 hg).1, ?_⟩⟩
    subst hv
    have c := World.ownsRow.cellAt h i (by omega)
    rw [Nat.zero_add, c]
    simp [numCells, List.getD, hi]

theorem info2 : (Try.prog.info? 2).map (fun i => (i.zero, i.size, i.bytes)) = some (some (.int .i64 0), 1, 8) := by kernel_rfl

section
variable {H : Type} {enc : TypeId × Value → H} {w : World} {base : Nat} {spare : Nat → Bool} {held : Bool}
theorem nil_slice {t e : TypeId} {len cap : Nat} {d : DataW H} {p : List MemPlace} (ht : Try.prog.underlying t = some (.slice e)) (h : DataW.Trod enc Try.prog w base spare held t (.slice none len cap) d p) : len = 0 ∧ cap = 0 := by
  obtain ⟨fuel, hf⟩ := h
  rcases Go.Deep.open_slice ht hf with ⟨hcs, _⟩ | ⟨a', len', cap', m, n, D, Pl, hcs, _⟩
  · cases hcs; exact ⟨rfl, rfl⟩
  · cases hcs
theorem open32 {a : Option Addr} {len cap : Nat} {d : DataW H} {p : List MemPlace} (h : DataW.Trod enc Try.prog w base spare held 32 (.slice a len cap) d p) :
    ∃ ns : List Int, len = ns.length ∧ Nm w a ns ∧ (len = 0 ∨ ∃ es sp, d = .slice es sp ∧ es.length = len) := by
  obtain ⟨fuel, hf⟩ := h
  rcases Go.Deep.open_slice1 Try.underlying32 cells2 hf with ⟨hcs, _⟩ | ⟨a', len', cap', m, n, V, D, Pl, hcs, _, hle, _, hm, hx, hi⟩
  · cases hcs
    exact ⟨[], rfl, fun i h => by simp at h, Or.inl rfl⟩
  · cases hcs
    have hlm : len ≤ m := by rw [hm]; split <;> omega
    have key : ∀ i, i < len → ∃ x : Int, w.cell? (a'.add i) = some (.int .i64 x) := by
      intro i h
      obtain ⟨h1, h2⟩ := hi i (by omega)
      obtain ⟨x, e, _, _⟩ := DataW.trod_int Try.underlying2 h2
      simp at e
      exact ⟨x, by rw [h1, e]⟩
    have key' : ∃ f : Nat → Int, ∀ i, i < len → w.cell? (a'.add i) = some (.int .i64 (f i)) := by
      refine ⟨fun i => if h : i < len then (key i h).choose else 0, fun i h => ?_⟩
      simp only [dif_pos h]
      exact (key i h).choose_spec
    obtain ⟨f, hf'⟩ := key'
    refine ⟨(List.range len).map f, by simp, ?_, Or.inr ⟨_, _, congrArg Prod.fst hx, by simp⟩⟩
    intro i h
    have h' : i < len := by simpa using h
    have c0 := hf' i h'
    have e : ((List.range len).map f).getD i 0 = f i := by simp [List.getD, h']
    rw [e]
    have s0 : a'.spot = none := by
      have z0 := hf' 0 (by omega)
      exact (spot_none (by simpa [Addr.add] using z0)).1
    obtain ⟨b, off, spot⟩ := a'
    dsimp only at s0
    subst s0
    refine ⟨b, off, rfl, ?_, ?_⟩
    · have := (spot_none c0).2
      unfold Addr.add at this
      split at this <;> exact this
    · rw [← c0]
      unfold Addr.add
      split
      · rename_i z; simp [z]
      · rfl
end

theorem bulk_len {H : Type} (l : List (DataW H)) : l.length ≤ Rows.uptoBulkAll l := by
  induction l with
  | nil => simp [Rows.uptoBulkAll]
  | cons x r ih =>
    have : 1 ≤ Rows.uptoBulk x := by
      cases x with
      | lit l => cases l <;> simp [Rows.uptoBulk]
      | nil => simp [Rows.uptoBulk]
      | ptr d => simp [Rows.uptoBulk]
      | slice elems spare => simp [Rows.uptoBulk]
      | agg parts => simp [Rows.uptoBulk]
      | iface t d => simp [Rows.uptoBulk]
      | map entries => simp [Rows.uptoBulk]
      | held h => simp [Rows.uptoBulk]
    simp only [Rows.uptoBulkAll, List.length_cons]; omega
theorem small_two {H : Type} {d e : DataW H} {n m : Nat} (hk : Rows.uptoSmall H [d, e] = true) (hn : n = 0 ∨ ∃ es sp, d = .slice es sp ∧ es.length = n) (hm : m = 0 ∨ ∃ es sp, e = .slice es sp ∧ es.length = m) : n ≤ 1048576 ∧ m ≤ 1048576 := by
  have h : Rows.uptoBulkAll [d, e] ≤ 1048576 := of_decide_eq_true hk
  simp only [Rows.uptoBulkAll] at h
  refine ⟨?_, ?_⟩
  · rcases hn with rfl | ⟨es, sp, rfl, rfl⟩
    · omega
    · have := bulk_len es
      simp only [Rows.uptoBulk] at h
      omega
  · rcases hm with rfl | ⟨es, sp, rfl, rfl⟩
    · omega
    · have := bulk_len es
      simp only [Rows.uptoBulk] at h
      omega

end Go.Proofs.Ytnaphpgbmjpicaa
