/- A cloud in memory: what it holds, which blocks are its own; one part of it written. -/
import Derived.Test.YtpoegpojlcbfgaaDoorB
namespace Go.Proofs.YtpoegpojlcbfgaaDoor
open Go.RowKit

/-- An instance: seven cells. -/
structure In where
  id : ByteArray
  tok : ByteArray
  o : Of
  st : Int
  rd : Int
def In.cells (x : In) : List Value := [.string x.id, .string x.tok, .string x.o.t, .string x.o.z, .string x.o.k, .int .i64 x.st, .int .i64 x.rd]
def strs (l : List ByteArray) : List Value := l.map .string
/-- A cloud's data. -/
structure Cd where
  is : List In
  en : List ByteArray
  sk : List (Of × Int)
  dl : Int
  ns : List ByteArray
  n : Int
/-- The cloud at block p. -/
structure Cl (w : World) (p : Nat) (c : Cd) (be bs : Nat) (oi on : Option Nat) (vi vn : Value) : Prop where
  head : w.heap[p]? = some (.cells #[vi, .map (some be), .iface 53 (.map (some bs)), .int .i64 c.dl, vn, .int .i64 c.n] 57 (0, 0))
  ends : EndMap w be c.en
  stks : StockMap w bs c.sk
  ne : be ≠ bs
  is : Rowed w 41 7 oi vi c.is.length (c.is.flatMap In.cells)
  ns : Rowed w 9 1 on vn c.ns.length (strs c.ns)
/-- Its blocks. -/
def foot (p be bs : Nat) (oi on : Option Nat) : List Nat := p :: be :: bs :: (oi.toList ++ on.toList)
theorem mem_foot {p be bs k : Nat} {oi on : Option Nat} : k ∈ foot p be bs oi on ↔ k = p ∨ k = be ∨ k = bs ∨ oi = some k ∨ on = some k := by
  unfold foot
  rcases oi with _ | a <;> rcases on with _ | b <;> simp [eq_comm]
def Own (w : World) (p : Nat) (c : Cd) (F : List Nat) : Prop := ∃ be bs oi on vi vn, Cl w p c be bs oi on vi vn ∧ F = foot p be bs oi on

theorem Rowed.elem {w : World} {e : TypeId} {size n : Nat} {o : Option Nat} {v : Value} {xs : List Value} (h : Rowed w e size o v n xs) {g : Nat} (hg : o = some g) : ∃ cur, w.heap[g]? = some (.cells cur e (0, 0)) := by
  rcases h.2 with ⟨_, _, rfl⟩ | ⟨g', _, _, cur, ho, _, hh, _⟩
  · cases hg
  · rw [ho] at hg; cases hg
    exact ⟨cur, hh⟩

theorem Rowed.max {w : World} {e : TypeId} {size n : Nat} {o : Option Nat} {v : Value} {xs : List Value} (h : Rowed w e size o v n xs) : n ≤ maxLen := by
  rcases h.2 with ⟨_, rfl, _⟩ | ⟨_, _, cap, _, _, _, _, h1, h2, _⟩
  · exact Nat.zero_le _
  · omega
theorem row_new (w : World) (cs : Array Value) (t : TypeId) : ∀ j u, cs.toList[j]? = some u → (w.alloc (.cells cs t)).cell? ((⟨w.heap.size, 0, none⟩ : Addr).add j) = some u := by
  intro j u hj
  rw [Addr.add_lit, Nat.zero_add, World.cell?_alloc_new]
  simpa using hj
theorem row_at (w : World) (cs : Array Value) (t : TypeId) {B : Nat} (h : B = w.heap.size) : ∀ j u, cs.toList[j]? = some u → (w.alloc (.cells cs t)).cell? ((⟨B, 0, none⟩ : Addr).add j) = some u := by
  subst h; exact row_new w cs t
theorem below_new (w : World) (o : Obj) : Below w.heap.size w (w.alloc o) := (Below.refl _ _).alloc (Nat.le_refl _) _
section
variable {w w' : World} {p be bs : Nat} {c : Cd} {oi on : Option Nat} {vi vn : Value}
theorem Cl.lt (h : Cl w p c be bs oi on vi vn) {k : Nat} (hk : k ∈ foot p be bs oi on) : k < w.heap.size := by
  rcases mem_foot.1 hk with rfl | rfl | rfl | e | e
  · exact (Array.getElem?_eq_some_iff.1 h.head).1
  · exact (Array.getElem?_eq_some_iff.1 h.ends).1
  · exact (Array.getElem?_eq_some_iff.1 h.stks).1
  · exact h.is.lt e
  · exact h.ns.lt e
theorem Cl.ne_pe (h : Cl w p c be bs oi on vi vn) : p ≠ be := fun e => by
  have h1 := h.head; have h2 := h.ends; unfold EndMap at h2; rw [e, h2] at h1; cases h1
theorem Cl.ne_ps (h : Cl w p c be bs oi on vi vn) : p ≠ bs := fun e => by
  have h1 := h.head; have h2 := h.stks; unfold StockMap at h2; rw [e, h2] at h1; cases h1
theorem Cl.ne_i (h : Cl w p c be bs oi on vi vn) {g : Nat} (hg : oi = some g) : g ≠ p ∧ g ≠ be ∧ g ≠ bs ∧ on ≠ some g := by
  obtain ⟨cur, hc⟩ := h.is.elem hg
  refine ⟨?_, ?_, ?_, ?_⟩
  · rintro rfl; have h1 := h.head; rw [hc] at h1; simp at h1
  · rintro rfl; have h1 := h.ends; unfold EndMap at h1; rw [hc] at h1; simp at h1
  · rintro rfl; have h1 := h.stks; unfold StockMap at h1; rw [hc] at h1; simp at h1
  · intro e; obtain ⟨cur', hc'⟩ := h.ns.elem e; rw [hc] at hc'; simp at hc'
theorem Cl.ne_n (h : Cl w p c be bs oi on vi vn) {g : Nat} (hg : on = some g) : g ≠ p ∧ g ≠ be ∧ g ≠ bs ∧ oi ≠ some g := by
  obtain ⟨cur, hc⟩ := h.ns.elem hg
  refine ⟨?_, ?_, ?_, ?_⟩
  · rintro rfl; have h1 := h.head; rw [hc] at h1; simp at h1
  · rintro rfl; have h1 := h.ends; unfold EndMap at h1; rw [hc] at h1; simp at h1
  · rintro rfl; have h1 := h.stks; unfold StockMap at h1; rw [hc] at h1; simp at h1
  · intro e; obtain ⟨cur', hc'⟩ := h.is.elem e; rw [hc] at hc'; simp at hc'
theorem Cl.same (h : Cl w p c be bs oi on vi vn) (hk : ∀ k, k ∈ foot p be bs oi on → w'.heap[k]? = w.heap[k]?) : Cl w' p c be bs oi on vi vn := by
  refine ⟨(hk p (mem_foot.2 (.inl rfl))).trans h.head, (hk be (mem_foot.2 (.inr (.inl rfl)))).trans h.ends, (hk bs (mem_foot.2 (.inr (.inr (.inl rfl))))).trans h.stks, h.ne, h.is.kept fun g hg => hk g (mem_foot.2 (.inr (.inr (.inr (.inl hg))))), h.ns.kept fun g hg => hk g (mem_foot.2 (.inr (.inr (.inr (.inr hg)))))⟩
theorem Cl.below (h : Cl w p c be bs oi on vi vn) (hb : Below w.heap.size w w') : Cl w' p c be bs oi on vi vn := h.same fun k hk => hb.block k (h.lt hk)
theorem Cl.cell (h : Cl w p c be bs oi on vi vn) (j : Nat) : w.cell? ⟨p, j, none⟩ = (#[vi, .map (some be), .iface 53 (.map (some bs)), .int .i64 c.dl, vn, .int .i64 c.n] : Array Value)[j]? := by simp [World.cell?, h.head]
theorem Cl.cells (h : Cl w p c be bs oi on vi vn) : w.cell? ⟨p, 0, none⟩ = some vi ∧ w.cell? ⟨p, 1, none⟩ = some (.map (some be)) ∧ w.cell? ⟨p, 2, none⟩ = some (.iface 53 (.map (some bs))) ∧ w.cell? ⟨p, 3, none⟩ = some (.int .i64 c.dl) ∧ w.cell? ⟨p, 4, none⟩ = some vn ∧ w.cell? ⟨p, 5, none⟩ = some (.int .i64 c.n) :=
  ⟨h.cell 0, h.cell 1, h.cell 2, h.cell 3, h.cell 4, h.cell 5⟩
theorem Cl.free (h : Cl w p c be bs oi on vi vn) (j : Nat) : w.frozen? ⟨p, j, none⟩ = false := by simp [World.frozen?, h.head]
theorem heap_set {w : World} {p j : Nat} {cs : Array Value} {t : TypeId} {f : Nat × Nat} (h : w.heap[p]? = some (.cells cs t f)) (v : Value) : (w.setCell ⟨p, j, none⟩ v).heap[p]? = some (.cells (cs.setIfInBounds j v) t f) := by
  simp [World.setCell, Array.getElem?_modify, h]
theorem size_set (w : World) (a : Addr) (v : Value) : (w.setCell a v).heap.size = w.heap.size := by simp [World.setCell]
theorem step_set {F : List Nat} (w : World) {p j : Nat} (v : Value) (hp : p ∈ F) : Step F F w (w.setCell ⟨p, j, none⟩ v) :=
  ⟨rfl, rfl, rfl, by simp [World.setCell], fun k _ hk => Below.heap_setCell _ _ _ _ (fun e => hk (e ▸ hp)), fun _ h => .inl h⟩

/-- The number of writes. -/
theorem Cl.set_n (h : Cl w p c be bs oi on vi vn) (n : Int) : Cl (w.setCell ⟨p, 5, none⟩ (.int .i64 n)) p { c with n := n } be bs oi on vi vn :=
  ⟨(heap_set h.head _).trans rfl, (Below.heap_setCell _ _ _ _ (Ne.symm h.ne_pe)).trans h.ends, (Below.heap_setCell _ _ _ _ (Ne.symm h.ne_ps)).trans h.stks, h.ne, h.is.kept fun _ hg => Below.heap_setCell _ _ _ _ (h.ne_i hg).1, h.ns.kept fun _ hg => Below.heap_setCell _ _ _ _ (h.ne_n hg).1⟩
theorem Cl.set_dl (h : Cl w p c be bs oi on vi vn) (d : Int) : Cl (w.setCell ⟨p, 3, none⟩ (.int .i64 d)) p { c with dl := d } be bs oi on vi vn :=
  ⟨(heap_set h.head _).trans rfl, (Below.heap_setCell _ _ _ _ (Ne.symm h.ne_pe)).trans h.ends, (Below.heap_setCell _ _ _ _ (Ne.symm h.ne_ps)).trans h.stks, h.ne, h.is.kept fun _ hg => Below.heap_setCell _ _ _ _ (h.ne_i hg).1, h.ns.kept fun _ hg => Below.heap_setCell _ _ _ _ (h.ne_n hg).1⟩
/-- Another list of notices, made out of the old one's block or a new one. -/
theorem Cl.set_ns (h : Cl w p c be bs oi on vi vn) {on' : Option Nat} {vn' : Value} {ns : List ByteArray} (hg : w.grownBy w' on) (hr : Rowed w' 9 1 on' vn' ns.length (strs ns)) (hf : Fresh w w' on on') :
    Cl (w'.setCell ⟨p, 4, none⟩ vn') p { c with ns := ns } be bs oi on' vi vn' ∧ Step (foot p be bs oi on) (foot p be bs oi on') w (w'.setCell ⟨p, 4, none⟩ vn') := by
  have hlt := fun k hk => h.lt (k := k) hk
  have hk : ∀ k, k ∈ foot p be bs oi on → some k ≠ on → w'.heap[k]? = w.heap[k]? := fun k hk hn => hg.block k (h.lt hk) hn
  have hpn : some p ≠ on := fun e => (h.ne_n e.symm).1 rfl
  have hp' := (hk p (mem_foot.2 (.inl rfl)) hpn).trans h.head
  have hne' : ∀ g, on' = some g → g ≠ p := by
    intro g hg' e
    subst e
    obtain ⟨cur, hc⟩ := hr.elem hg'
    rw [hp'] at hc; simp at hc
  refine ⟨⟨(heap_set hp' _).trans rfl, (Below.heap_setCell _ _ _ _ (Ne.symm h.ne_pe)).trans ((hk be (mem_foot.2 (.inr (.inl rfl))) (fun e => (h.ne_n e.symm).2.1 rfl)).trans h.ends), (Below.heap_setCell _ _ _ _ (Ne.symm h.ne_ps)).trans ((hk bs (mem_foot.2 (.inr (.inr (.inl rfl)))) (fun e => (h.ne_n e.symm).2.2.1 rfl)).trans h.stks), h.ne,
    h.is.kept fun g hgi => (Below.heap_setCell _ _ _ _ (h.ne_i hgi).1).trans (hk g (mem_foot.2 (.inr (.inr (.inr (.inl hgi))))) (fun e => (h.ne_i hgi).2.2.2 e.symm)), hr.kept fun g hgn => Below.heap_setCell _ _ _ _ (hne' g hgn)⟩, ?_⟩
  refine ⟨hg.os, hg.tape, hg.output, by rw [size_set]; exact hg.size, fun k hlt hF => ?_, fun k hF => ?_⟩
  · have hkp : k ≠ p := fun e => hF (mem_foot.2 (.inl e))
    exact (Below.heap_setCell _ _ _ _ hkp).trans (hg.block k hlt (fun e => hF (mem_foot.2 (.inr (.inr (.inr (.inr e.symm)))))))
  · rcases mem_foot.1 hF with e | e | e | e | e
    · exact .inl (mem_foot.2 (.inl e))
    · exact .inl (mem_foot.2 (.inr (.inl e)))
    · exact .inl (mem_foot.2 (.inr (.inr (.inl e))))
    · exact .inl (mem_foot.2 (.inr (.inr (.inr (.inl e)))))
    · rcases hf with hf | ⟨g, hf, hgl, _⟩
      · exact .inl (mem_foot.2 (.inr (.inr (.inr (.inr (hf ▸ e))))))
      · rw [hf] at e; cases e
        exact .inr hgl
/-- Other instances. -/
theorem Cl.set_is (h : Cl w p c be bs oi on vi vn) {oi' : Option Nat} {vi' : Value} {is : List In} (hg : w.grownBy w' oi) (hr : Rowed w' 41 7 oi' vi' is.length (is.flatMap In.cells)) (hf : Fresh w w' oi oi') :
    Cl (w'.setCell ⟨p, 0, none⟩ vi') p { c with is := is } be bs oi' on vi' vn ∧ Step (foot p be bs oi on) (foot p be bs oi' on) w (w'.setCell ⟨p, 0, none⟩ vi') := by
  have hk : ∀ k, k ∈ foot p be bs oi on → some k ≠ oi → w'.heap[k]? = w.heap[k]? := fun k hk hn => hg.block k (h.lt hk) hn
  have hpn : some p ≠ oi := fun e => (h.ne_i e.symm).1 rfl
  have hp' := (hk p (mem_foot.2 (.inl rfl)) hpn).trans h.head
  have hne' : ∀ g, oi' = some g → g ≠ p := by
    intro g hg' e
    subst e
    obtain ⟨cur, hc⟩ := hr.elem hg'
    rw [hp'] at hc; simp at hc
  refine ⟨⟨(heap_set hp' _).trans rfl, (Below.heap_setCell _ _ _ _ (Ne.symm h.ne_pe)).trans ((hk be (mem_foot.2 (.inr (.inl rfl))) (fun e => (h.ne_i e.symm).2.1 rfl)).trans h.ends), (Below.heap_setCell _ _ _ _ (Ne.symm h.ne_ps)).trans ((hk bs (mem_foot.2 (.inr (.inr (.inl rfl)))) (fun e => (h.ne_i e.symm).2.2.1 rfl)).trans h.stks), h.ne,
    hr.kept fun g hgn => Below.heap_setCell _ _ _ _ (hne' g hgn), h.ns.kept fun g hgi => (Below.heap_setCell _ _ _ _ (h.ne_n hgi).1).trans (hk g (mem_foot.2 (.inr (.inr (.inr (.inr hgi))))) (fun e => (h.ne_n hgi).2.2.2 e.symm))⟩, ?_⟩
  refine ⟨hg.os, hg.tape, hg.output, by rw [size_set]; exact hg.size, fun k hlt hF => ?_, fun k hF => ?_⟩
  · have hkp : k ≠ p := fun e => hF (mem_foot.2 (.inl e))
    exact (Below.heap_setCell _ _ _ _ hkp).trans (hg.block k hlt (fun e => hF (mem_foot.2 (.inr (.inr (.inr (.inl e.symm)))))))
  · rcases mem_foot.1 hF with e | e | e | e | e
    · exact .inl (mem_foot.2 (.inl e))
    · exact .inl (mem_foot.2 (.inr (.inl e)))
    · exact .inl (mem_foot.2 (.inr (.inr (.inl e))))
    · rcases hf with hf | ⟨g, hf, hgl, _⟩
      · exact .inl (mem_foot.2 (.inr (.inr (.inr (.inl (hf ▸ e))))))
      · rw [hf] at e; cases e
        exact .inr hgl
    · exact .inl (mem_foot.2 (.inr (.inr (.inr (.inr e)))))
theorem put_size (w : World) (r : Nat) (o : Obj) : (w.putObj r o).heap.size = w.heap.size := by simp [World.putObj]
theorem step_put {F : List Nat} (w : World) {r : Nat} (o : Obj) (hp : r ∈ F) : Step F F w (w.putObj r o) :=
  ⟨rfl, rfl, rfl, by rw [put_size]; exact Nat.le_refl _, fun k _ hk => World.putObj_heap_other (fun e => hk (e ▸ hp)), fun _ h => .inl h⟩
/-- One more that has ended. -/
theorem Cl.put_end (h : Cl w p c be bs oi on vi vn) (l : List ByteArray) : Cl (w.putObj be (.map (YtpoegpojlcbfgaaDoor.ends l 0).toArray l.length)) p { c with en := l } be bs oi on vi vn :=
  ⟨(World.putObj_heap_other h.ne_pe).trans h.head, World.putObj_heap_same (h.lt (mem_foot.2 (.inr (.inl rfl)))), (World.putObj_heap_other (Ne.symm h.ne)).trans h.stks, h.ne, h.is.kept fun _ hg => World.putObj_heap_other (h.ne_i hg).2.1, h.ns.kept fun _ hg => World.putObj_heap_other (h.ne_n hg).2.1⟩
/-- Other stocks. -/
theorem Cl.put_stks (h : Cl w p c be bs oi on vi vn) (l : List (Of × Int)) : Cl (w.putObj bs (.map (YtpoegpojlcbfgaaDoor.stks l 0).toArray l.length)) p { c with sk := l } be bs oi on vi vn :=
  ⟨(World.putObj_heap_other h.ne_ps).trans h.head, (World.putObj_heap_other h.ne).trans h.ends, World.putObj_heap_same (h.lt (mem_foot.2 (.inr (.inr (.inl rfl))))), h.ne, h.is.kept fun _ hg => World.putObj_heap_other (h.ne_i hg).2.2.1, h.ns.kept fun _ hg => World.putObj_heap_other (h.ne_n hg).2.2.1⟩
end
theorem Own.below {w w' : World} {p : Nat} {c : Cd} {F : List Nat} (h : Own w p c F) (hb : Below w.heap.size w w') : Own w' p c F := by
  obtain ⟨be, bs, oi, on, vi, vn, h, rfl⟩ := h
  exact ⟨be, bs, oi, on, vi, vn, h.below hb, rfl⟩
theorem Own.lt {w : World} {p : Nat} {c : Cd} {F : List Nat} (h : Own w p c F) : ∀ k ∈ F, k < w.heap.size := by
  obtain ⟨be, bs, oi, on, vi, vn, h, rfl⟩ := h
  exact fun k hk => h.lt hk
/-- Other blocks have turned. -/
theorem Own.other {w w' : World} {p : Nat} {c : Cd} {F G G' : List Nat} (h : Own w p c F) (hs : Step G G' w w') (hd : ∀ k ∈ F, k ∉ G) : Own w' p c F := by
  obtain ⟨be, bs, oi, on, vi, vn, h, rfl⟩ := h
  exact ⟨be, bs, oi, on, vi, vn, h.same fun k hk => hs.block k (h.lt hk) (hd k hk), rfl⟩
end Go.Proofs.YtpoegpojlcbfgaaDoor
