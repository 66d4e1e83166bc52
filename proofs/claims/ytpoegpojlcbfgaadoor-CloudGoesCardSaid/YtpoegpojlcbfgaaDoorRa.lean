/- The reference's cloud in memory, and its small methods. -/
import Derived.Test.YtpoegpojlcbfgaaDoorF
namespace Go.Proofs.YtpoegpojlcbfgaaDoor
open Go.RowKit

/-- A stock: four cells. -/
def stCells (x : Of × Int) : List Value := [.string x.1.t, .string x.1.z, .string x.1.k, .int .i64 x.2]
/-- An instance as the reference keeps it: Ended, or nought. -/
def mark (en : List ByteArray) (x : In) : In := { x with st := if has en x.id then 3 else 0 }
/-- The reference's cloud at block p: the same data. -/
structure Rl (w : World) (p : Nat) (c : Cd) (oi os on : Option Nat) (vi vs vn : Value) : Prop where
  head : w.heap[p]? = some (.cells #[vi, vs, .int .i64 c.dl, vn, .int .i64 c.n] 66 (0, 0))
  is : Rowed w 41 7 oi vi c.is.length ((c.is.map (mark c.en)).flatMap In.cells)
  sk : Rowed w 68 4 os vs c.sk.length (c.sk.flatMap stCells)
  ns : Rowed w 9 1 on vn c.ns.length (strs c.ns)
def rfoot (p : Nat) (oi os on : Option Nat) : List Nat := p :: (oi.toList ++ (os.toList ++ on.toList))
theorem mem_rfoot {p k : Nat} {oi os on : Option Nat} : k ∈ rfoot p oi os on ↔ k = p ∨ oi = some k ∨ os = some k ∨ on = some k := by
  unfold rfoot
  rcases oi with _ | a <;> rcases os with _ | b <;> rcases on with _ | d <;> simp [eq_comm]
def Rown (w : World) (p : Nat) (c : Cd) (F : List Nat) : Prop := ∃ oi os on vi vs vn, Rl w p c oi os on vi vs vn ∧ F = rfoot p oi os on

section
variable {w w' : World} {p : Nat} {c : Cd} {oi os on : Option Nat} {vi vs vn : Value}
theorem Rl.lt (h : Rl w p c oi os on vi vs vn) {k : Nat} (hk : k ∈ rfoot p oi os on) : k < w.heap.size := by
  rcases mem_rfoot.1 hk with rfl | e | e | e
  · exact (Array.getElem?_eq_some_iff.1 h.head).1
  · exact h.is.lt e
  · exact h.sk.lt e
  · exact h.ns.lt e
theorem Rl.ne_i (h : Rl w p c oi os on vi vs vn) {g : Nat} (hg : oi = some g) : g ≠ p ∧ os ≠ some g ∧ on ≠ some g := by
  obtain ⟨cur, hc⟩ := h.is.elem hg
  refine ⟨?_, ?_, ?_⟩
  · rintro rfl; have h1 := h.head; rw [hc] at h1; simp at h1
  · intro e; obtain ⟨cur', hc'⟩ := h.sk.elem e; rw [hc] at hc'; simp at hc'
  · intro e; obtain ⟨cur', hc'⟩ := h.ns.elem e; rw [hc] at hc'; simp at hc'
theorem Rl.ne_s (h : Rl w p c oi os on vi vs vn) {g : Nat} (hg : os = some g) : g ≠ p ∧ oi ≠ some g ∧ on ≠ some g := by
  obtain ⟨cur, hc⟩ := h.sk.elem hg
  refine ⟨?_, fun e => (h.ne_i e).2.1 hg, ?_⟩
  · rintro rfl; have h1 := h.head; rw [hc] at h1; simp at h1
  · intro e; obtain ⟨cur', hc'⟩ := h.ns.elem e; rw [hc] at hc'; simp at hc'
theorem Rl.ne_n (h : Rl w p c oi os on vi vs vn) {g : Nat} (hg : on = some g) : g ≠ p ∧ oi ≠ some g ∧ os ≠ some g := by
  obtain ⟨cur, hc⟩ := h.ns.elem hg
  refine ⟨?_, fun e => (h.ne_i e).2.2 hg, fun e => (h.ne_s e).2.2 hg⟩
  rintro rfl; have h1 := h.head; rw [hc] at h1; simp at h1
theorem Rl.same (h : Rl w p c oi os on vi vs vn) (hk : ∀ k, k ∈ rfoot p oi os on → w'.heap[k]? = w.heap[k]?) : Rl w' p c oi os on vi vs vn :=
  ⟨(hk p (mem_rfoot.2 (.inl rfl))).trans h.head, h.is.kept fun g hg => hk g (mem_rfoot.2 (.inr (.inl hg))), h.sk.kept fun g hg => hk g (mem_rfoot.2 (.inr (.inr (.inl hg)))), h.ns.kept fun g hg => hk g (mem_rfoot.2 (.inr (.inr (.inr hg))))⟩
theorem Rl.below (h : Rl w p c oi os on vi vs vn) (hb : Below w.heap.size w w') : Rl w' p c oi os on vi vs vn := h.same fun k hk => hb.block k (h.lt hk)
theorem Rl.cell (h : Rl w p c oi os on vi vs vn) (j : Nat) : w.cell? ⟨p, j, none⟩ = (#[vi, vs, .int .i64 c.dl, vn, .int .i64 c.n] : Array Value)[j]? := by simp [World.cell?, h.head]
theorem Rl.cells (h : Rl w p c oi os on vi vs vn) : w.cell? ⟨p, 0, none⟩ = some vi ∧ w.cell? ⟨p, 1, none⟩ = some vs ∧ w.cell? ⟨p, 2, none⟩ = some (.int .i64 c.dl) ∧ w.cell? ⟨p, 3, none⟩ = some vn ∧ w.cell? ⟨p, 4, none⟩ = some (.int .i64 c.n) :=
  ⟨h.cell 0, h.cell 1, h.cell 2, h.cell 3, h.cell 4⟩
theorem Rl.free (h : Rl w p c oi os on vi vs vn) (j : Nat) : w.frozen? ⟨p, j, none⟩ = false := by simp [World.frozen?, h.head]
theorem Rl.set_n (h : Rl w p c oi os on vi vs vn) (n : Int) : Rl (w.setCell ⟨p, 4, none⟩ (.int .i64 n)) p { c with n := n } oi os on vi vs vn :=
  ⟨(heap_set h.head _).trans rfl, h.is.kept fun _ hg => Below.heap_setCell _ _ _ _ (h.ne_i hg).1, h.sk.kept fun _ hg => Below.heap_setCell _ _ _ _ (h.ne_s hg).1, h.ns.kept fun _ hg => Below.heap_setCell _ _ _ _ (h.ne_n hg).1⟩
theorem Rl.set_dl (h : Rl w p c oi os on vi vs vn) (d : Int) : Rl (w.setCell ⟨p, 2, none⟩ (.int .i64 d)) p { c with dl := d } oi os on vi vs vn :=
  ⟨(heap_set h.head _).trans rfl, h.is.kept fun _ hg => Below.heap_setCell _ _ _ _ (h.ne_i hg).1, h.sk.kept fun _ hg => Below.heap_setCell _ _ _ _ (h.ne_s hg).1, h.ns.kept fun _ hg => Below.heap_setCell _ _ _ _ (h.ne_n hg).1⟩
/-- Another list of notices. -/
theorem Rl.set_ns (h : Rl w p c oi os on vi vs vn) {on' : Option Nat} {vn' : Value} {ns : List ByteArray} (hg : w.grownBy w' on) (hr : Rowed w' 9 1 on' vn' ns.length (strs ns)) (hf : Fresh w w' on on') :
    Rl (w'.setCell ⟨p, 3, none⟩ vn') p { c with ns := ns } oi os on' vi vs vn' ∧ Step (rfoot p oi os on) (rfoot p oi os on') w (w'.setCell ⟨p, 3, none⟩ vn') := by
  have hk : ∀ k, k ∈ rfoot p oi os on → some k ≠ on → w'.heap[k]? = w.heap[k]? := fun k hk hn => hg.block k (h.lt hk) hn
  have hp' := (hk p (mem_rfoot.2 (.inl rfl)) (fun e => (h.ne_n e.symm).1 rfl)).trans h.head
  have hne' : ∀ g, on' = some g → g ≠ p := by
    intro g hg' e
    subst e
    obtain ⟨cur, hc⟩ := hr.elem hg'
    rw [hp'] at hc; simp at hc
  refine ⟨⟨(heap_set hp' _).trans rfl, h.is.kept fun g hgi => (Below.heap_setCell _ _ _ _ (h.ne_i hgi).1).trans (hk g (mem_rfoot.2 (.inr (.inl hgi))) (fun e => (h.ne_i hgi).2.2 e.symm)), h.sk.kept fun g hgi => (Below.heap_setCell _ _ _ _ (h.ne_s hgi).1).trans (hk g (mem_rfoot.2 (.inr (.inr (.inl hgi)))) (fun e => (h.ne_s hgi).2.2 e.symm)),
    hr.kept fun g hgn => Below.heap_setCell _ _ _ _ (hne' g hgn)⟩, ?_⟩
  refine ⟨hg.os, hg.tape, hg.output, by rw [size_set]; exact hg.size, fun k hlt hF => ?_, fun k hF => ?_⟩
  · have hkp : k ≠ p := fun e => hF (mem_rfoot.2 (.inl e))
    exact (Below.heap_setCell _ _ _ _ hkp).trans (hg.block k hlt (fun e => hF (mem_rfoot.2 (.inr (.inr (.inr e.symm))))))
  · rcases mem_rfoot.1 hF with e | e | e | e
    · exact .inl (mem_rfoot.2 (.inl e))
    · exact .inl (mem_rfoot.2 (.inr (.inl e)))
    · exact .inl (mem_rfoot.2 (.inr (.inr (.inl e))))
    · rcases hf with hf | ⟨g, hf, hgl, _⟩
      · exact .inl (mem_rfoot.2 (.inr (.inr (.inr (hf ▸ e)))))
      · rw [hf] at e; cases e
        exact .inr hgl
/-- Other instances, as they are marked. -/
theorem Rl.set_is (h : Rl w p c oi os on vi vs vn) {oi' : Option Nat} {vi' : Value} {is : List In} (hg : w.grownBy w' oi) (hr : Rowed w' 41 7 oi' vi' is.length ((is.map (mark c.en)).flatMap In.cells)) (hf : Fresh w w' oi oi') :
    Rl (w'.setCell ⟨p, 0, none⟩ vi') p { c with is := is } oi' os on vi' vs vn ∧ Step (rfoot p oi os on) (rfoot p oi' os on) w (w'.setCell ⟨p, 0, none⟩ vi') := by
  have hk : ∀ k, k ∈ rfoot p oi os on → some k ≠ oi → w'.heap[k]? = w.heap[k]? := fun k hk hn => hg.block k (h.lt hk) hn
  have hp' := (hk p (mem_rfoot.2 (.inl rfl)) (fun e => (h.ne_i e.symm).1 rfl)).trans h.head
  have hne' : ∀ g, oi' = some g → g ≠ p := by
    intro g hg' e
    subst e
    obtain ⟨cur, hc⟩ := hr.elem hg'
    rw [hp'] at hc; simp at hc
  refine ⟨⟨(heap_set hp' _).trans rfl, hr.kept fun g hgn => Below.heap_setCell _ _ _ _ (hne' g hgn), h.sk.kept fun g hgi => (Below.heap_setCell _ _ _ _ (h.ne_s hgi).1).trans (hk g (mem_rfoot.2 (.inr (.inr (.inl hgi)))) (fun e => (h.ne_s hgi).2.1 e.symm)),
    h.ns.kept fun g hgi => (Below.heap_setCell _ _ _ _ (h.ne_n hgi).1).trans (hk g (mem_rfoot.2 (.inr (.inr (.inr hgi)))) (fun e => (h.ne_n hgi).2.1 e.symm))⟩, ?_⟩
  refine ⟨hg.os, hg.tape, hg.output, by rw [size_set]; exact hg.size, fun k hlt hF => ?_, fun k hF => ?_⟩
  · have hkp : k ≠ p := fun e => hF (mem_rfoot.2 (.inl e))
    exact (Below.heap_setCell _ _ _ _ hkp).trans (hg.block k hlt (fun e => hF (mem_rfoot.2 (.inr (.inl e.symm)))))
  · rcases mem_rfoot.1 hF with e | e | e | e
    · exact .inl (mem_rfoot.2 (.inl e))
    · rcases hf with hf | ⟨g, hf, hgl, _⟩
      · exact .inl (mem_rfoot.2 (.inr (.inl (hf ▸ e))))
      · rw [hf] at e; cases e
        exact .inr hgl
    · exact .inl (mem_rfoot.2 (.inr (.inr (.inl e))))
    · exact .inl (mem_rfoot.2 (.inr (.inr (.inr e))))
/-- Other stocks, laid behind the old ones. -/
theorem Rl.set_sk (h : Rl w p c oi os on vi vs vn) {os' : Option Nat} {vs' : Value} {sk : List (Of × Int)} (hg : w.grownBy w' os) (hr : Rowed w' 68 4 os' vs' sk.length (sk.flatMap stCells)) (hf : Fresh w w' os os') :
    Rl (w'.setCell ⟨p, 1, none⟩ vs') p { c with sk := sk } oi os' on vi vs' vn ∧ Step (rfoot p oi os on) (rfoot p oi os' on) w (w'.setCell ⟨p, 1, none⟩ vs') := by
  have hk : ∀ k, k ∈ rfoot p oi os on → some k ≠ os → w'.heap[k]? = w.heap[k]? := fun k hk hn => hg.block k (h.lt hk) hn
  have hp' := (hk p (mem_rfoot.2 (.inl rfl)) (fun e => (h.ne_s e.symm).1 rfl)).trans h.head
  have hne' : ∀ g, os' = some g → g ≠ p := by
    intro g hg' e
    subst e
    obtain ⟨cur, hc⟩ := hr.elem hg'
    rw [hp'] at hc; simp at hc
  refine ⟨⟨(heap_set hp' _).trans rfl, h.is.kept fun g hgi => (Below.heap_setCell _ _ _ _ (h.ne_i hgi).1).trans (hk g (mem_rfoot.2 (.inr (.inl hgi))) (fun e => (h.ne_i hgi).2.1 e.symm)), hr.kept fun g hgn => Below.heap_setCell _ _ _ _ (hne' g hgn),
    h.ns.kept fun g hgi => (Below.heap_setCell _ _ _ _ (h.ne_n hgi).1).trans (hk g (mem_rfoot.2 (.inr (.inr (.inr hgi)))) (fun e => (h.ne_n hgi).2.2 e.symm))⟩, ?_⟩
  refine ⟨hg.os, hg.tape, hg.output, by rw [size_set]; exact hg.size, fun k hlt hF => ?_, fun k hF => ?_⟩
  · have hkp : k ≠ p := fun e => hF (mem_rfoot.2 (.inl e))
    exact (Below.heap_setCell _ _ _ _ hkp).trans (hg.block k hlt (fun e => hF (mem_rfoot.2 (.inr (.inr (.inl e.symm))))))
  · rcases mem_rfoot.1 hF with e | e | e | e
    · exact .inl (mem_rfoot.2 (.inl e))
    · exact .inl (mem_rfoot.2 (.inr (.inl e)))
    · rcases hf with hf | ⟨g, hf, hgl, _⟩
      · exact .inl (mem_rfoot.2 (.inr (.inr (.inl (hf ▸ e)))))
      · rw [hf] at e; cases e
        exact .inr hgl
    · exact .inl (mem_rfoot.2 (.inr (.inr (.inr e))))
end
theorem Rown.below {w w' : World} {p : Nat} {c : Cd} {F : List Nat} (h : Rown w p c F) (hb : Below w.heap.size w w') : Rown w' p c F := by
  obtain ⟨oi, os, on, vi, vs, vn, h, rfl⟩ := h
  exact ⟨oi, os, on, vi, vs, vn, h.below hb, rfl⟩
theorem Rown.lt {w : World} {p : Nat} {c : Cd} {F : List Nat} (h : Rown w p c F) : ∀ k ∈ F, k < w.heap.size := by
  obtain ⟨oi, os, on, vi, vs, vn, h, rfl⟩ := h
  exact fun k hk => h.lt hk
theorem Rown.other {w w' : World} {p : Nat} {c : Cd} {F G G' : List Nat} (h : Rown w p c F) (hs : Step G G' w w') (hd : ∀ k ∈ F, k ∉ G) : Rown w' p c F := by
  obtain ⟨oi, os, on, vi, vs, vn, h, rfl⟩ := h
  exact ⟨oi, os, on, vi, vs, vn, h.same fun k hk => hs.block k (h.lt hk) (hd k hk), rfl⟩
end Go.Proofs.YtpoegpojlcbfgaaDoor
