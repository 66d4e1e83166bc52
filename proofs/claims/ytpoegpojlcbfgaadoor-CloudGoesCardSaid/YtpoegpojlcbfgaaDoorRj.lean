/- A region that draws and writes nothing; the cloud's Clone. -/
import Derived.Test.YtpoegpojlcbfgaaDoorRi
import Derived.Test.YtpoegpojlcbfgaaDoorR2
namespace Go.RegRel
open Go Go.RowKit
section
variable {P : Program} {l : List Oper} {a0 : Act} {Q : Exit → Act → World → Prop}
/-- The region's rule where no operation writes into what there is: entries need only be stable. -/
theorem wp_region_still {id : Nat} {w : World} (n : Nat) (hm : P.follows .mixedOrders = true) (hB : relB l.toArray n = true) (El : List Ent) (hst : ∀ e ∈ El, Stable e.p) (hlen : El.length = n) (hL : localB l.toArray El 0 = true)
    (hop : OpsOk P l.toArray (ent El) (fun w' => Below w.heap.size w w') (fun _ w1 w2 => Below w1.heap.size w1 w2) (fun u => puts (l.take n) 0 u a0) (l.take n) 0)
    (hend : ∀ u w', Below w.heap.size w w' → allV u w' El 0 → wpList P l.toArray Q (l.drop n) (puts (l.take n) 0 u a0) w') : (Code.region id l.toArray true).wp P Q a0 w := by
  refine wp_region_rel n hm hB (ent El) (fun w' => Below w.heap.size w w') (fun _ w1 w2 => Below w1.heap.size w1 w2) ?_ (Below.refl _ _).drew (fun i w' _ => Below.refl _ _) (fun i w1 w2 h h' => h.trans (h'.mono h.size)) (fun i j u w1 w2 hi hj hij hc hs hv => ?_) hop
    (fun u w' hc hv => hend u w' hc (allV_of fun j e hj => ?_))
  · intro j hj u u' w1 hk hv
    unfold ent at *
    cases he : El[j]? with
    | none => trivial
    | some e =>
      simp only [he] at hv ⊢
      have h1 : u j = u' j := hk j (.inl rfl)
      have h2 : u (e.d.getD j) = u' (e.d.getD j) := by
        cases hd : e.d with
        | none => simpa using h1
        | some d =>
          have := localB_at hL he d hd
          rw [Nat.zero_add] at this
          exact hk d this
      rw [← h1, ← h2]; exact hv
  · unfold ent at *
    cases he : El[j]? with
    | none => trivial
    | some e =>
      simp only [he] at hv ⊢
      exact hst e (List.mem_of_getElem? he) _ _ _ _ hs hv
  · have := hv j (by rw [← hlen]; exact (List.getElem?_eq_some_iff.1 hj).1)
    unfold ent at this
    rw [hj] at this
    rw [Nat.zero_add]; exact this
end
end Go.RegRel
namespace Go.Proofs.YtpoegpojlcbfgaaDoor
open Go.RowKit
theorem method_clone (b : Nat) (w : World) : (method 212 53 (.map (some b)) "sutler/cloud.clone").run Tryd.prog w = .ok (70, .map (some b)) w := by kernel_rfl
attribute [local go_sem] RegRel.relUpon RegRel.opOk method_clone

/-- A row of the region's own. -/
def rowEnt (B : Nat) (e : TypeId) (size n : Nat) (xs : List Value) : RegRel.Ent := ⟨none, fun v _ w => ∃ o, Rowed w e size o v n xs ∧ ∀ g, o = some g → B ≤ g⟩
/-- A map of the region's own. -/
def mapEnt (B : Nat) (es : Array MapEntry) (clock : Nat) : RegRel.Ent := ⟨none, fun v _ w => ∃ g, v = .map (some g) ∧ w.heap[g]? = some (.map es clock) ∧ B ≤ g⟩
/-- Another one, in an interface. -/
def mapEnt2 (B d : Nat) (es : Array MapEntry) (clock : Nat) : RegRel.Ent := ⟨some d, fun v v' w => ∃ g, v = .iface 53 (.map (some g)) ∧ w.heap[g]? = some (.map es clock) ∧ B ≤ g ∧ v' ≠ .map (some g)⟩
theorem heap_lt {w : World} {g : Nat} {o : Obj} (h : w.heap[g]? = some o) : g < w.heap.size := (Array.getElem?_eq_some_iff.1 h).1
theorem stable_row (B : Nat) (e : TypeId) (size n : Nat) (xs : List Value) : RegRel.Stable (rowEnt B e size n xs).p := by
  rintro v v' w w' hb ⟨o, h, hf⟩
  exact ⟨o, h.below hb, hf⟩
theorem stable_map (B : Nat) (es : Array MapEntry) (clock : Nat) : RegRel.Stable (mapEnt B es clock).p := by
  rintro v v' w w' hb ⟨g, h, hg, hB⟩
  exact ⟨g, h, (hb.block g (heap_lt hg)).trans hg, hB⟩
theorem stable_map2 (B d : Nat) (es : Array MapEntry) (clock : Nat) : RegRel.Stable (mapEnt2 B d es clock).p := by
  rintro v v' w w' hb ⟨g, h, hg, hB, hn⟩
  exact ⟨g, h, (hb.block g (heap_lt hg)).trans hg, hB, hn⟩

set_option maxRecDepth 100000 in
set_option maxHeartbeats 4000000 in
theorem clone_any (c : Cd) (p : Nat) (F : List Nat) (w : World) (h : Own w p c F) (h64 : c.is.length ≤ 64) (h32 : c.ns.length ≤ 32) :
    Calls Tryd.prog 26 #[.pointer (some ⟨p, 0, none⟩)] w fun e w' => ∃ q G, e = .returned (.pointer (some ⟨q, 0, none⟩)) ∧ Own w' q c G ∧ Below w.heap.size w w' ∧ ∀ g ∈ G, w.heap.size ≤ g := by
  obtain ⟨be, bs, oi, on, vi, vn, h, rfl⟩ := h
  have H := Lib.hid h
  obtain ⟨c0, c1, c2, c3, c4, c5⟩ := h.cells
  have hp : p < w.heap.size := h.lt (mem_foot.2 (.inl rfl))
  clear h
  go_enter Tryd.func26, Tryd.ntmps26
  go_wp2_with fail
  refine RegRel.wp_region_still 28 (by kernel_rfl) (by kernel_rfl) [RegRel.is (.pointer (some ⟨p, 0, none⟩)), RegRel.is (.pointer (some ⟨p, 0, none⟩)), RegRel.is (.pointer (some ⟨p, 0, none⟩)), RegRel.is vi, rowEnt w.heap.size 41 7 c.is.length (c.is.flatMap In.cells),
    RegRel.is (.pointer (some ⟨p, 0, none⟩)), RegRel.is (.pointer (some ⟨p, 0, none⟩)), RegRel.is (.pointer (some ⟨p, 1, none⟩)), RegRel.is (.map (some be)), mapEnt w.heap.size (YtpoegpojlcbfgaaDoor.ends c.en 0).toArray c.en.length,
    RegRel.is (.pointer (some ⟨p, 0, none⟩)), RegRel.is (.pointer (some ⟨p, 0, none⟩)), RegRel.is (.pointer (some ⟨p, 2, none⟩)), RegRel.is (.iface 53 (.map (some bs))), mapEnt2 w.heap.size 9 (YtpoegpojlcbfgaaDoor.stks c.sk 0).toArray c.sk.length,
    RegRel.is (.pointer (some ⟨p, 0, none⟩)), RegRel.is (.pointer (some ⟨p, 0, none⟩)), RegRel.is (.pointer (some ⟨p, 3, none⟩)), RegRel.is (.int .i64 c.dl),
    RegRel.is (.pointer (some ⟨p, 0, none⟩)), RegRel.is (.pointer (some ⟨p, 0, none⟩)), RegRel.is (.pointer (some ⟨p, 4, none⟩)), RegRel.is vn, rowEnt w.heap.size 9 1 c.ns.length (strs c.ns),
    RegRel.is (.pointer (some ⟨p, 0, none⟩)), RegRel.is (.pointer (some ⟨p, 0, none⟩)), RegRel.is (.pointer (some ⟨p, 5, none⟩)), RegRel.is (.int .i64 c.n)]
    (by simp [RegRel.stable_is, stable_row, stable_map, stable_map2]) rfl (by kernel_rfl) ?_ ?_
  · simp only [List.take_succ_cons, List.take_zero, RegRel.OpsOk, RegRel.puts]
    refine ⟨?_, ?_, ?_, ?_, ?_, ?_, ?_, ?_, ?_, ?_, ?_, ?_, ?_, ?_, ?_, ?_, ?_, ?_, ?_, ?_, ?_, ?_, ?_, ?_, ?_, ?_, ?_, ?_, trivial⟩
    all_goals
      intro u w' hC hD
      try simp [RegRel.DepsOk, Region.binds, RegRel.ent, RegRel.is] at hD
      have e0 := (hC.cell (p := ⟨p, 0, none⟩) hp).trans c0
      have e1 := (hC.cell (p := ⟨p, 1, none⟩) hp).trans c1
      have e2 := (hC.cell (p := ⟨p, 2, none⟩) hp).trans c2
      have e3 := (hC.cell (p := ⟨p, 3, none⟩) hp).trans c3
      have e4 := (hC.cell (p := ⟨p, 4, none⟩) hp).trans c4
      have e5 := (hC.cell (p := ⟨p, 5, none⟩) hp).trans c5
      go_simp
    all_goals (try simp [RegRel.ent, RegRel.is, RegRel.upd, Below.refl])
    · exact (clonei_any oi vi c.is w' (H.out.below hC).is h64).mono fun e w'' ⟨o', v', he, hr, hb, hf⟩ => ⟨v', he, ⟨o', hr, fun g hg => Nat.le_trans hC.size (hf g hg)⟩, hb⟩
    · exact (clonem_any be _ _ w' (H.out.below hC).ends).mono fun e w'' ⟨he, hw⟩ => ⟨_, he, ⟨w'.heap.size, rfl, by rw [hw]; exact heap_alloc_new w' _, hC.size⟩, by rw [hw]; exact below_new _ _⟩
    · obtain ⟨-, g, hg, hm, -⟩ := hD
      have hlt := heap_lt hm
      refine (clones_stock bs _ _ w' (H.out.below hC).stks).mono fun e w'' ⟨he, hw⟩ => ⟨_, he, ⟨w'.heap.size, rfl, by rw [hw]; exact heap_alloc_new w' _, hC.size, fun e9 => ?_⟩, by rw [hw]; exact below_new _ _⟩
      have e9' : u 9 = .map (some w'.heap.size) := e9
      rw [hg] at e9'
      cases e9'
      exact Nat.lt_irrefl _ hlt
    · exact (clones_any on vn c.ns w' (H.out.below hC).ns h32).mono fun e w'' ⟨o', v', he, hr, hb, hf⟩ => ⟨v', he, ⟨o', hr, fun g hg => Nat.le_trans hC.size (hf g hg)⟩, hb⟩
  · intro u w4 hC hv
    simp only [List.take_succ_cons, List.take_zero, List.drop_succ_cons, List.drop_zero, RegRel.puts]
    simp [RegRel.allV, RegRel.is] at hv
    obtain ⟨v0, v1, v2, v3, v4, v5, v6, v7, v8, v9, v10, v11, v12, v13, v14, v15, v16, v17, v18, v19, v20, v21, v22, v23, v24, v25, v26, v27⟩ := hv
    obtain ⟨o1, r1, f1⟩ := v4
    obtain ⟨g1, e1, m1, b1⟩ := v9
    obtain ⟨g2, e2, m2, b2, n2⟩ := v14
    obtain ⟨o2, r2, f2⟩ := v23
    have hne : g1 ≠ g2 := fun e => n2 (by rw [e.symm]; exact e1)
    obtain ⟨a1, cap1, s1, -⟩ := r1.shape
    obtain ⟨a2, cap2, s2, -⟩ := r2.shape
    rw [s1] at r1
    rw [s2] at r2
    have R1 := Lib.hid r1
    have R2 := Lib.hid r2
    have M1 := Lib.hid m1
    have M2 := Lib.hid m2
    clear r1 r2 m1 m2 n2 H
    go_wp2_with fail
    go_ret
    have hB := hC.size
    refine ⟨w4.heap.size, foot w4.heap.size g1 g2 o1 o2, rfl, ⟨g1, g2, o1, o2, _, _, ⟨heap_alloc_new w4 _, (Below.heap_alloc w4 _ _ (heap_lt M1.out)).trans M1.out, (Below.heap_alloc w4 _ _ (heap_lt M2.out)).trans M2.out, hne, R1.out.below (below_new _ _), R2.out.below (below_new _ _)⟩, rfl⟩, hC.trans ((below_new w4 _).mono hB), fun k hk => ?_⟩
    rcases mem_foot.1 hk with rfl | rfl | rfl | e | e
    · exact hB
    · exact b1
    · exact b2
    · exact f1 _ e
    · exact f2 _ e
end Go.Proofs.YtpoegpojlcbfgaaDoor
