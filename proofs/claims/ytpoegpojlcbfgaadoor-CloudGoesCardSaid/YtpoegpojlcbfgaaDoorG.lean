/- End. -/
import Derived.Test.YtpoegpojlcbfgaaDoorF
namespace Go.Proofs.YtpoegpojlcbfgaaDoor
open Go.RowKit

def endE (c : Cd) (s : ByteArray) : Int := if c.is.any (fun x => sq x.id s) then (if has c.en s then 4 else 0) else 5
def Cd.fin (c : Cd) (s : ByteArray) : Cd := if c.is.any (fun x => sq x.id s) then (if has c.en s then c else { c with en := c.en ++ [s], n := wrap64 (c.n + 1) }) else c
set_option maxRecDepth 100000 in
theorem end_any (c : Cd) (p : Nat) (F : List Nat) (w : World) (s : ByteArray) (h : Own w p c F) :
    Calls Tryd.prog 10 #[.pointer (some ⟨p, 0, none⟩), .string s] w fun e w' => e = .returned (.int .i64 (endE c s)) ∧ Own w' p (c.fin s) F ∧ Step F F w w' := by
  have hB := Lib.hid (fun o : Obj => below_new w o)
  have HO := Lib.hid h
  obtain ⟨be, bs, oi, on, vi, vn, h, rfl⟩ := h
  have H := Lib.hid (h.below (below_new w (.cells #[.string s] 9)))
  obtain ⟨c0, c1, c2, c3, c4, c5⟩ := h.cells
  have hp : p < w.heap.size := h.lt (mem_foot.2 (.inl rfl))
  have HC := Lib.hid (contains_id c.is oi vi w.heap.size s (w.alloc (.cells #[.string s] 9)) H.out.is (by simp) (by rw [World.cell?_alloc_new]; rfl))
  obtain ⟨a, cap, rfl, -⟩ := h.is.shape
  clear h
  rcases h1 : c.is.any (fun x => sq x.id s) with _ | _
  · have e1 : endE c s = 5 := by unfold endE; rw [h1]; rfl
    have e2 : c.fin s = c := by unfold Cd.fin; rw [h1]; rfl
    rw [e1, e2]
    rw [h1] at HC
    clear e1 e2 h1
    go_enter Tryd.func10, Tryd.ntmps10
    go_wp2_with fail
    refine HC.out.mono ?_
    rintro e w1 ⟨rfl, hb⟩
    have q := (hB.out _).trans (hb.mono (by simp))
    clear hb
    go_wp2_with fail
    go_ret
    exact ⟨rfl, HO.out.below q, Step.of_below q⟩
  · rw [h1] at HC
    rcases h2 : has c.en s with _ | _
    · have e1 : endE c s = 0 := by unfold endE; rw [h1, h2]; rfl
      have e2 : c.fin s = { c with en := c.en ++ [s], n := wrap64 (c.n + 1) } := by unfold Cd.fin; rw [h1, h2]; rfl
      rw [e1, e2]
      clear e1 e2 h1
      go_enter Tryd.func10, Tryd.ntmps10
      go_wp2_with fail
      refine HC.out.mono ?_
      rintro e w1 ⟨rfl, hb⟩
      have d0 : w1.cell? ⟨w.heap.size, 0, none⟩ = some (.string s) := by rw [hb.cell (by simp), World.cell?_alloc_new]; rfl
      have q := (hB.out _).trans (hb.mono (by simp))
      have H1 := H.out.below hb
      obtain ⟨g0, g1, g2, g3, g4, g5⟩ := H1.cells
      have f5 := H1.free 5
      have hl : ∀ n, (Instr.lookup 51 (.map (some be)) (.string s) false).run Tryd.prog (w1.drewN n) = .ok (.bool false) (w1.drewN n) := by
        intro n
        have := look_end (w := w1.drewN n) (b := be) (l := c.en) H1.ends s
        rw [h2] at this
        exact this
      obtain ⟨O, hO⟩ : ∃ O, Obj.map (ends (c.en ++ [s]) 0).toArray (c.en ++ [s]).length = O := ⟨_, rfl⟩
      have hput : ∀ n, (Instr.mapUpdate 51 (.map (some be)) (.string s) (.bool true)).run Tryd.prog (w1.drewN n) = .ok () ((w1.drewN n).putObj be O) := fun n => by rw [← hO]; exact put_end (w := w1.drewN n) H1.ends s h2
      have Q1 := Lib.hid (fun m : Nat => (((H1.same (w' := w1.drewN m) (fun _ _ => rfl)).put_end (c.en ++ [s])).set_n (wrap64 (c.n + 1))))
      rw [hO] at Q1
      have hpe := H1.ne_pe
      clear hb H1 hO
      go_wp2_with fail
      go_quiet (fail)
      go_wp2_with fail
      go_region
      have g6 : ∀ (m : Nat) (o : Obj), ((w1.drewN m).putObj be o).cell? ⟨p, 5, none⟩ = some (.int .i64 c.n) := fun m o => (World.cell?_of_block (a := ⟨p, 5, none⟩) (World.putObj_heap_other hpe)).trans g5
      have f6 : ∀ (m : Nat) (o : Obj), ((w1.drewN m).putObj be o).frozen? ⟨p, 5, none⟩ = false := fun m o => (World.frozen?_of_block (a := ⟨p, 5, none⟩) (World.putObj_heap_other hpe)).trans f5
      go_wp2_with fail
      go_ret
      exact ⟨rfl, ⟨be, bs, oi, on, _, vn, Q1.out _, rfl⟩, ((Step.of_below (below_drewN q _)).trans (step_put _ _ (mem_foot.2 (.inr (.inl rfl))))).trans (step_set _ _ (mem_foot.2 (.inl rfl)))⟩
    · have e1 : endE c s = 4 := by unfold endE; rw [h1, h2]; rfl
      have e2 : c.fin s = c := by unfold Cd.fin; rw [h1, h2]; rfl
      rw [e1, e2]
      clear e1 e2 h1
      go_enter Tryd.func10, Tryd.ntmps10
      go_wp2_with fail
      refine HC.out.mono ?_
      rintro e w1 ⟨rfl, hb⟩
      have d0 : w1.cell? ⟨w.heap.size, 0, none⟩ = some (.string s) := by rw [hb.cell (by simp), World.cell?_alloc_new]; rfl
      have q := (hB.out _).trans (hb.mono (by simp))
      have H1 := H.out.below hb
      obtain ⟨g0, g1, g2, g3, g4, g5⟩ := H1.cells
      have hl : ∀ n, (Instr.lookup 51 (.map (some be)) (.string s) false).run Tryd.prog (w1.drewN n) = .ok (.bool true) (w1.drewN n) := by
        intro n
        have := look_end (w := w1.drewN n) (b := be) (l := c.en) H1.ends s
        rw [h2] at this
        exact this
      clear hb H1
      go_wp2_with fail
      go_quiet (fail)
      go_wp2_with fail
      go_ret
      exact ⟨rfl, HO.out.below (below_drewN q _), Step.of_below (below_drewN q _)⟩
end Go.Proofs.YtpoegpojlcbfgaaDoor
