/- slices.Clone of notices; the cloud's Notes. -/
import Derived.Test.YtpoegpojlcbfgaaDoorRf
import Derived.Lib.SliceRun
namespace Go.Proofs.YtpoegpojlcbfgaaDoor
open Go.RowKit

set_option maxRecDepth 100000 in
theorem clones_any (o : Option Nat) (v : Value) (l : List ByteArray) (w : World) (h : Rowed w 9 1 o v l.length (strs l)) (h32 : l.length ≤ 32) :
    Calls Tryd.prog 39 #[v] w fun e w' => ∃ o' v', e = .returned v' ∧ Rowed w' 9 1 o' v' l.length (strs l) ∧ Below w.heap.size w w' ∧ ∀ g, o' = some g → w.heap.size ≤ g := by
  obtain ⟨a, cap, rfl, -⟩ := h.shape
  have hq : ∀ w', (binOp .eql 26 (.slice a l.length cap) (.slice none 0 0)).run Tryd.prog w' = .ok (.bool a.isNone) w' := fun w' => Lib.run_eql_slice_nil w' 26 9 a l.length cap 0 0 Tryd.underlying26
  have H := Lib.hid h
  cases a with
  | none =>
    obtain ⟨a, cap, hv, -, h0, -⟩ := h.shape
    cases hv
    obtain ⟨hl, rfl, rfl⟩ := h0 rfl
    have hq' : ∀ w', (binOp .eql 26 (.slice none 0 0) (.slice none 0 0)).run Tryd.prog w' = .ok (.bool true) w' := fun w' => Lib.run_eql_slice_nil w' 26 9 none 0 0 0 0 Tryd.underlying26
    clear h hq
    go_enter Tryd.func39, Tryd.ntmps39
    go_wp2_with fail
    go_ret
    have hl0 : l = [] := List.eq_nil_of_length_eq_zero hl
    subst hl0
    exact ⟨none, .slice none 0 0, rfl, Rowed.nil _ _ _, Below.refl _ _, fun g hg => (by cases hg)⟩
  | some ad =>
    simp only [Option.isNone_some] at hq
    obtain ⟨i0, hi, hz0, hz1, hz2⟩ := info_parts info9
    have HI := Lib.hid hi
    have HZ0 := Lib.hid hz0
    have HZ1 := Lib.hid hz1
    have HZ2 := Lib.hid hz2
    clear hi hz0 hz1 hz2
    by_cases hl : l.length = 0
    · rw [hl] at hq
      have hl0 : l = [] := List.eq_nil_of_length_eq_zero hl
      subst hl0
      clear h
      go_enter Tryd.func39, Tryd.ntmps39
      go_wp2_with fail
      go_ret
      exact ⟨none, _, rfl, Rowed.empty _ _ _ _, below_new w _, fun g hg => (by cases hg)⟩
    · clear h
      go_enter Tryd.func39, Tryd.ntmps39
      go_wp2_with (at_builtin; refine wpList_append_rowed rfl _ _ 26 rfl 9 i0 (.string .empty) 1 16 Tryd.underlying26 HI.out HZ0.out HZ1.out HZ2.out rfl none _ 0 [] rfl (Rowed.empty _ _ _ _) ad l.length cap (strs l) rfl ?c0 ?c1 ?c2 (by omega) ?c3 ?c4 ?_)
      case c0 => simp [strs]
      case c1 => exact (H.out.below (below_new w _)).news
      case c2 => exact strs_one l
      case c3 => unfold maxLen; omega
      case c4 => omega
      intro v' w' o' hr hg hf
      have hr' : Rowed w' 9 1 o' v' l.length (strs l) := by simpa using hr
      have hb : Below w.heap.size w w' := (below_new w _).trans (Below.mono ⟨hg.os, hg.tape, hg.output, hg.size, fun k hk => hg.block k hk (by simp)⟩ (by simp))
      have hfr : ∀ g, o' = some g → w.heap.size ≤ g := fun g e => by
        rcases hf with e1 | ⟨g', e1, h1, _⟩
        · rw [e1] at e; cases e
        · rw [e1] at e; cases e
          simp at h1; omega
      have HR := Lib.hid hr'
      obtain ⟨a', cap', rfl, -⟩ := hr'.shape
      clear hr hr' hg hf
      go_wp2_with fail
      go_ret
      exact ⟨o', _, rfl, HR.out, hb, hfr⟩
set_option maxRecDepth 100000 in
theorem clonei_any (o : Option Nat) (v : Value) (l : List In) (w : World) (h : Rowed w 41 7 o v l.length (l.flatMap In.cells)) (h64 : l.length ≤ 64) :
    Calls Tryd.prog 37 #[v] w fun e w' => ∃ o' v', e = .returned v' ∧ Rowed w' 41 7 o' v' l.length (l.flatMap In.cells) ∧ Below w.heap.size w w' ∧ ∀ g, o' = some g → w.heap.size ≤ g := by
  obtain ⟨a, cap, rfl, -⟩ := h.shape
  have hq : ∀ w', (binOp .eql 35 (.slice a l.length cap) (.slice none 0 0)).run Tryd.prog w' = .ok (.bool a.isNone) w' := fun w' => Lib.run_eql_slice_nil w' 35 41 a l.length cap 0 0 Tryd.underlying35
  have H := Lib.hid h
  cases a with
  | none =>
    obtain ⟨a, cap, hv, -, h0, -⟩ := h.shape
    cases hv
    obtain ⟨hl, rfl, rfl⟩ := h0 rfl
    have hq' : ∀ w', (binOp .eql 35 (.slice none 0 0) (.slice none 0 0)).run Tryd.prog w' = .ok (.bool true) w' := fun w' => Lib.run_eql_slice_nil w' 35 41 none 0 0 0 0 Tryd.underlying35
    clear h hq
    go_enter Tryd.func37, Tryd.ntmps37
    go_wp2_with fail
    go_ret
    have hl0 : l = [] := List.eq_nil_of_length_eq_zero hl
    subst hl0
    exact ⟨none, .slice none 0 0, rfl, Rowed.nil _ _ _, Below.refl _ _, fun g hg => (by cases hg)⟩
  | some ad =>
    simp only [Option.isNone_some] at hq
    obtain ⟨i0, hi, hz0, hz1, hz2⟩ := info_parts info41
    have HI := Lib.hid hi
    have HZ0 := Lib.hid hz0
    have HZ1 := Lib.hid hz1
    have HZ2 := Lib.hid hz2
    clear hi hz0 hz1 hz2
    by_cases hl : l.length = 0
    · rw [hl] at hq
      have hl0 : l = [] := List.eq_nil_of_length_eq_zero hl
      subst hl0
      clear h
      go_enter Tryd.func37, Tryd.ntmps37
      go_wp2_with fail
      go_ret
      exact ⟨none, _, rfl, Rowed.empty _ _ _ _, below_new w _, fun g hg => (by cases hg)⟩
    · clear h
      go_enter Tryd.func37, Tryd.ntmps37
      go_wp2_with (at_builtin; refine wpList_append_rowed rfl _ _ 35 rfl 41 i0 (.agg #[.string .empty, .string .empty, .string .empty, .string .empty, .string .empty, .int .i64 0, .int .i64 0]) 7 96 Tryd.underlying35 HI.out HZ0.out HZ1.out HZ2.out rfl none _ 0 [] rfl (Rowed.empty _ _ _ _) ad l.length cap (l.flatMap In.cells) rfl ?c0 ?c1 ?c2 (by omega) ?c3 ?c4 ?_)
      case c0 => exact rows_len in_len _
      case c1 => exact (H.out.below (below_new w _)).news
      case c2 => exact in_one l
      case c3 => unfold maxLen; omega
      case c4 => omega
      intro v' w' o' hr hg hf
      have hr' : Rowed w' 41 7 o' v' l.length (l.flatMap In.cells) := by simpa using hr
      have hb : Below w.heap.size w w' := (below_new w _).trans (Below.mono ⟨hg.os, hg.tape, hg.output, hg.size, fun k hk => hg.block k hk (by simp)⟩ (by simp))
      have hfr : ∀ g, o' = some g → w.heap.size ≤ g := fun g e => by
        rcases hf with e1 | ⟨g', e1, h1, _⟩
        · rw [e1] at e; cases e
        · rw [e1] at e; cases e
          simp at h1; omega
      have HR := Lib.hid hr'
      obtain ⟨a', cap', rfl, -⟩ := hr'.shape
      clear hr hr' hg hf
      go_wp2_with fail
      go_ret
      exact ⟨o', _, rfl, HR.out, hb, hfr⟩
set_option maxRecDepth 100000 in
theorem notes_any (c : Cd) (p : Nat) (F : List Nat) (w : World) (h : Own w p c F) (h32 : c.ns.length ≤ 32) :
    Calls Tryd.prog 36 #[.pointer (some ⟨p, 0, none⟩)] w fun e w' => ∃ o' v', e = .returned v' ∧ Rowed w' 9 1 o' v' c.ns.length (strs c.ns) ∧ Below w.heap.size w w' ∧ ∀ g, o' = some g → w.heap.size ≤ g := by
  obtain ⟨be, bs, oi, on, vi, vn, h, rfl⟩ := h
  obtain ⟨c0, c1, c2, c3, c4, c5⟩ := h.cells
  have HC := Lib.hid (clones_any on vn c.ns w h.ns h32)
  obtain ⟨a, cap, rfl, -⟩ := h.ns.shape
  clear h
  go_enter Tryd.func36, Tryd.ntmps36
  go_wp2_with fail
  refine HC.out.mono ?_
  rintro er w1 ⟨o', v', rfl, hr, hb, hf⟩
  obtain ⟨a', cap', rfl, -⟩ := hr.shape
  have HR := Lib.hid hr
  clear hr
  go_wp2_with fail
  go_ret
  exact ⟨o', _, rfl, HR.out, hb, hf⟩
end Go.Proofs.YtpoegpojlcbfgaaDoor
