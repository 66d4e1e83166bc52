/- Structs read: claims, pods, pools, a snapshot. -/
import Derived.Test.YtnaphpgbmjpicaaP3
import Derived.Test.YtnaphpgbmjpicaaX
namespace Go.Proofs.Ytnaphpgbmjpicaa
open Go.ChangeShapes Go.WideShapes Go.ChangeAt Go.RowKit

theorem cells_3 : Try.prog.cellsOf 3 = 1 := by kernel_rfl
theorem cells_4 : Try.prog.cellsOf 4 = 1 := by kernel_rfl
theorem cells_9 : Try.prog.cellsOf 9 = 1 := by kernel_rfl
theorem cells_45 : Try.prog.cellsOf 45 = 5 := by kernel_rfl
theorem cells_46 : Try.prog.cellsOf 46 = 1 := by kernel_rfl
theorem cells_47 : Try.prog.cellsOf 47 = 1 := by kernel_rfl
theorem cells_48 : Try.prog.cellsOf 48 = 1 := by kernel_rfl
theorem cells_49 : Try.prog.cellsOf 49 = 1 := by kernel_rfl
theorem cells_50 : Try.prog.cellsOf 50 = 1 := by kernel_rfl
theorem cells_51 : Try.prog.cellsOf 51 = 1 := by kernel_rfl
theorem cells_52 : Try.prog.cellsOf 52 = 1 := by kernel_rfl
theorem cells_53 : Try.prog.cellsOf 53 = 1 := by kernel_rfl
theorem cells_55 : Try.prog.cellsOf 55 = 14 := by kernel_rfl
theorem cells_59 : Try.prog.cellsOf 59 = 3 := by kernel_rfl
theorem cells_60 : Try.prog.cellsOf 60 = 1 := by kernel_rfl
theorem cells_62 : Try.prog.cellsOf 62 = 15 := by kernel_rfl
theorem cells_68 : Try.prog.cellsOf 68 = 1 := by kernel_rfl
theorem cells_69 : Try.prog.cellsOf 69 = 1 := by kernel_rfl
theorem cells_71 : Try.prog.cellsOf 71 = 10 := by kernel_rfl
theorem cells_72 : Try.prog.cellsOf 72 = 1 := by kernel_rfl
theorem cells_73 : Try.prog.cellsOf 73 = 1 := by kernel_rfl
theorem cells_74 : Try.prog.cellsOf 74 = 1 := by kernel_rfl
theorem cells_76 : Try.prog.cellsOf 76 = 12 := by kernel_rfl
theorem cells_2 : Try.prog.cellsOf 2 = 1 := cells2
theorem cells_26 : Try.prog.cellsOf 26 = 2 := cells26
theorem lst3 {α : Type} : ∀ {l : List α}, l.length = 3 → ∃ a0 a1 a2, l = [a0, a1, a2]
  | [u0, u1, u2], _ => ⟨u0, u1, u2, rfl⟩
theorem lst5 {α : Type} : ∀ {l : List α}, l.length = 5 → ∃ a0 a1 a2 a3 a4, l = [a0, a1, a2, a3, a4]
  | [u0, u1, u2, u3, u4], _ => ⟨u0, u1, u2, u3, u4, rfl⟩
theorem lst9 {α : Type} : ∀ {l : List α}, l.length = 9 → ∃ a0 a1 a2 a3 a4 a5 a6 a7 a8, l = [a0, a1, a2, a3, a4, a5, a6, a7, a8]
  | [u0, u1, u2, u3, u4, u5, u6, u7, u8], _ => ⟨u0, u1, u2, u3, u4, u5, u6, u7, u8, rfl⟩
theorem lst10 {α : Type} : ∀ {l : List α}, l.length = 10 → ∃ a0 a1 a2 a3 a4 a5 a6 a7 a8 a9, l = [a0, a1, a2, a3, a4, a5, a6, a7, a8, a9]
  | [u0, u1, u2, u3, u4, u5, u6, u7, u8, u9], _ => ⟨u0, u1, u2, u3, u4, u5, u6, u7, u8, u9, rfl⟩
theorem lst11 {α : Type} : ∀ {l : List α}, l.length = 11 → ∃ a0 a1 a2 a3 a4 a5 a6 a7 a8 a9 a10, l = [a0, a1, a2, a3, a4, a5, a6, a7, a8, a9, a10]
  | [u0, u1, u2, u3, u4, u5, u6, u7, u8, u9, u10], _ => ⟨u0, u1, u2, u3, u4, u5, u6, u7, u8, u9, u10, rfl⟩
theorem lst12 {α : Type} : ∀ {l : List α}, l.length = 12 → ∃ a0 a1 a2 a3 a4 a5 a6 a7 a8 a9 a10 a11, l = [a0, a1, a2, a3, a4, a5, a6, a7, a8, a9, a10, a11]
  | [u0, u1, u2, u3, u4, u5, u6, u7, u8, u9, u10, u11], _ => ⟨u0, u1, u2, u3, u4, u5, u6, u7, u8, u9, u10, u11, rfl⟩
theorem lst14 {α : Type} : ∀ {l : List α}, l.length = 14 → ∃ a0 a1 a2 a3 a4 a5 a6 a7 a8 a9 a10 a11 a12 a13, l = [a0, a1, a2, a3, a4, a5, a6, a7, a8, a9, a10, a11, a12, a13]
  | [u0, u1, u2, u3, u4, u5, u6, u7, u8, u9, u10, u11, u12, u13], _ => ⟨u0, u1, u2, u3, u4, u5, u6, u7, u8, u9, u10, u11, u12, u13, rfl⟩
theorem lst15 {α : Type} : ∀ {l : List α}, l.length = 15 → ∃ a0 a1 a2 a3 a4 a5 a6 a7 a8 a9 a10 a11 a12 a13 a14, l = [a0, a1, a2, a3, a4, a5, a6, a7, a8, a9, a10, a11, a12, a13, a14]
  | [u0, u1, u2, u3, u4, u5, u6, u7, u8, u9, u10, u11, u12, u13, u14], _ => ⟨u0, u1, u2, u3, u4, u5, u6, u7, u8, u9, u10, u11, u12, u13, u14, rfl⟩

section
variable {H : Type} {enc : TypeId × Value → H} {w : World} {base : Nat} {spare : Nat → Bool} {held : Bool}
theorem sl_form {fuel : Nat} {t e : TypeId} {v : Value} {x : DataW H × List MemPlace} (ht : Try.prog.underlying t = some (.slice e)) (h : DataW.trod enc Try.prog w base spare held fuel t [v] = some x) : ∃ a l c, v = .slice a l c := by
  rcases DataW.trod_slice ht h with ⟨e, _⟩ | ⟨a, l, c, _, _, _, _, e, _⟩
  · cases e; exact ⟨_, _, _, rfl⟩
  · cases e; exact ⟨_, _, _, rfl⟩
set_option maxRecDepth 100000 in
set_option maxHeartbeats 1000000 in
theorem trod_59 {fuel : Nat} {cs : List Value} {x : DataW H × List MemPlace} (h : DataW.trod enc Try.prog w base spare held fuel 59 cs = some x) : ∃ a b c, cs = [.string a, .string b, .string c] := by
  obtain ⟨xs, n, _, hxx, hl, hn, hf⟩ := DataW.trod_struct Try.underlying59 h
  have hn' : xs.length = 3 := hn
  obtain ⟨a0, a1, a2, rfl⟩ := lst3 (hl.trans cells_59)
  have g0 : DataW.trod enc Try.prog w base spare held n 9 [a0] = some (xs[0]'(by omega)) := by
    have h : DataW.trod enc Try.prog w base spare held n 9 (List.take (Try.prog.cellsOf 9) (List.drop 0 [a0, a1, a2])) = some (xs[0]'(by omega)) := (hf 0 _ rfl).trans (List.getElem?_eq_getElem (by omega))
    rw [cells_9] at h
    exact h
  have g1 : DataW.trod enc Try.prog w base spare held n 9 [a1] = some (xs[1]'(by omega)) := by
    have h : DataW.trod enc Try.prog w base spare held n 9 (List.take (Try.prog.cellsOf 9) (List.drop 1 [a0, a1, a2])) = some (xs[1]'(by omega)) := (hf 1 _ rfl).trans (List.getElem?_eq_getElem (by omega))
    rw [cells_9] at h
    exact h
  have g2 : DataW.trod enc Try.prog w base spare held n 9 [a2] = some (xs[2]'(by omega)) := by
    have h : DataW.trod enc Try.prog w base spare held n 9 (List.take (Try.prog.cellsOf 9) (List.drop 2 [a0, a1, a2])) = some (xs[2]'(by omega)) := (hf 2 _ rfl).trans (List.getElem?_eq_getElem (by omega))
    rw [cells_9] at h
    exact h
  obtain ⟨s0, e, _, _⟩ := DataW.trod_string Try.underlying9 g0
  cases e
  obtain ⟨s1, e, _, _⟩ := DataW.trod_string Try.underlying9 g1
  cases e
  obtain ⟨s2, e, _, _⟩ := DataW.trod_string Try.underlying9 g2
  cases e
  exact ⟨s0, s1, s2, rfl⟩
set_option maxRecDepth 100000 in
set_option maxHeartbeats 1000000 in
theorem trod_45 {fuel : Nat} {cs : List Value} {x : DataW H × List MemPlace} (h : DataW.trod enc Try.prog w base spare held fuel 45 cs = some x) : ∃ a b c d e, cs = [.int .i64 a, .int .i64 b, .int .i64 c, .int .i64 d, .int .i64 e] := by
  obtain ⟨xs, n, _, hxx, hl, hn, hf⟩ := DataW.trod_struct Try.underlying45 h
  have hn' : xs.length = 5 := hn
  obtain ⟨a0, a1, a2, a3, a4, rfl⟩ := lst5 (hl.trans cells_45)
  have g0 : DataW.trod enc Try.prog w base spare held n 2 [a0] = some (xs[0]'(by omega)) := by
    have h : DataW.trod enc Try.prog w base spare held n 2 (List.take (Try.prog.cellsOf 2) (List.drop 0 [a0, a1, a2, a3, a4])) = some (xs[0]'(by omega)) := (hf 0 _ rfl).trans (List.getElem?_eq_getElem (by omega))
    rw [cells_2] at h
    exact h
  have g1 : DataW.trod enc Try.prog w base spare held n 2 [a1] = some (xs[1]'(by omega)) := by
    have h : DataW.trod enc Try.prog w base spare held n 2 (List.take (Try.prog.cellsOf 2) (List.drop 1 [a0, a1, a2, a3, a4])) = some (xs[1]'(by omega)) := (hf 1 _ rfl).trans (List.getElem?_eq_getElem (by omega))
    rw [cells_2] at h
    exact h
  have g2 : DataW.trod enc Try.prog w base spare held n 2 [a2] = some (xs[2]'(by omega)) := by
    have h : DataW.trod enc Try.prog w base spare held n 2 (List.take (Try.prog.cellsOf 2) (List.drop 2 [a0, a1, a2, a3, a4])) = some (xs[2]'(by omega)) := (hf 2 _ rfl).trans (List.getElem?_eq_getElem (by omega))
    rw [cells_2] at h
    exact h
  have g3 : DataW.trod enc Try.prog w base spare held n 2 [a3] = some (xs[3]'(by omega)) := by
    have h : DataW.trod enc Try.prog w base spare held n 2 (List.take (Try.prog.cellsOf 2) (List.drop 3 [a0, a1, a2, a3, a4])) = some (xs[3]'(by omega)) := (hf 3 _ rfl).trans (List.getElem?_eq_getElem (by omega))
    rw [cells_2] at h
    exact h
  have g4 : DataW.trod enc Try.prog w base spare held n 2 [a4] = some (xs[4]'(by omega)) := by
    have h : DataW.trod enc Try.prog w base spare held n 2 (List.take (Try.prog.cellsOf 2) (List.drop 4 [a0, a1, a2, a3, a4])) = some (xs[4]'(by omega)) := (hf 4 _ rfl).trans (List.getElem?_eq_getElem (by omega))
    rw [cells_2] at h
    exact h
  obtain ⟨n0, e, _, wf0⟩ := DataW.trod_int Try.underlying2 g0
  cases e
  obtain ⟨n1, e, _, wf1⟩ := DataW.trod_int Try.underlying2 g1
  cases e
  obtain ⟨n2, e, _, wf2⟩ := DataW.trod_int Try.underlying2 g2
  cases e
  obtain ⟨n3, e, _, wf3⟩ := DataW.trod_int Try.underlying2 g3
  cases e
  obtain ⟨n4, e, _, wf4⟩ := DataW.trod_int Try.underlying2 g4
  cases e
  exact ⟨n0, n1, n2, n3, n4, rfl⟩
set_option maxRecDepth 100000 in
set_option maxHeartbeats 1000000 in
theorem trod_62 {fuel : Nat} {cs : List Value} {x : DataW H × List MemPlace} (h : DataW.trod enc Try.prog w base spare held fuel 62 cs = some x) : ∃ c : Cl, cs = c.cells := by
  obtain ⟨xs, n, _, hxx, hl, hn, hf⟩ := DataW.trod_struct Try.underlying62 h
  have hn' : xs.length = 12 := hn
  obtain ⟨a0, a1, a2, a3, a4, a5, a6, a7, a8, a9, a10, a11, a12, a13, a14, rfl⟩ := lst15 (hl.trans cells_62)
  have g0 : DataW.trod enc Try.prog w base spare held n 9 [a0] = some (xs[0]'(by omega)) := by
    have h : DataW.trod enc Try.prog w base spare held n 9 (List.take (Try.prog.cellsOf 9) (List.drop 0 [a0, a1, a2, a3, a4, a5, a6, a7, a8, a9, a10, a11, a12, a13, a14])) = some (xs[0]'(by omega)) := (hf 0 _ rfl).trans (List.getElem?_eq_getElem (by omega))
    rw [cells_9] at h
    exact h
  have g1 : DataW.trod enc Try.prog w base spare held n 9 [a1] = some (xs[1]'(by omega)) := by
    have h : DataW.trod enc Try.prog w base spare held n 9 (List.take (Try.prog.cellsOf 9) (List.drop 1 [a0, a1, a2, a3, a4, a5, a6, a7, a8, a9, a10, a11, a12, a13, a14])) = some (xs[1]'(by omega)) := (hf 1 _ rfl).trans (List.getElem?_eq_getElem (by omega))
    rw [cells_9] at h
    exact h
  have g2 : DataW.trod enc Try.prog w base spare held n 2 [a2] = some (xs[2]'(by omega)) := by
    have h : DataW.trod enc Try.prog w base spare held n 2 (List.take (Try.prog.cellsOf 2) (List.drop 2 [a0, a1, a2, a3, a4, a5, a6, a7, a8, a9, a10, a11, a12, a13, a14])) = some (xs[2]'(by omega)) := (hf 2 _ rfl).trans (List.getElem?_eq_getElem (by omega))
    rw [cells_2] at h
    exact h
  have g3 : DataW.trod enc Try.prog w base spare held n 59 [a3, a4, a5] = some (xs[3]'(by omega)) := by
    have h : DataW.trod enc Try.prog w base spare held n 59 (List.take (Try.prog.cellsOf 59) (List.drop 3 [a0, a1, a2, a3, a4, a5, a6, a7, a8, a9, a10, a11, a12, a13, a14])) = some (xs[3]'(by omega)) := (hf 3 _ rfl).trans (List.getElem?_eq_getElem (by omega))
    rw [cells_59] at h
    exact h
  have g4 : DataW.trod enc Try.prog w base spare held n 2 [a6] = some (xs[4]'(by omega)) := by
    have h : DataW.trod enc Try.prog w base spare held n 2 (List.take (Try.prog.cellsOf 2) (List.drop 6 [a0, a1, a2, a3, a4, a5, a6, a7, a8, a9, a10, a11, a12, a13, a14])) = some (xs[4]'(by omega)) := (hf 4 _ rfl).trans (List.getElem?_eq_getElem (by omega))
    rw [cells_2] at h
    exact h
  have g5 : DataW.trod enc Try.prog w base spare held n 26 [a7, a8] = some (xs[5]'(by omega)) := by
    have h : DataW.trod enc Try.prog w base spare held n 26 (List.take (Try.prog.cellsOf 26) (List.drop 7 [a0, a1, a2, a3, a4, a5, a6, a7, a8, a9, a10, a11, a12, a13, a14])) = some (xs[5]'(by omega)) := (hf 5 _ rfl).trans (List.getElem?_eq_getElem (by omega))
    rw [cells_26] at h
    exact h
  have g6 : DataW.trod enc Try.prog w base spare held n 60 [a9] = some (xs[6]'(by omega)) := by
    have h : DataW.trod enc Try.prog w base spare held n 60 (List.take (Try.prog.cellsOf 60) (List.drop 9 [a0, a1, a2, a3, a4, a5, a6, a7, a8, a9, a10, a11, a12, a13, a14])) = some (xs[6]'(by omega)) := (hf 6 _ rfl).trans (List.getElem?_eq_getElem (by omega))
    rw [cells_60] at h
    exact h
  have g7 : DataW.trod enc Try.prog w base spare held n 3 [a10] = some (xs[7]'(by omega)) := by
    have h : DataW.trod enc Try.prog w base spare held n 3 (List.take (Try.prog.cellsOf 3) (List.drop 10 [a0, a1, a2, a3, a4, a5, a6, a7, a8, a9, a10, a11, a12, a13, a14])) = some (xs[7]'(by omega)) := (hf 7 _ rfl).trans (List.getElem?_eq_getElem (by omega))
    rw [cells_3] at h
    exact h
  have g8 : DataW.trod enc Try.prog w base spare held n 9 [a11] = some (xs[8]'(by omega)) := by
    have h : DataW.trod enc Try.prog w base spare held n 9 (List.take (Try.prog.cellsOf 9) (List.drop 11 [a0, a1, a2, a3, a4, a5, a6, a7, a8, a9, a10, a11, a12, a13, a14])) = some (xs[8]'(by omega)) := (hf 8 _ rfl).trans (List.getElem?_eq_getElem (by omega))
    rw [cells_9] at h
    exact h
  have g9 : DataW.trod enc Try.prog w base spare held n 3 [a12] = some (xs[9]'(by omega)) := by
    have h : DataW.trod enc Try.prog w base spare held n 3 (List.take (Try.prog.cellsOf 3) (List.drop 12 [a0, a1, a2, a3, a4, a5, a6, a7, a8, a9, a10, a11, a12, a13, a14])) = some (xs[9]'(by omega)) := (hf 9 _ rfl).trans (List.getElem?_eq_getElem (by omega))
    rw [cells_3] at h
    exact h
  have g10 : DataW.trod enc Try.prog w base spare held n 2 [a13] = some (xs[10]'(by omega)) := by
    have h : DataW.trod enc Try.prog w base spare held n 2 (List.take (Try.prog.cellsOf 2) (List.drop 13 [a0, a1, a2, a3, a4, a5, a6, a7, a8, a9, a10, a11, a12, a13, a14])) = some (xs[10]'(by omega)) := (hf 10 _ rfl).trans (List.getElem?_eq_getElem (by omega))
    rw [cells_2] at h
    exact h
  have g11 : DataW.trod enc Try.prog w base spare held n 4 [a14] = some (xs[11]'(by omega)) := by
    have h : DataW.trod enc Try.prog w base spare held n 4 (List.take (Try.prog.cellsOf 4) (List.drop 14 [a0, a1, a2, a3, a4, a5, a6, a7, a8, a9, a10, a11, a12, a13, a14])) = some (xs[11]'(by omega)) := (hf 11 _ rfl).trans (List.getElem?_eq_getElem (by omega))
    rw [cells_4] at h
    exact h
  obtain ⟨s0, e, _, _⟩ := DataW.trod_string Try.underlying9 g0
  cases e
  obtain ⟨s1, e, _, _⟩ := DataW.trod_string Try.underlying9 g1
  cases e
  obtain ⟨n2, e, _, wf2⟩ := DataW.trod_int Try.underlying2 g2
  cases e
  obtain ⟨o0, o1, o2, e⟩ := trod_59 g3
  cases e
  obtain ⟨n6, e, _, wf6⟩ := DataW.trod_int Try.underlying2 g4
  cases e
  obtain ⟨x7, y7, e, _, _⟩ := trod26 g5
  cases e
  obtain ⟨l9, k9, m9, rfl⟩ := sl_form Try.underlying60 g6
  obtain ⟨n10, e, _, wf10⟩ := DataW.trod_int Try.underlying3 g7
  cases e
  obtain ⟨s11, e, _, _⟩ := DataW.trod_string Try.underlying9 g8
  cases e
  obtain ⟨n12, e, _, wf12⟩ := DataW.trod_int Try.underlying3 g9
  cases e
  obtain ⟨n13, e, _, wf13⟩ := DataW.trod_int Try.underlying2 g10
  cases e
  obtain ⟨b14, e, _⟩ := DataW.trod_bool Try.underlying4 g11
  cases e
  exact ⟨⟨s0, s1, .int .i64 n2, .string o0, .string o1, .string o2, .int .i64 n6, x7, y7, .slice l9 k9 m9, .int .i64 n10, .string s11, .int .i64 n12, .int .i64 n13, .bool b14, rfl, rfl, rfl, rfl, rfl, rfl, rfl, rfl, rfl, rfl, rfl⟩, rfl⟩
set_option maxRecDepth 100000 in
set_option maxHeartbeats 1000000 in
theorem trod_76 {fuel : Nat} {cs : List Value} {x : DataW H × List MemPlace} (h : DataW.trod enc Try.prog w base spare held fuel 76 cs = some x) : ∃ c : Pd, cs = c.cells := by
  obtain ⟨xs, n, _, hxx, hl, hn, hf⟩ := DataW.trod_struct Try.underlying76 h
  have hn' : xs.length = 11 := hn
  obtain ⟨a0, a1, a2, a3, a4, a5, a6, a7, a8, a9, a10, a11, rfl⟩ := lst12 (hl.trans cells_76)
  have g0 : DataW.trod enc Try.prog w base spare held n 9 [a0] = some (xs[0]'(by omega)) := by
    have h : DataW.trod enc Try.prog w base spare held n 9 (List.take (Try.prog.cellsOf 9) (List.drop 0 [a0, a1, a2, a3, a4, a5, a6, a7, a8, a9, a10, a11])) = some (xs[0]'(by omega)) := (hf 0 _ rfl).trans (List.getElem?_eq_getElem (by omega))
    rw [cells_9] at h
    exact h
  have g1 : DataW.trod enc Try.prog w base spare held n 9 [a1] = some (xs[1]'(by omega)) := by
    have h : DataW.trod enc Try.prog w base spare held n 9 (List.take (Try.prog.cellsOf 9) (List.drop 1 [a0, a1, a2, a3, a4, a5, a6, a7, a8, a9, a10, a11])) = some (xs[1]'(by omega)) := (hf 1 _ rfl).trans (List.getElem?_eq_getElem (by omega))
    rw [cells_9] at h
    exact h
  have g2 : DataW.trod enc Try.prog w base spare held n 26 [a2, a3] = some (xs[2]'(by omega)) := by
    have h : DataW.trod enc Try.prog w base spare held n 26 (List.take (Try.prog.cellsOf 26) (List.drop 2 [a0, a1, a2, a3, a4, a5, a6, a7, a8, a9, a10, a11])) = some (xs[2]'(by omega)) := (hf 2 _ rfl).trans (List.getElem?_eq_getElem (by omega))
    rw [cells_26] at h
    exact h
  have g3 : DataW.trod enc Try.prog w base spare held n 3 [a4] = some (xs[3]'(by omega)) := by
    have h : DataW.trod enc Try.prog w base spare held n 3 (List.take (Try.prog.cellsOf 3) (List.drop 4 [a0, a1, a2, a3, a4, a5, a6, a7, a8, a9, a10, a11])) = some (xs[3]'(by omega)) := (hf 3 _ rfl).trans (List.getElem?_eq_getElem (by omega))
    rw [cells_3] at h
    exact h
  have g4 : DataW.trod enc Try.prog w base spare held n 68 [a5] = some (xs[4]'(by omega)) := by
    have h : DataW.trod enc Try.prog w base spare held n 68 (List.take (Try.prog.cellsOf 68) (List.drop 5 [a0, a1, a2, a3, a4, a5, a6, a7, a8, a9, a10, a11])) = some (xs[4]'(by omega)) := (hf 4 _ rfl).trans (List.getElem?_eq_getElem (by omega))
    rw [cells_68] at h
    exact h
  have g5 : DataW.trod enc Try.prog w base spare held n 72 [a6] = some (xs[5]'(by omega)) := by
    have h : DataW.trod enc Try.prog w base spare held n 72 (List.take (Try.prog.cellsOf 72) (List.drop 6 [a0, a1, a2, a3, a4, a5, a6, a7, a8, a9, a10, a11])) = some (xs[5]'(by omega)) := (hf 5 _ rfl).trans (List.getElem?_eq_getElem (by omega))
    rw [cells_72] at h
    exact h
  have g6 : DataW.trod enc Try.prog w base spare held n 73 [a7] = some (xs[6]'(by omega)) := by
    have h : DataW.trod enc Try.prog w base spare held n 73 (List.take (Try.prog.cellsOf 73) (List.drop 7 [a0, a1, a2, a3, a4, a5, a6, a7, a8, a9, a10, a11])) = some (xs[6]'(by omega)) := (hf 6 _ rfl).trans (List.getElem?_eq_getElem (by omega))
    rw [cells_73] at h
    exact h
  have g7 : DataW.trod enc Try.prog w base spare held n 74 [a8] = some (xs[7]'(by omega)) := by
    have h : DataW.trod enc Try.prog w base spare held n 74 (List.take (Try.prog.cellsOf 74) (List.drop 8 [a0, a1, a2, a3, a4, a5, a6, a7, a8, a9, a10, a11])) = some (xs[7]'(by omega)) := (hf 7 _ rfl).trans (List.getElem?_eq_getElem (by omega))
    rw [cells_74] at h
    exact h
  have g8 : DataW.trod enc Try.prog w base spare held n 74 [a9] = some (xs[8]'(by omega)) := by
    have h : DataW.trod enc Try.prog w base spare held n 74 (List.take (Try.prog.cellsOf 74) (List.drop 9 [a0, a1, a2, a3, a4, a5, a6, a7, a8, a9, a10, a11])) = some (xs[8]'(by omega)) := (hf 8 _ rfl).trans (List.getElem?_eq_getElem (by omega))
    rw [cells_74] at h
    exact h
  have g9 : DataW.trod enc Try.prog w base spare held n 2 [a10] = some (xs[9]'(by omega)) := by
    have h : DataW.trod enc Try.prog w base spare held n 2 (List.take (Try.prog.cellsOf 2) (List.drop 10 [a0, a1, a2, a3, a4, a5, a6, a7, a8, a9, a10, a11])) = some (xs[9]'(by omega)) := (hf 9 _ rfl).trans (List.getElem?_eq_getElem (by omega))
    rw [cells_2] at h
    exact h
  have g10 : DataW.trod enc Try.prog w base spare held n 9 [a11] = some (xs[10]'(by omega)) := by
    have h : DataW.trod enc Try.prog w base spare held n 9 (List.take (Try.prog.cellsOf 9) (List.drop 11 [a0, a1, a2, a3, a4, a5, a6, a7, a8, a9, a10, a11])) = some (xs[10]'(by omega)) := (hf 10 _ rfl).trans (List.getElem?_eq_getElem (by omega))
    rw [cells_9] at h
    exact h
  obtain ⟨s0, e, _, _⟩ := DataW.trod_string Try.underlying9 g0
  cases e
  obtain ⟨s1, e, _, _⟩ := DataW.trod_string Try.underlying9 g1
  cases e
  obtain ⟨x2, y2, e, _, _⟩ := trod26 g2
  cases e
  obtain ⟨n4, e, _, wf4⟩ := DataW.trod_int Try.underlying3 g3
  cases e
  obtain ⟨l5, k5, m5, rfl⟩ := sl_form Try.underlying68 g4
  obtain ⟨l6, k6, m6, rfl⟩ := sl_form Try.underlying72 g5
  obtain ⟨l7, k7, m7, rfl⟩ := sl_form Try.underlying73 g6
  obtain ⟨l8, k8, m8, rfl⟩ := sl_form Try.underlying74 g7
  obtain ⟨l9, k9, m9, rfl⟩ := sl_form Try.underlying74 g8
  obtain ⟨n10, e, _, wf10⟩ := DataW.trod_int Try.underlying2 g9
  cases e
  obtain ⟨s11, e, _, _⟩ := DataW.trod_string Try.underlying9 g10
  cases e
  exact ⟨⟨.string s0, .string s1, x2, y2, .int .i64 n4, .slice l5 k5 m5, .slice l6 k6 m6, .slice l7 k7 m7, .slice l8 k8 m8, .slice l9 k9 m9, .int .i64 n10, s11, rfl, rfl, rfl, rfl, rfl, rfl, rfl, rfl, rfl⟩, rfl⟩
set_option maxRecDepth 100000 in
set_option maxHeartbeats 1000000 in
theorem trod_71 {fuel : Nat} {cs : List Value} {x : DataW H × List MemPlace} (h : DataW.trod enc Try.prog w base spare held fuel 71 cs = some x) : ∃ c : Pl, cs = c.cells := by
  obtain ⟨xs, n, _, hxx, hl, hn, hf⟩ := DataW.trod_struct Try.underlying71 h
  have hn' : xs.length = 9 := hn
  obtain ⟨a0, a1, a2, a3, a4, a5, a6, a7, a8, a9, rfl⟩ := lst10 (hl.trans cells_71)
  have g0 : DataW.trod enc Try.prog w base spare held n 9 [a0] = some (xs[0]'(by omega)) := by
    have h : DataW.trod enc Try.prog w base spare held n 9 (List.take (Try.prog.cellsOf 9) (List.drop 0 [a0, a1, a2, a3, a4, a5, a6, a7, a8, a9])) = some (xs[0]'(by omega)) := (hf 0 _ rfl).trans (List.getElem?_eq_getElem (by omega))
    rw [cells_9] at h
    exact h
  have g1 : DataW.trod enc Try.prog w base spare held n 3 [a1] = some (xs[1]'(by omega)) := by
    have h : DataW.trod enc Try.prog w base spare held n 3 (List.take (Try.prog.cellsOf 3) (List.drop 1 [a0, a1, a2, a3, a4, a5, a6, a7, a8, a9])) = some (xs[1]'(by omega)) := (hf 1 _ rfl).trans (List.getElem?_eq_getElem (by omega))
    rw [cells_3] at h
    exact h
  have g2 : DataW.trod enc Try.prog w base spare held n 26 [a2, a3] = some (xs[2]'(by omega)) := by
    have h : DataW.trod enc Try.prog w base spare held n 26 (List.take (Try.prog.cellsOf 26) (List.drop 2 [a0, a1, a2, a3, a4, a5, a6, a7, a8, a9])) = some (xs[2]'(by omega)) := (hf 2 _ rfl).trans (List.getElem?_eq_getElem (by omega))
    rw [cells_26] at h
    exact h
  have g3 : DataW.trod enc Try.prog w base spare held n 68 [a4] = some (xs[3]'(by omega)) := by
    have h : DataW.trod enc Try.prog w base spare held n 68 (List.take (Try.prog.cellsOf 68) (List.drop 4 [a0, a1, a2, a3, a4, a5, a6, a7, a8, a9])) = some (xs[3]'(by omega)) := (hf 3 _ rfl).trans (List.getElem?_eq_getElem (by omega))
    rw [cells_68] at h
    exact h
  have g4 : DataW.trod enc Try.prog w base spare held n 69 [a5] = some (xs[4]'(by omega)) := by
    have h : DataW.trod enc Try.prog w base spare held n 69 (List.take (Try.prog.cellsOf 69) (List.drop 5 [a0, a1, a2, a3, a4, a5, a6, a7, a8, a9])) = some (xs[4]'(by omega)) := (hf 4 _ rfl).trans (List.getElem?_eq_getElem (by omega))
    rw [cells_69] at h
    exact h
  have g5 : DataW.trod enc Try.prog w base spare held n 2 [a6] = some (xs[5]'(by omega)) := by
    have h : DataW.trod enc Try.prog w base spare held n 2 (List.take (Try.prog.cellsOf 2) (List.drop 6 [a0, a1, a2, a3, a4, a5, a6, a7, a8, a9])) = some (xs[5]'(by omega)) := (hf 5 _ rfl).trans (List.getElem?_eq_getElem (by omega))
    rw [cells_2] at h
    exact h
  have g6 : DataW.trod enc Try.prog w base spare held n 2 [a7] = some (xs[6]'(by omega)) := by
    have h : DataW.trod enc Try.prog w base spare held n 2 (List.take (Try.prog.cellsOf 2) (List.drop 7 [a0, a1, a2, a3, a4, a5, a6, a7, a8, a9])) = some (xs[6]'(by omega)) := (hf 6 _ rfl).trans (List.getElem?_eq_getElem (by omega))
    rw [cells_2] at h
    exact h
  have g7 : DataW.trod enc Try.prog w base spare held n 3 [a8] = some (xs[7]'(by omega)) := by
    have h : DataW.trod enc Try.prog w base spare held n 3 (List.take (Try.prog.cellsOf 3) (List.drop 8 [a0, a1, a2, a3, a4, a5, a6, a7, a8, a9])) = some (xs[7]'(by omega)) := (hf 7 _ rfl).trans (List.getElem?_eq_getElem (by omega))
    rw [cells_3] at h
    exact h
  have g8 : DataW.trod enc Try.prog w base spare held n 3 [a9] = some (xs[8]'(by omega)) := by
    have h : DataW.trod enc Try.prog w base spare held n 3 (List.take (Try.prog.cellsOf 3) (List.drop 9 [a0, a1, a2, a3, a4, a5, a6, a7, a8, a9])) = some (xs[8]'(by omega)) := (hf 8 _ rfl).trans (List.getElem?_eq_getElem (by omega))
    rw [cells_3] at h
    exact h
  obtain ⟨s0, e, _, _⟩ := DataW.trod_string Try.underlying9 g0
  cases e
  obtain ⟨n1, e, _, wf1⟩ := DataW.trod_int Try.underlying3 g1
  cases e
  obtain ⟨x2, y2, e, _, _⟩ := trod26 g2
  cases e
  obtain ⟨l4, k4, m4, rfl⟩ := sl_form Try.underlying68 g3
  obtain ⟨l5, k5, m5, rfl⟩ := sl_form Try.underlying69 g4
  obtain ⟨n6, e, _, wf6⟩ := DataW.trod_int Try.underlying2 g5
  cases e
  obtain ⟨n7, e, _, wf7⟩ := DataW.trod_int Try.underlying2 g6
  cases e
  obtain ⟨n8, e, _, wf8⟩ := DataW.trod_int Try.underlying3 g7
  cases e
  obtain ⟨n9, e, _, wf9⟩ := DataW.trod_int Try.underlying3 g8
  cases e
  exact ⟨⟨s0, .int .i64 n1, .int .i64 x2, .int .i64 y2, .slice l4 k4 m4, .slice l5 k5 m5, .int .i64 n6, .int .i64 n7, .int .i64 n8, .int .i64 n9, rfl, rfl, rfl, rfl, rfl, rfl, rfl, rfl, rfl⟩, rfl⟩

theorem open_rows {α : Type} {f : α → List Value} {t e : TypeId} {k : Nat} (ht : Try.prog.underlying t = some (.slice e)) (hk : Try.prog.cellsOf e = k) (hk0 : 0 < k)
    (hop : ∀ {fuel : Nat} {cs : List Value} {x : DataW H × List MemPlace}, DataW.trod enc Try.prog w base spare held fuel e cs = some x → ∃ c : α, cs = f c)
    {fuel : Nat} {v : Value} {y : DataW H × List MemPlace} (h : DataW.trod enc Try.prog w base spare held fuel t [v] = some y) :
    ∃ (a : Option Addr) (cap : Nat) (l : List α), v = .slice a l.length cap ∧ Rw w a k (l.map f) ∧ (a = none → l.length = 0 ∧ cap = 0) ∧ l.length ≤ cap ∧ (l.length = 0 ∨ ∃ es sp, y.1 = .slice es sp ∧ es.length = l.length) := by
  rcases Go.Deep.open_slice ht h with ⟨hcs, _⟩ | ⟨a', len', cap', m, n, D, Pc, hcs, _, hle, _, hm, hx, hi⟩
  · cases hcs
    exact ⟨none, 0, [], rfl, fun i r h => by simp at h, fun _ => ⟨rfl, rfl⟩, Nat.le_refl _, Or.inl rfl⟩
  · cases hcs
    have hlm : len' ≤ m := by rw [hm]; split <;> omega
    have key : ∀ i, i < len' → ∃ c : α, (f c).length = k ∧ ∀ j v, (f c)[j]? = some v → w.cell? ((a'.add (i * k)).add j) = some v := by
      intro i h
      obtain ⟨cs', h1, h2⟩ := hi i (by omega)
      obtain ⟨c, rfl⟩ := hop h2
      rw [hk] at h1
      obtain ⟨_, hl, h3⟩ := World.cells?_some h1
      exact ⟨c, hl, fun j v hj => by rw [h3 j (by have := (List.getElem?_eq_some_iff.1 hj).1; omega), hj]⟩
    by_cases h0 : len' = 0
    · subst h0
      exact ⟨some a', cap', [], rfl, fun i r h => by simp at h, (fun h => by cases h), by simp, Or.inl rfl⟩
    · obtain ⟨c0, hc0, hv0⟩ := key 0 (by omega)
      have s0 : a'.spot = none := by
        have hz : 0 < (f c0).length := by omega
        have := hv0 0 _ (List.getElem?_eq_getElem hz)
        exact (spot_none (by simpa [Addr.add] using this)).1
      have key' : ∃ g : Nat → α, ∀ i, i < len' → (f (g i)).length = k ∧ ∀ j v, (f (g i))[j]? = some v → w.cell? ((a'.add (i * k)).add j) = some v := by
        refine ⟨fun i => if h : i < len' then (key i h).choose else c0, fun i h => ?_⟩
        simp only [dif_pos h]
        exact (key i h).choose_spec
      obtain ⟨g, hg⟩ := key'
      refine ⟨some a', cap', (List.range len').map g, by simp, ?_, (fun h => by cases h), by simpa using hle, Or.inr ⟨_, _, congrArg Prod.fst hx, by simp⟩⟩
      intro i r hr
      obtain ⟨b, off, spot⟩ := a'
      dsimp only at s0
      subst s0
      have hadd : ∀ p j : Nat, ((⟨b, off, none⟩ : Addr).add p).add j = ⟨b, off + p + j, none⟩ := by
        intro p j
        unfold Addr.add
        split <;> split <;> simp_all
      have hil : i < len' := by
        have := (List.getElem?_eq_some_iff.1 hr).1
        simpa using this
      have hr' : r = f (g i) := by
        simp [hil] at hr
        exact hr.symm
      subst hr'
      obtain ⟨h1, h2⟩ := hg i hil
      refine ⟨b, off, rfl, ?_, h1, fun j v hj => by rw [← hadd]; exact h2 j v hj⟩
      have := h2 0 _ (List.getElem?_eq_getElem (by omega))
      rw [hadd] at this
      exact (spot_none this).2

set_option maxRecDepth 100000 in
set_option maxHeartbeats 1000000 in
/-- A snapshot, read. -/
theorem open55 {r : Reach} {b0 : Nat} {W : World} {v : Value} {d : DataW H} {p : List MemPlace} (hv : Value.okWide Try.prog W r b0 55 v) (h : DataW.Trod enc Try.prog w base spare held 55 v d p) :
    ∃ n : Sn, v = n.val ∧ Rw w n.pa 12 (n.ps.map Pd.cells) ∧ Rw w n.qa 10 (n.qs.map Pl.cells) ∧ Rw w n.ca 15 (n.cs.map Cl.cells) ∧ (n.pa = none → n.ps.length = 0 ∧ n.pcap = 0) ∧ (n.ca = none → n.cs.length = 0 ∧ n.ccap = 0) ∧ n.ps.length ≤ n.pcap ∧ n.cs.length ≤ n.ccap ∧
      ∃ parts, d = .agg parts ∧ (n.ps.length = 0 ∨ ∃ es sp, parts[3]? = some (.slice es sp) ∧ es.length = n.ps.length) ∧ (n.qs.length = 0 ∨ ∃ es sp, parts[4]? = some (.slice es sp) ∧ es.length = n.qs.length) ∧ (n.cs.length = 0 ∨ ∃ es sp, parts[5]? = some (.slice es sp) ∧ es.length = n.cs.length) := by
  obtain ⟨cs, rfl, _⟩ := okWide_struct Try.underlying55 hv
  obtain ⟨fuel, hf0⟩ := h
  have hf1 : DataW.trod enc Try.prog w base spare held fuel 55 cs.toList = some (d, p) := hf0
  obtain ⟨xs, n, _, hxx, hl, hn, hf⟩ := DataW.trod_struct Try.underlying55 hf1
  have hn' : xs.length = 10 := hn
  obtain ⟨a0, a1, a2, a3, a4, a5, a6, a7, a8, a9, a10, a11, a12, a13, hcs⟩ := lst14 (hl.trans cells_55)
  rw [hcs] at hf
  have g0 : DataW.trod enc Try.prog w base spare held n 2 [a0] = some (xs[0]'(by omega)) := by
    have h : DataW.trod enc Try.prog w base spare held n 2 (List.take (Try.prog.cellsOf 2) (List.drop 0 [a0, a1, a2, a3, a4, a5, a6, a7, a8, a9, a10, a11, a12, a13])) = some (xs[0]'(by omega)) := (hf 0 _ rfl).trans (List.getElem?_eq_getElem (by omega))
    rw [cells_2] at h
    exact h
  have g1 : DataW.trod enc Try.prog w base spare held n 45 [a1, a2, a3, a4, a5] = some (xs[1]'(by omega)) := by
    have h : DataW.trod enc Try.prog w base spare held n 45 (List.take (Try.prog.cellsOf 45) (List.drop 1 [a0, a1, a2, a3, a4, a5, a6, a7, a8, a9, a10, a11, a12, a13])) = some (xs[1]'(by omega)) := (hf 1 _ rfl).trans (List.getElem?_eq_getElem (by omega))
    rw [cells_45] at h
    exact h
  have g2 : DataW.trod enc Try.prog w base spare held n 46 [a6] = some (xs[2]'(by omega)) := by
    have h : DataW.trod enc Try.prog w base spare held n 46 (List.take (Try.prog.cellsOf 46) (List.drop 6 [a0, a1, a2, a3, a4, a5, a6, a7, a8, a9, a10, a11, a12, a13])) = some (xs[2]'(by omega)) := (hf 2 _ rfl).trans (List.getElem?_eq_getElem (by omega))
    rw [cells_46] at h
    exact h
  have g3 : DataW.trod enc Try.prog w base spare held n 47 [a7] = some (xs[3]'(by omega)) := by
    have h : DataW.trod enc Try.prog w base spare held n 47 (List.take (Try.prog.cellsOf 47) (List.drop 7 [a0, a1, a2, a3, a4, a5, a6, a7, a8, a9, a10, a11, a12, a13])) = some (xs[3]'(by omega)) := (hf 3 _ rfl).trans (List.getElem?_eq_getElem (by omega))
    rw [cells_47] at h
    exact h
  have g4 : DataW.trod enc Try.prog w base spare held n 48 [a8] = some (xs[4]'(by omega)) := by
    have h : DataW.trod enc Try.prog w base spare held n 48 (List.take (Try.prog.cellsOf 48) (List.drop 8 [a0, a1, a2, a3, a4, a5, a6, a7, a8, a9, a10, a11, a12, a13])) = some (xs[4]'(by omega)) := (hf 4 _ rfl).trans (List.getElem?_eq_getElem (by omega))
    rw [cells_48] at h
    exact h
  have g5 : DataW.trod enc Try.prog w base spare held n 49 [a9] = some (xs[5]'(by omega)) := by
    have h : DataW.trod enc Try.prog w base spare held n 49 (List.take (Try.prog.cellsOf 49) (List.drop 9 [a0, a1, a2, a3, a4, a5, a6, a7, a8, a9, a10, a11, a12, a13])) = some (xs[5]'(by omega)) := (hf 5 _ rfl).trans (List.getElem?_eq_getElem (by omega))
    rw [cells_49] at h
    exact h
  have g6 : DataW.trod enc Try.prog w base spare held n 50 [a10] = some (xs[6]'(by omega)) := by
    have h : DataW.trod enc Try.prog w base spare held n 50 (List.take (Try.prog.cellsOf 50) (List.drop 10 [a0, a1, a2, a3, a4, a5, a6, a7, a8, a9, a10, a11, a12, a13])) = some (xs[6]'(by omega)) := (hf 6 _ rfl).trans (List.getElem?_eq_getElem (by omega))
    rw [cells_50] at h
    exact h
  have g7 : DataW.trod enc Try.prog w base spare held n 51 [a11] = some (xs[7]'(by omega)) := by
    have h : DataW.trod enc Try.prog w base spare held n 51 (List.take (Try.prog.cellsOf 51) (List.drop 11 [a0, a1, a2, a3, a4, a5, a6, a7, a8, a9, a10, a11, a12, a13])) = some (xs[7]'(by omega)) := (hf 7 _ rfl).trans (List.getElem?_eq_getElem (by omega))
    rw [cells_51] at h
    exact h
  have g8 : DataW.trod enc Try.prog w base spare held n 52 [a12] = some (xs[8]'(by omega)) := by
    have h : DataW.trod enc Try.prog w base spare held n 52 (List.take (Try.prog.cellsOf 52) (List.drop 12 [a0, a1, a2, a3, a4, a5, a6, a7, a8, a9, a10, a11, a12, a13])) = some (xs[8]'(by omega)) := (hf 8 _ rfl).trans (List.getElem?_eq_getElem (by omega))
    rw [cells_52] at h
    exact h
  have g9 : DataW.trod enc Try.prog w base spare held n 53 [a13] = some (xs[9]'(by omega)) := by
    have h : DataW.trod enc Try.prog w base spare held n 53 (List.take (Try.prog.cellsOf 53) (List.drop 13 [a0, a1, a2, a3, a4, a5, a6, a7, a8, a9, a10, a11, a12, a13])) = some (xs[9]'(by omega)) := (hf 9 _ rfl).trans (List.getElem?_eq_getElem (by omega))
    rw [cells_53] at h
    exact h
  obtain ⟨n0, e, _, _⟩ := DataW.trod_int Try.underlying2 g0
  cases e
  obtain ⟨c0, c1, c2, c3, c4, e⟩ := trod_45 g1
  cases e
  obtain ⟨l6, k6, m6, rfl⟩ := sl_form Try.underlying46 g2
  obtain ⟨l10, k10, m10, rfl⟩ := sl_form Try.underlying50 g6
  obtain ⟨l11, k11, m11, rfl⟩ := sl_form Try.underlying51 g7
  obtain ⟨l12, k12, m12, rfl⟩ := sl_form Try.underlying52 g8
  obtain ⟨l13, k13, m13, rfl⟩ := sl_form Try.underlying53 g9
  obtain ⟨pa, pcap, ps, rfl, hp1, hp2, hp3, hp4⟩ := open_rows Try.underlying47 cells_76 (by decide) trod_76 g3
  obtain ⟨qa, qcap, qs, rfl, hq1, hq2, hq3, hq4⟩ := open_rows Try.underlying48 cells_71 (by decide) trod_71 g4
  obtain ⟨ca, ccap, ls, rfl, hc1, hc2, hc3, hc4⟩ := open_rows Try.underlying49 cells_62 (by decide) trod_62 g5
  obtain ⟨hd, hpp⟩ := Prod.mk.inj hxx
  have hpart : ∀ i : Nat, (xs.map fun x : DataW H × List MemPlace => x.1)[i]? = (xs[i]?).map fun x => x.1 := fun i => by simp
  refine ⟨⟨.int .i64 n0, .int .i64 c0, .int .i64 c1, .int .i64 c2, .int .i64 c3, .int .i64 c4, .slice l6 k6 m6, pa, ps, pcap, qa, qs, qcap, ca, ls, ccap, .slice l10 k10 m10, .slice l11 k11 m11, .slice l12 k12 m12, .slice l13 k13 m13, rfl, rfl, rfl, rfl, rfl, rfl, rfl, rfl, rfl, rfl, rfl⟩, congrArg Value.agg (Array.ext' hcs), hp1, hq1, hc1, hp2, hc2, hp3, hc3, _, hd, ?_, ?_, ?_⟩
  · rcases hp4 with h | ⟨es, sp, h1, h2⟩
    · exact Or.inl h
    · exact Or.inr ⟨es, sp, by rw [hpart, List.getElem?_eq_getElem (by omega : 3 < xs.length), Option.map_some, h1], h2⟩
  · rcases hq4 with h | ⟨es, sp, h1, h2⟩
    · exact Or.inl h
    · exact Or.inr ⟨es, sp, by rw [hpart, List.getElem?_eq_getElem (by omega : 4 < xs.length), Option.map_some, h1], h2⟩
  · rcases hc4 with h | ⟨es, sp, h1, h2⟩
    · exact Or.inl h
    · exact Or.inr ⟨es, sp, by rw [hpart, List.getElem?_eq_getElem (by omega : 5 < xs.length), Option.map_some, h1], h2⟩
end

theorem sized_in {H : Type} {P : Program} {ts : List TypeId} {ds : List (DataW H)} (h : (DataW.weightsEach P ts ds).all (· ≤ reachBytes) = true) {j : Nat} {t : TypeId} {parts : List (DataW H)} {fs : Array Field} (ht : ts[j]? = some t) (hd : ds[j]? = some (.agg parts)) (hu : P.underlying t = some (.struct fs))
    {i : Nat} {ft e : TypeId} {es sp : List (DataW H)} (hft : (fs.toList.map (·.type))[i]? = some ft) (hpi : parts[i]? = some (.slice es sp)) (hu2 : P.underlying ft = some (.slice e)) : (es.length + sp.length) * P.bytesOf e ≤ reachBytes := by
  have h1 : (es.length + sp.length) * P.bytesOf e ∈ (DataW.slice es sp).weights P ft := by simp [DataW.weights, hu2]
  have h2 := DataW.weights_mem_each hft hpi _ h1
  have h3 : (es.length + sp.length) * P.bytesOf e ∈ (DataW.agg parts).weights P t := by simpa [DataW.weights, hu] using h2
  simpa using List.all_eq_true.1 h _ (DataW.weights_mem_each ht hd _ h3)
theorem bytes76 : Try.prog.bytesOf 76 = 200 := by kernel_rfl
theorem bytes71 : Try.prog.bytesOf 71 = 120 := by kernel_rfl
theorem bytes62 : Try.prog.bytesOf 62 = 184 := by kernel_rfl
end Go.Proofs.Ytnaphpgbmjpicaa
