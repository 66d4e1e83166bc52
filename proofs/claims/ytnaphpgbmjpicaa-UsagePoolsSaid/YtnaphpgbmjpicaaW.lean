/- Sums from the front and from behind; slices of pairs that the call itself has made. -/
import Derived.Test.YtnaphpgbmjpicaaU
import Derived.OwnWalk
import Derived.Deep.AppendLies
namespace Go.Proofs.Ytnaphpgbmjpicaa
open Go.RowKit

/-- The cells of some pairs. -/
def pairCells (ps : List (Int × Int)) : List Value := ps.flatMap fun p => [.int .i64 p.1, .int .i64 p.2]
theorem pairCells_length (ps : List (Int × Int)) : (pairCells ps).length = ps.length * 2 := by
  unfold pairCells; induction ps with
  | nil => rfl
  | cons p r ih => rw [List.flatMap_cons, List.length_append, ih]; simp; omega
theorem pairCells_snoc (ps : List (Int × Int)) (p : Int × Int) : pairCells (ps ++ [p]) = pairCells ps ++ [.int .i64 p.1, .int .i64 p.2] := by
  unfold pairCells; simp
theorem pairCells_at : ∀ (ps : List (Int × Int)) (i : Nat), i < ps.length → (pairCells ps)[i * 2]? = some (.int .i64 (ps.getD i (0, 0)).1) ∧ (pairCells ps)[i * 2 + 1]? = some (.int .i64 (ps.getD i (0, 0)).2)
  | [], _, h => by simp at h
  | p :: r, 0, _ => ⟨rfl, rfl⟩
  | p :: r, i + 1, h => by
    have := pairCells_at r i (by simpa using h)
    have e : pairCells (p :: r) = .int .i64 p.1 :: .int .i64 p.2 :: pairCells r := rfl
    rw [e, show (i + 1) * 2 = i * 2 + 1 + 1 by omega]
    exact this
theorem own_am {w : World} {base : Nat} {v : Value} {ps : List (Int × Int)} (h : w.ownsRow base 26 2 v ps.length (pairCells ps)) : ∃ a cap, v = .slice a ps.length cap ∧ Am w a ps := by
  rcases h.2 with ⟨hv, hn⟩ | ⟨g, cap, cur, hv, hb, hg, hle, hm, hs, ht⟩
  · exact ⟨none, 0, by rw [hv, hn], fun i hi => by omega⟩
  · refine ⟨some ⟨g, 0, none⟩, cap, hv, fun i hi => ⟨g, 0, rfl, (Array.getElem?_eq_some_iff.1 hg).1, ?_⟩⟩
    subst hv
    obtain ⟨h1, h2⟩ := pairCells_at ps i hi
    have c1 := World.ownsRow.cellAt h (i * 2) (by omega)
    have c2 := World.ownsRow.cellAt h (i * 2 + 1) (by omega)
    rw [Nat.zero_add]
    exact ⟨c1.trans h1, c2.trans h2⟩
theorem take_rev {α : Type} {l : List α} {k : Nat} {d x : α} (hk : k < l.length) (hx : l.getD (l.length - 1 - k) d = x) : l.reverse.take (k + 1) = l.reverse.take k ++ [x] := by
  rw [List.take_succ_eq_append_getElem (by simpa using hk)]
  congr 2
  rw [List.getElem_reverse, ← hx, List.getD_eq_getElem?_getD, List.getElem?_eq_getElem (by omega)]
  rfl

/-! ### The plain law of sums -/
def sum1 (ps : List (Int × Int)) : Int := (ps.map (·.1)).foldr (· + ·) 0
def sum2 (ps : List (Int × Int)) : Int := (ps.map (·.2)).foldr (· + ·) 0
theorem foldr_add (l : List Int) (n : Int) : l.foldr (· + ·) n = l.foldr (· + ·) 0 + n := by
  induction l with
  | nil => simp
  | cons x r ih => simp only [List.foldr_cons]; rw [ih]; omega
theorem sum1_append (a b : List (Int × Int)) : sum1 (a ++ b) = sum1 a + sum1 b := by
  unfold sum1; rw [List.map_append, List.foldr_append, foldr_add]
theorem sum2_append (a b : List (Int × Int)) : sum2 (a ++ b) = sum2 a + sum2 b := by
  unfold sum2; rw [List.map_append, List.foldr_append, foldr_add]
theorem sum1_cons (p : Int × Int) (r : List (Int × Int)) : sum1 (p :: r) = p.1 + sum1 r := rfl
theorem sum2_cons (p : Int × Int) (r : List (Int × Int)) : sum2 (p :: r) = p.2 + sum2 r := rfl
theorem sum1_rev (ps : List (Int × Int)) : sum1 ps.reverse = sum1 ps := by
  induction ps with
  | nil => rfl
  | cons p r ih => rw [List.reverse_cons, sum1_append, ih]; show sum1 r + (p.1 + 0) = p.1 + sum1 r; omega
theorem sum2_rev (ps : List (Int × Int)) : sum2 ps.reverse = sum2 ps := by
  induction ps with
  | nil => rfl
  | cons p r ih => rw [List.reverse_cons, sum2_append, ih]; show sum2 r + (p.2 + 0) = p.2 + sum2 r; omega
/-- Each element is a pair of amounts. -/
def allOk (ps : List (Int × Int)) : Prop := ∀ p ∈ ps, chkAll p.1 p.2 = 0
theorem firstBad_zero (ps : List (Int × Int)) : firstBad ps = 0 ↔ allOk ps := by
  induction ps with
  | nil => exact ⟨fun _ p hp => by simp at hp, fun _ => rfl⟩
  | cons p r ih =>
    obtain ⟨x, y⟩ := p
    rcases h : (chkAll x y != 0) with _ | _
    · rw [firstBad_good h, ih]
      have h0 : chkAll x y = 0 := by simpa using h
      exact ⟨fun hr p hp => by
        rcases List.mem_cons.1 hp with rfl | hp
        · exact h0
        · exact hr p hp, fun hr p hp => hr p (by simp [hp])⟩
    · rw [firstBad_bad h]
      exact ⟨fun h2 => by rw [h2] at h; simp at h, fun hr => hr (x, y) (by simp)⟩
theorem allOk_rev (ps : List (Int × Int)) : allOk ps.reverse ↔ allOk ps := by unfold allOk; simp only [List.mem_reverse]
theorem sums_nonneg {ps : List (Int × Int)} (h : allOk ps) : 0 ≤ sum1 ps ∧ 0 ≤ sum2 ps := by
  induction ps with
  | nil => exact ⟨by decide, by decide⟩
  | cons p r ih =>
    have h1 := chkAll_zero_iff.1 (h p (by simp))
    have h2 := ih fun q hq => h q (by simp [hq])
    rw [sum1_cons, sum2_cons]; omega
/-- The sums one by one, from amounts that fit, are the sums, unless one is beyond. -/
theorem rgo_sum (ps : List (Int × Int)) : ∀ s t : Int, allOk ps → 0 ≤ s → s ≤ 1125899906842624 → 0 ≤ t → t ≤ 1125899906842624 →
    rgo s t ps = if s + sum1 ps ≤ 1125899906842624 ∧ t + sum2 ps ≤ 1125899906842624 then (s + sum1 ps, t + sum2 ps, 0) else (0, 0, 10) := by
  induction ps with
  | nil =>
    intro s t _ h1 h2 h3 h4
    rw [if_pos (by show s + 0 ≤ _ ∧ t + 0 ≤ _; omega)]
    show (s, t, (0 : Int)) = (s + 0, t + 0, 0)
    simp
  | cons p r ih =>
    intro s t h h1 h2 h3 h4
    obtain ⟨x, y⟩ := p
    have hp := chkAll_zero_iff.1 (h (x, y) (by simp))
    have hr : allOk r := fun q hq => h q (by simp [hq])
    have hn := sums_nonneg hr
    rw [sum1_cons, sum2_cons]
    by_cases h5 : s + x ≤ 1125899906842624 ∧ t + y ≤ 1125899906842624
    · have h6 : addE s t x y = 0 := addE_zero.2 ⟨by omega, h5⟩
      rw [rgo_step (by rw [h6]; rfl), addV_ok h6, addV_ok h6, ih _ _ hr (by omega) h5.1 (by omega) h5.2]
      simp only [Int.add_assoc]
    · have h6 : addE s t x y ≠ 0 := fun h7 => h5 (addE_zero.1 h7).2
      rw [rgo_bad (by simpa using h6), if_neg]
      intro h7; apply h5; dsimp only at h7; omega
theorem sum_form (ps : List (Int × Int)) : (firstBad ps ≠ 0 → sumGo 0 0 false ps = (0, 0, firstBad ps)) ∧
    (allOk ps → sumGo 0 0 false ps = if sum1 ps ≤ 1125899906842624 ∧ sum2 ps ≤ 1125899906842624 then (sum1 ps, sum2 ps, 0) else (0, 0, 10)) := by
  refine ⟨sumGo_bad ps 0 0 false, fun h => ?_⟩
  rw [sumGo_rgo ps 0 0 ((firstBad_zero ps).2 h), rgo_sum ps 0 0 h (by omega) (by omega) (by omega) (by omega)]
  simp only [Int.zero_add]
/-- **From behind it is the same sum, or none either.** -/
theorem sum_rev (ps : List (Int × Int)) : ((sumGo 0 0 false ps).2.2 == 0) = ((sumGo 0 0 false ps.reverse).2.2 == 0) ∧ (sumGo 0 0 false ps).1 = (sumGo 0 0 false ps.reverse).1 ∧ (sumGo 0 0 false ps).2.1 = (sumGo 0 0 false ps.reverse).2.1 := by
  by_cases h : allOk ps
  · have h' := (allOk_rev ps).2 h
    rw [(sum_form ps).2 h, (sum_form ps.reverse).2 h', sum1_rev, sum2_rev]
    exact ⟨rfl, rfl, rfl⟩
  · have h1 : firstBad ps ≠ 0 := fun h2 => h ((firstBad_zero ps).1 h2)
    have h2 : firstBad ps.reverse ≠ 0 := fun h3 => h ((allOk_rev ps).1 ((firstBad_zero _).1 h3))
    rw [(sum_form ps).1 h1, (sum_form ps.reverse).1 h2]
    refine ⟨?_, rfl, rfl⟩
    show (firstBad ps == 0) = (firstBad ps.reverse == 0)
    rw [show (firstBad ps == 0) = false by simpa using h1, show (firstBad ps.reverse == 0) = false by simpa using h2]
/-- What Add makes one by one, till it fails. -/
def oneGo : Int → Int → List (Int × Int) → Int × Int × Bool
  | s, t, [] => (s, t, true)
  | s, t, p :: r => if addE s t p.1 p.2 != 0 then (s, t, false) else oneGo (addV s t p.1 p.2 s p.1) (addV s t p.1 p.2 t p.2) r
theorem oneGo_bad {s t x y : Int} {r : List (Int × Int)} (h : (addE s t x y != 0) = true) : oneGo s t ((x, y) :: r) = (s, t, false) := by
  unfold oneGo; rw [if_pos h]
theorem oneGo_step {s t x y : Int} {r : List (Int × Int)} (h : (addE s t x y != 0) = false) : oneGo s t ((x, y) :: r) = oneGo (addV s t x y s x) (addV s t x y t y) r := by
  rw [oneGo]; simp [h]
theorem oneGo_sum (ps : List (Int × Int)) : ∀ s t : Int, 0 ≤ s → s ≤ 1125899906842624 → 0 ≤ t → t ≤ 1125899906842624 →
    ((oneGo s t ps).2.2 = true ↔ allOk ps ∧ s + sum1 ps ≤ 1125899906842624 ∧ t + sum2 ps ≤ 1125899906842624) ∧ ((oneGo s t ps).2.2 = true → (oneGo s t ps).1 = s + sum1 ps ∧ (oneGo s t ps).2.1 = t + sum2 ps) := by
  induction ps with
  | nil =>
    intro s t h1 h2 h3 h4
    refine ⟨⟨fun _ => ⟨fun p hp => by simp at hp, ?_⟩, fun _ => rfl⟩, fun _ => ?_⟩
    · show s + 0 ≤ _ ∧ t + 0 ≤ _; omega
    · show s = s + 0 ∧ t = t + 0; omega
  | cons p r ih =>
    intro s t h1 h2 h3 h4
    obtain ⟨x, y⟩ := p
    rw [sum1_cons, sum2_cons]
    by_cases h6 : addE s t x y = 0
    · have h5 := addE_zero.1 h6
      rw [oneGo_step (by rw [h6]; rfl), addV_ok h6, addV_ok h6]
      obtain ⟨i1, i2⟩ := ih (s + x) (t + y) (by omega) h5.2.1 (by omega) h5.2.2
      refine ⟨i1.trans ⟨fun ⟨a, b, c⟩ => ⟨fun q hq => ?_, by omega⟩, fun ⟨a, b, c⟩ => ⟨fun q hq => a q (by simp [hq]), by dsimp only at b c; omega⟩⟩, fun h => ?_⟩
      · rcases List.mem_cons.1 hq with rfl | hq
        · exact chkAll_zero_iff.2 h5.1.2
        · exact a q hq
      · have := i2 h; dsimp only; omega
    · rw [oneGo_bad (by simpa using h6)]
      refine ⟨⟨fun h => by simp at h, fun ⟨a, b, c⟩ => ?_⟩, fun h => by simp at h⟩
      exfalso
      apply h6
      have hp := chkAll_zero_iff.1 (a (x, y) (by simp))
      have hn := sums_nonneg (fun q hq => a q (by simp [hq]) : allOk r)
      dsimp only at b c hp
      exact addE_zero.2 (by omega)
theorem one_sum (ps : List (Int × Int)) : ((sumGo 0 0 false ps).2.2 == 0) = (oneGo 0 0 ps).2.2 ∧ ((oneGo 0 0 ps).2.2 = true → (sumGo 0 0 false ps).1 = (oneGo 0 0 ps).1 ∧ (sumGo 0 0 false ps).2.1 = (oneGo 0 0 ps).2.1) := by
  obtain ⟨h1, h2⟩ := oneGo_sum ps 0 0 (by omega) (by omega) (by omega) (by omega)
  simp only [Int.zero_add] at h1 h2
  by_cases h : allOk ps
  · rw [(sum_form ps).2 h]
    by_cases h3 : sum1 ps ≤ 1125899906842624 ∧ sum2 ps ≤ 1125899906842624
    · rw [if_pos h3]
      have h4 := h1.2 ⟨h, h3⟩
      rw [h4]
      exact ⟨rfl, fun _ => ⟨(h2 h4).1.symm, (h2 h4).2.symm⟩⟩
    · rw [if_neg h3]
      have h4 : (oneGo 0 0 ps).2.2 = false := by
        rcases h5 : (oneGo 0 0 ps).2.2 with _ | _
        · rfl
        · exact absurd (h1.1 h5).2 h3
      rw [h4]; exact ⟨rfl, fun h => by simp at h⟩
  · have h3 : firstBad ps ≠ 0 := fun h2 => h ((firstBad_zero ps).1 h2)
    rw [(sum_form ps).1 h3]
    have h4 : (oneGo 0 0 ps).2.2 = false := by
      rcases h5 : (oneGo 0 0 ps).2.2 with _ | _
      · rfl
      · exact absurd (h1.1 h5).1 h
    rw [h4]
    exact ⟨by simpa using h3, fun h => by simp at h⟩

end Go.Proofs.Ytnaphpgbmjpicaa
