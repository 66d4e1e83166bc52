/- Plain laws of a list less one: what is used, what is free, what a pool's claims have. -/
import Derived.Test.YtnaphpgbmjpicaaS9
namespace Go.Proofs.Ytnaphpgbmjpicaa
open Go.RowKit

theorem sum_zero {ps : List (Int × Int)} {a b : Int} (h : sumGo 0 0 false ps = (a, b, 0)) : allOk ps ∧ a = sum1 ps ∧ b = sum2 ps ∧ sum1 ps ≤ 1125899906842624 ∧ sum2 ps ≤ 1125899906842624 := by
  obtain ⟨h1, h2⟩ := sum_form ps
  by_cases hf : firstBad ps = 0
  · have hok := (firstBad_zero ps).1 hf
    have h3 := h2 hok
    rw [h] at h3
    split at h3
    · rename_i hs
      simp only [Prod.mk.injEq, and_true] at h3
      exact ⟨hok, h3.1, h3.2, hs.1, hs.2⟩
    · simp at h3
  · have h3 := h1 hf
    rw [h] at h3
    simp only [Prod.mk.injEq] at h3
    exact absurd h3.2.2.symm hf
theorem sum_make {ps : List (Int × Int)} (hok : allOk ps) (h1 : sum1 ps ≤ 1125899906842624) (h2 : sum2 ps ≤ 1125899906842624) : sumGo 0 0 false ps = (sum1 ps, sum2 ps, 0) := by
  obtain ⟨_, h⟩ := sum_form ps
  have h3 := h hok
  rw [h3]
  rw [if_pos ⟨h1, h2⟩]
theorem sel_append {α : Type} (p : α → Bool) (f : α → Int × Int) (a b : List α) : sel p f (a ++ b) = sel p f a ++ sel p f b := by unfold sel; rw [List.filter_append, List.map_append]
theorem cut_at {α : Type} {l : List α} {k : Nat} {d x : α} (h : k < l.length) (hx : l.getD k d = x) : l = l.take k ++ x :: l.drop (k + 1) := by
  rw [← drop_at h hx, List.take_append_drop]
/-- The place that is meant. -/
theorem which_at (m : Int) {n : Nat} (h : 0 < n) (hn : n ≤ 4611686018427387904) : ∃ k : Nat, k < n ∧ (wrap64 (m.tmod (n : Int) + (n : Int))).tmod (n : Int) = (k : Int) := by
  have h1 : -(n : Int) < m.tmod (n : Int) := by
    rcases Int.le_total 0 m with h | h
    · have := Int.tmod_nonneg (n : Int) h; omega
    · have e : m.tmod (n : Int) = -((-m).tmod (n : Int)) := by rw [Int.neg_tmod]; omega
      have := Int.tmod_lt_of_pos (-m) (show (0 : Int) < (n : Int) by omega)
      omega
  have h2 : m.tmod (n : Int) < (n : Int) := Int.tmod_lt_of_pos m (by omega)
  have h3 : wrap64 (m.tmod (n : Int) + (n : Int)) = m.tmod (n : Int) + (n : Int) := by
    unfold wrap64
    omega
  rw [h3]
  have h4 := Int.tmod_nonneg (n : Int) (show 0 ≤ m.tmod (n : Int) + (n : Int) by omega)
  have h5 := Int.tmod_lt_of_pos (m.tmod (n : Int) + (n : Int)) (show (0 : Int) < (n : Int) by omega)
  exact ⟨((m.tmod (n : Int) + (n : Int)).tmod (n : Int)).toNat, by omega, by omega⟩
/-- A list's sum, and that of the list less one. -/
theorem sum_less {α : Type} {p : α → Bool} {f : α → Int × Int} {l : List α} {k : Nat} {d x : α} (h : k < l.length) (hx : l.getD k d = x) {a b : Int} (hs : sumGo 0 0 false (sel p f l) = (a, b, 0)) :
    ∃ a' b', sumGo 0 0 false (sel p f (l.take k ++ l.drop (k + 1))) = (a', b', 0) ∧ (0 ≤ a' ∧ 0 ≤ b') ∧ (a ≤ 1125899906842624 ∧ b ≤ 1125899906842624) ∧
      if p x then chkAll (f x).1 (f x).2 = 0 ∧ a = a' + (f x).1 ∧ b = b' + (f x).2 else a = a' ∧ b = b' := by
  have hl := congrArg (sel p f) (cut_at h hx)
  rw [sel_append, show x :: l.drop (k + 1) = [x] ++ l.drop (k + 1) from rfl, sel_append] at hl
  rw [hl] at hs
  obtain ⟨hok, ha, hb, m1, m2⟩ := sum_zero hs
  have hokL : allOk (sel p f (l.take k) ++ sel p f (l.drop (k + 1))) := fun q hq => hok q (by
    rcases List.mem_append.1 hq with h | h
    · exact List.mem_append.2 (Or.inl h)
    · exact List.mem_append.2 (Or.inr (List.mem_append.2 (Or.inr h))))
  have hokX : allOk (sel p f [x]) := fun q hq => hok q (List.mem_append.2 (Or.inr (List.mem_append.2 (Or.inl hq))))
  obtain ⟨n1, n2⟩ := sums_nonneg hokX
  obtain ⟨n3, n4⟩ := sums_nonneg hokL
  rw [sum1_append, sum1_append] at ha m1
  rw [sum2_append, sum2_append] at hb m2
  rw [sum1_append] at n3
  rw [sum2_append] at n4
  refine ⟨_, _, by rw [sel_append]; exact sum_make hokL (by rw [sum1_append]; omega) (by rw [sum2_append]; omega), ⟨by rw [sum1_append]; exact n3, by rw [sum2_append]; exact n4⟩, ⟨by omega, by omega⟩, ?_⟩
  rw [sum1_append, sum2_append]
  cases hp : p x with
  | true =>
    have e : sel p f [x] = [f x] := by simp [sel, hp]
    rw [e] at ha hb hokX
    have e1 : sum1 [f x] = (f x).1 := by simp [sum1]
    have e2 : sum2 [f x] = (f x).2 := by simp [sum2]
    rw [e1] at ha
    rw [e2] at hb
    exact ⟨hokX (f x) (by simp), by omega, by omega⟩
  | false =>
    have e : sel p f [x] = [] := by simp [sel, hp]
    rw [e] at ha hb
    have e1 : sum1 ([] : List (Int × Int)) = 0 := rfl
    have e2 : sum2 ([] : List (Int × Int)) = 0 := rfl
    rw [e1] at ha
    rw [e2] at hb
    exact ⟨by omega, by omega⟩

/-- The snapshot with other pods. -/
def Sn.withPods (n : Sn) (a : Option Addr) (ps : List Pd) (cap : Nat) : Sn := { n with pa := a, ps := ps, pcap := cap }
def Sn.withClaims (n : Sn) (a : Option Addr) (cs : List Cl) (cap : Nat) : Sn := { n with ca := a, cs := cs, ccap := cap }
theorem sumIf_ok {is : Bool} {l : List (Int × Int)} {a b : Int} (h : sumIf is l = (a, b, 0)) : is = true ∧ sumGo 0 0 false l = (a, b, 0) := by
  cases is with
  | false => cases h
  | true => exact ⟨rfl, h⟩
/-- A pod less uses no more, and frees no less. -/
theorem less_plain {n : Sn} {s : ByteArray} {k : Nat} (hk : k < n.ps.length) (a : Option Addr) (cap : Nat) {a0 a1 f0 f1 : Int} (hU : usedOf n s = (a0, a1, 0)) (hF : freeOf n s = (f0, f1, 0)) :
    ∃ c0 c1 d0 d1, usedOf (n.withPods a (n.ps.take k ++ n.ps.drop (k + 1)) cap) s = (c0, c1, 0) ∧ freeOf (n.withPods a (n.ps.take k ++ n.ps.drop (k + 1)) cap) s = (d0, d1, 0) ∧ fitsB c0 c1 a0 a1 = true ∧ fitsB f0 f1 d0 d1 = true := by
  obtain ⟨hany, hs⟩ := sumIf_ok hU
  obtain ⟨c0, c1, h1, h2, h3, h4⟩ := sum_less (d := default) hk rfl hs
  have hU2 : usedOf (n.withPods a (n.ps.take k ++ n.ps.drop (k + 1)) cap) s = (c0, c1, 0) := by
    show sumIf (n.cs.any fun c => c.name.toList == s.toList) _ = _
    rw [hany]; exact h1
  have hle : c0 ≤ a0 ∧ c1 ≤ a1 := by
    split at h4
    · obtain ⟨h5, h6, h7⟩ := h4
      obtain ⟨⟨q1, q2⟩, q3, q4⟩ := chkAll_zero_iff.1 h5
      omega
    · omega
  obtain ⟨j, hj, _, hfind⟩ := idx_at (p := fun c : Cl => c.name.toList == s.toList) n.cs 0 hany
  unfold freeOf at hF
  rw [hU, hfind] at hF
  obtain ⟨e0, e1, e2⟩ := free_inv hF
  obtain ⟨⟨q1, q2⟩, q3, q4⟩ := chkAll_zero_iff.1 e0
  refine ⟨c0, c1, max 0 ((n.cs.getD j default).x - c0), max 0 ((n.cs.getD j default).y - c1), hU2, ?_, fits_iff.2 (by omega), ?_⟩
  · unfold freeOf
    rw [hU2]
    show freeFrom _ (n.cs.find? _) = _
    rw [hfind, free_ok (by rw [e0]; rfl)]
  · exact fits_iff.2 (by omega)
/-- A claim less is just its own less. -/
theorem pools_plain {n : Sn} {s : ByteArray} {k : Nat} (hk : k < n.cs.length) (a : Option Addr) (cap : Nat) {a0 a1 : Int} (hU : poolOf n s = (a0, a1, 0)) :
    ∃ c0 c1, poolOf (n.withClaims a (n.cs.take k ++ n.cs.drop (k + 1)) cap) s = (c0, c1, 0) ∧
      (((n.cs.getD k default).pool.toList == s.toList) = false → a0 = c0 ∧ a1 = c1) ∧
      (((n.cs.getD k default).pool.toList == s.toList) = true → addE c0 c1 (n.cs.getD k default).x (n.cs.getD k default).y = 0 ∧ addV c0 c1 (n.cs.getD k default).x (n.cs.getD k default).y c0 (n.cs.getD k default).x = a0 ∧ addV c0 c1 (n.cs.getD k default).x (n.cs.getD k default).y c1 (n.cs.getD k default).y = a1) := by
  obtain ⟨hany, hs⟩ := sumIf_ok hU
  obtain ⟨c0, c1, h1, h2, h3, h4⟩ := sum_less (d := default) hk rfl hs
  refine ⟨c0, c1, ?_, fun hp => ?_, fun hp => ?_⟩
  · show sumIf (n.qs.any fun c => c.name.toList == s.toList) _ = _
    rw [hany]; exact h1
  · rw [if_neg (by rw [hp]; decide)] at h4
    exact h4
  · rw [if_pos hp] at h4
    obtain ⟨h5, h6, h7⟩ := h4
    obtain ⟨⟨q1, q2⟩, q3, q4⟩ := chkAll_zero_iff.1 h5
    dsimp only at q1 q2 q3 q4 h6 h7
    have he : addE c0 c1 (n.cs.getD k default).x (n.cs.getD k default).y = 0 := addE_zero.2 ⟨⟨by omega, by omega⟩, by omega, by omega⟩
    exact ⟨he, by rw [addV_ok he]; omega, by rw [addV_ok he]; omega⟩
end Go.Proofs.Ytnaphpgbmjpicaa
