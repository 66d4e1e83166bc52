/- The reference's Digits. -/
import Derived.Test.YtpoegpojlcbfgaaDoorRd
import Derived.Laws.IdiomStrings
namespace Go.Proofs.YtpoegpojlcbfgaaDoor
open Go.RowKit
attribute [local go_sem] RegRel.relUpon RegRel.opOk

theorem conv_one (w : World) (B d : Nat) (hd : d < 256) (h : w.cell? ⟨B, 0, none⟩ = some (.int .u8 d)) : (convert 75 9 (.slice (some ⟨B, 0, none⟩) 1 1)).run Tryd.prog w = .ok (.string ⟨#[UInt8.ofNat d]⟩) w := by
  have := run_convert_bytes_back (P := Tryd.prog) w 75 9 5 ⟨B, 0, none⟩ 1 [UInt8.ofNat d] (by kernel_rfl) (by kernel_rfl) (by kernel_rfl) (fun j hj => by
    have hj0 : j = 0 := by simpa using hj
    subst hj0
    rw [Addr.add_lit, h]
    simp [Nat.mod_eq_of_lt hd])
  simpa using this
/-- A digit. -/
def dg (n : Nat) : UInt8 := UInt8.ofNat (48 + n)
theorem conv_dg (w : World) (B n : Nat) (hn : n < 10) (h : w.cell? ⟨B, 0, none⟩ = some (.int .u8 (48 + (n : Int)))) : (convert 75 9 (.slice (some ⟨B, 0, none⟩) 1 1)).run Tryd.prog w = .ok (.string ⟨#[dg n]⟩) w :=
  conv_one w B (48 + n) (by omega) (by rw [h]; simp)
theorem wrap_dg : ∀ d : Nat, d < 10 → IntKind.u8.wrap (48 + (d : Int)) = 48 + d := by decide
theorem cat_one (a b : UInt8) : (⟨#[a]⟩ : ByteArray) ++ ⟨#[b]⟩ = ⟨#[a, b]⟩ := by
  apply ByteArray.ext
  simp [ByteArray.data_append]
def oneByte (B : Nat) (d : Int) : RegRel.Ent := ⟨none, fun v _ w => ∃ g, v = .slice (some ⟨g, 0, none⟩) 1 1 ∧ B ≤ g ∧ g < w.heap.size ∧ w.cell? ⟨g, 0, none⟩ = some (.int .u8 d)⟩
theorem stable_one (B : Nat) (d : Int) : RegRel.Stable (oneByte B d).p := by
  rintro v v' w w' hb ⟨g, rfl, h1, h2, h3⟩
  exact ⟨g, rfl, h1, Nat.lt_of_lt_of_le h2 hb.size, (hb.cell (p := ⟨g, 0, none⟩) h2).trans h3⟩

set_option maxRecDepth 100000 in
theorem digit_any (n : Nat) (hn : n < 10) (w : World) :
    Calls Tryd.prog 34 #[.int .i64 n] w fun e w' => e = .returned (.string ⟨#[dg n]⟩) ∧ Below w.heap.size w w' := by
  have hc := conv_dg (w.alloc (.cells #[.int .u8 (48 + n)] 5)) w.heap.size n hn (by rw [World.cell?_alloc_new]; rfl)
  go_enter Tryd.func34, Tryd.ntmps34
  go_wp2_with fail
  go_ret
  exact ⟨rfl, below_new _ _⟩
set_option maxRecDepth 100000 in
set_option maxHeartbeats 1000000 in
theorem digits_any (n : Nat) (hn : n < 100) (w : World) :
    Calls Tryd.prog 34 #[.int .i64 n] w fun e w' => e = .returned (.string ⟨(Lib.decDigits n).toArray⟩) ∧ Below w.heap.size w w' := by
  by_cases h10 : n < 10
  · refine (digit_any n h10 w).mono ?_
    rintro e w' ⟨rfl, hb⟩
    refine ⟨?_, hb⟩
    unfold Lib.decDigits
    rw [dif_pos h10]
    rfl
  · obtain ⟨q, d, hq, hq1, hd, rfl⟩ : ∃ q d, q < 10 ∧ 1 ≤ q ∧ d < 10 ∧ n = 10 * q + d := ⟨n / 10, n % 10, by omega, by omega, by omega, by omega⟩
    have hres : Lib.decDigits (10 * q + d) = [dg q, dg d] := by
      unfold Lib.decDigits
      rw [dif_neg h10]
      unfold Lib.decDigits
      rw [dif_pos (by omega), show (10 * q + d) / 10 = q by omega, show (10 * q + d) % 10 = d by omega]
      rfl
    have hdiv : Int.tdiv ((10 * q + d : Nat) : Int) 10 = (q : Int) := by rw [Int.tdiv_eq_ediv_of_nonneg (by omega)]; omega
    have hmod : Int.tmod ((10 * q + d : Nat) : Int) 10 = (d : Int) := by rw [Int.tmod_eq_emod_of_nonneg (by omega)]; omega
    have HD := Lib.hid (digit_any q hq)
    have hlt : ¬ ((10 * q + d : Nat) : Int) < 10 := by omega
    rw [hres]
    generalize hN : (10 * q + d : Nat) = N at hdiv hmod hlt h10 hn
    clear hres hN
    go_enter Tryd.func34, Tryd.ntmps34
    go_wp2_with fail
    refine RegRel.wp_region_bel 10 7 (by kernel_rfl) (by kernel_rfl) [RegRel.is (.int .i64 N), RegRel.is (.int .i64 q), RegRel.is (.string ⟨#[dg q]⟩), RegRel.is (.int .i64 N), RegRel.is (.int .i64 d), RegRel.is (.int .i64 (48 + d)), RegRel.is (.int .u8 (48 + d)), oneByte w.heap.size (48 + d), RegRel.is (.string ⟨#[dg d]⟩), RegRel.is (.string ⟨#[dg q, dg d]⟩)]
      (by simp [RegRel.AllStable, RegRel.stable_is, RegRel.tough_is, stable_one]) rfl (by kernel_rfl) ?_ ?_
    · simp only [List.take_succ_cons, List.take_zero, RegRel.OpsOk, RegRel.puts]
      refine ⟨?_, ?_, ?_, ?_, ?_, ?_, ?_, ?_, ?_, ?_, trivial⟩
      all_goals
        intro u w' hC hD
        try simp [RegRel.DepsOk, Region.binds, RegRel.ent, RegRel.is, oneByte] at hD
        go_simp
      all_goals (try simp [RegRel.ent, RegRel.is, RegRel.step, RegRel.upd, Below.refl])
      · exact (IntWalk.i64_left _).trans (IntWalk.wrap64_in _ (by omega))
      · exact (HD.out w').mono fun e w'' ⟨he, hb⟩ => ⟨_, he, rfl, hb⟩
      · exact (IntWalk.i64_left _).trans (IntWalk.wrap64_in _ (by omega))
      · exact wrap_dg d hd
      · exact ⟨⟨w'.heap.size, rfl, hC.size, by simp, by rw [World.cell?_alloc_new]; rfl⟩, (below_new _ _).mono hC.size, RegRel.Shaped.of_below (below_new _ _)⟩
      · obtain ⟨g, e1, _, _, e2⟩ := hD
        rw [e1, conv_dg w' g d hd e2]
        simp [RegRel.relUpon, Result.andThen, RegRel.step, Below.refl]
      · exact cat_one _ _
    · intro u w5 hC hv
      simp only [List.take_succ_cons, List.take_zero, List.drop_succ_cons, List.drop_zero, RegRel.puts]
      simp [RegRel.allV, RegRel.is, oneByte] at hv
      obtain ⟨g0, g1, g2, g3, g4, g5, g6, g7, g8, g9⟩ := hv
      go_wp2_with fail
      go_ret
      exact ⟨rfl, hC⟩
end Go.Proofs.YtpoegpojlcbfgaaDoor
