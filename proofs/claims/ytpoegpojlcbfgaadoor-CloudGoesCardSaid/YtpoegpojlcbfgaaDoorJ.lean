/- The chapter's example: its clouds, plainly. -/
import Derived.Test.YtpoegpojlcbfgaaDoorI
namespace Go.Proofs.YtpoegpojlcbfgaaDoor
open Go.RowKit

def i1 : ByteArray := ⟨#[105, 49]⟩
def k1 : ByteArray := ⟨#[99, 49, 47, 49]⟩
def k2 : ByteArray := ⟨#[99, 50, 47, 49]⟩
def o1 : Of := ⟨⟨#[115]⟩, ⟨#[97]⟩, ⟨#[115, 112, 111, 116]⟩⟩
def o2 : Of := ⟨⟨#[108]⟩, ⟨#[97]⟩, ⟨#[111, 100]⟩⟩
def x1 (st : Int) : In := ⟨i1, k1, o1, st, 8⟩
def C1 : Cd := ⟨[], [], [], 3, [], 0⟩
def C2 : Cd := ⟨[x1 0], [], [], 3, [], 1⟩
def C3 : Cd := ⟨[x1 0], [], [(o1, 0)], 3, [], 1⟩
def C4 : Cd := ⟨[x1 0], [i1], [(o1, 0)], 3, [], 2⟩
theorem id1 : idStr (0 + 1) = i1 := by
  unfold idStr Lib.decDigits i1
  rfl
theorem named1 : namedB o1 = true := by simp [namedB, emp, o1]
theorem named2 : namedB o2 = true := by simp [namedB, emp, o2]
theorem s1 : Cd.new.delay 3 = C1 := rfl
theorem bad1 : badL k1 o1 5 = false := by simp [badL, emp, k1, named1, ByteArray.size]
theorem bad2 : badL k1 o2 9 = false := by simp [badL, emp, k1, named2, ByteArray.size]
theorem bad3 : badL k2 o1 9 = false := by simp [badL, emp, k2, named1, ByteArray.size]
theorem same1 : same o1 o1 = true := same_self _
theorem sqk : sq k1 k2 = false := by simp [sq, k1, k2]
theorem e2 : launchE C1 k1 o1 5 = (i1, 0) := by
  unfold launchE
  rw [bad1]
  show (idStr (0 + 1), (0 : Int)) = _
  rw [id1]
theorem s2 : C1.launch k1 o1 5 = C2 := by
  unfold Cd.launch
  rw [bad1]
  show (⟨[⟨idStr (0 + 1), k1, o1, 0, min 1099511627776 (wrap64 (5 + 3))⟩], [], [], 3, [], wrap64 (0 + 1)⟩ : Cd) = _
  have h8 : min (1099511627776 : Int) (wrap64 (5 + 3)) = 8 := by unfold wrap64; omega
  have h1 : wrap64 (0 + 1) = 1 := by unfold wrap64; omega
  rw [id1, h8, h1]
  rfl
theorem n2 : C2.insts 7 = [x1 1] := rfl
theorem n3 : C2.insts 8 = [x1 2] := rfl
theorem e4 : launchE C2 k1 o2 9 = (i1, 0) := by
  unfold launchE
  rw [bad2]
  simp [C2, x1, sq_self]
theorem s4 : C2.launch k1 o2 9 = C2 := by
  unfold Cd.launch
  rw [bad2]
  simp [C2, x1, sq_self]
theorem e5 : setE o1 0 = 0 := by simp [setE, named1]
theorem s5 : C2.set o1 0 = C3 := by simp [Cd.set, named1, C2, C3, setStock]
theorem e6 : launchE C3 k2 o1 9 = (⟨#[]⟩, 110) := by
  unfold launchE
  rw [bad3]
  simp [C3, x1, sqk, takeOk, stockOf, same1]
theorem s6 : C3.launch k2 o1 9 = C3 := by
  unfold Cd.launch
  rw [bad3]
  simp [C3, x1, sqk, takeOk, stockOf, same1]
theorem e7 : endE C3 i1 = 0 := by simp [endE, C3, x1, sq_self, has]
theorem s7 : C3.fin i1 = C4 := by
  have h2 : wrap64 2 = 2 := by unfold wrap64; omega
  simp [Cd.fin, C3, C4, x1, sq_self, has, h2]
theorem e8 : endE C4 i1 = 4 := by simp [endE, C4, x1, sq_self, has]
theorem s8 : C4.fin i1 = C4 := by simp [Cd.fin, C4, x1, sq_self, has]

theorem keep_row {F F' : List Nat} {a b : World} {e : TypeId} {size n : Nat} {o : Option Nat} {v : Value} {xs : List Value} (hs : Step F F' a b) (hr : Rowed a e size o v n xs) (hn : ∀ g, o = some g → g ∉ F) : Rowed b e size o v n xs ∧ ∀ g, o = some g → g ∉ F' :=
  ⟨hs.rowed hr hn, fun g hg => hs.not_in (hr.lt hg) (hn g hg)⟩
theorem keep_box {F F' : List Nat} {a b : World} {B : Nat} {cs : Array Value} (hs : Step F F' a b) (hB : B < a.heap.size) (hn : B ∉ F) (hc : ∀ j, a.cell? ⟨B, j, none⟩ = cs[j]?) : (∀ j, b.cell? ⟨B, j, none⟩ = cs[j]?) ∧ B ∉ F' ∧ B < b.heap.size :=
  ⟨fun j => (hs.cell (p := ⟨B, j, none⟩) hB hn).trans (hc j), hs.not_in hB hn, Nat.lt_of_lt_of_le hB hs.size⟩
theorem Own.new_not {w : World} {p : Nat} {c : Cd} {F : List Nat} (h : Own w p c F) {k : Nat} (hk : w.heap.size ≤ k) : k ∉ F := fun hm => by have := h.lt k hm; omega
set_option maxRecDepth 100000 in
set_option maxHeartbeats 4000000 in
theorem live_any (w : World) : Calls Tryd.prog 8 #[] w fun e w' => e = .returned (.bool true) ∧ Below w.heap.size w w' := by
  have L1 := fun (p : Nat) (F : List Nat) (w : World) (h : Own w p C1 F) => launch_any C1 p F w k1 o1 5 (by decide) (by decide) h
  have L2 := fun (p : Nat) (F : List Nat) (w : World) (h : Own w p C2 F) => launch_any C2 p F w k1 o2 9 (by decide) (by decide) h
  have L3 := fun (p : Nat) (F : List Nat) (w : World) (h : Own w p C3 F) => launch_any C3 p F w k2 o1 9 (by decide) (by decide) h
  have D1 := fun (p : Nat) (F : List Nat) (w : World) (h : Own w p Cd.new F) => delay_any Cd.new p F w 3 h
  have T1 := fun (p : Nat) (F : List Nat) (w : World) (h : Own w p C2 F) => set_any C2 p F w o1 0 h
  have E1 := fun (p : Nat) (F : List Nat) (w : World) (h : Own w p C3 F) => end_any C3 p F w i1 h
  have E2 := fun (p : Nat) (F : List Nat) (w : World) (h : Own w p C4 F) => end_any C4 p F w i1 h
  have I1 := fun (p : Nat) (F : List Nat) (w : World) (h : Own w p C2 F) => insts_any C2 p F w 7 h (by decide)
  have I2 := fun (p : Nat) (F : List Nat) (w : World) (h : Own w p C2 F) => insts_any C2 p F w 8 h (by decide)
  have W1 := fun (p : Nat) (F : List Nat) (w : World) (h : Own w p C4 F) => writes_any C4 p F w h
  rw [e2, s2] at L1
  rw [e4, s4] at L2
  rw [e6, s6] at L3
  rw [s1] at D1
  rw [e5, s5] at T1
  rw [e7, s7] at E1
  rw [e8, s8] at E2
  rw [n2] at I1
  rw [n3] at I2
  have HL1 := Lib.hid L1
  have HL2 := Lib.hid L2
  have HL3 := Lib.hid L3
  have HD1 := Lib.hid D1
  have HT1 := Lib.hid T1
  have HE1 := Lib.hid E1
  have HE2 := Lib.hid E2
  have HI1 := Lib.hid I1
  have HI2 := Lib.hid I2
  have HW1 := Lib.hid W1
  clear L1 L2 L3 D1 T1 E1 E2 I1 I2 W1
  go_enter Tryd.func8, Tryd.ntmps8
  go_wp2_with fail
  refine (new_any _).mono ?_
  rintro er w1 ⟨p, F, rfl, hO, hS⟩
  have hO1 := hO.below (below_new w1 (.cells #[.string ⟨#[115]⟩, .string ⟨#[97]⟩, .string ⟨#[115, 112, 111, 116]⟩] 28))
  have hS1 : Step [] F w _ := hS.trans (Step.of_below (below_new w1 (.cells #[.string ⟨#[115]⟩, .string ⟨#[97]⟩, .string ⟨#[115, 112, 111, 116]⟩] 28)))
  have hB1 : ∀ j, (w1.alloc (.cells #[.string ⟨#[115]⟩, .string ⟨#[97]⟩, .string ⟨#[115, 112, 111, 116]⟩] 28)).cell? ⟨w1.heap.size, j, none⟩ = (#[.string ⟨#[115]⟩, .string ⟨#[97]⟩, .string ⟨#[115, 112, 111, 116]⟩] : Array Value)[j]? := fun j => by rw [World.cell?_alloc_new]
  have hN1 : w1.heap.size ∉ F := hO.new_not (Nat.le_refl _)
  generalize hbx : w1.heap.size = B at hB1 hN1
  go_wp2_with fail
  refine (HD1.out p F _ hO1).mono ?_
  rintro er w2 ⟨rfl, hO2, hS2⟩
  obtain ⟨hB2, hN2, hlt2⟩ := keep_box hS2 (by simp; omega) hN1 hB1
  have t1 := hB2 0
  have t2 := hB2 1
  have t3 := hB2 2
  have S2 := Lib.hid (hS1.trans hS2)
  have HB2 := Lib.hid hB2
  clear hO hS hO1 hS1 hB1 hN1 hbx hS2 hB2
  go_wp2_with fail
  refine (HL1.out p F _ hO2).mono ?_
  rintro er w3 ⟨rfl, F3, hO3, hS3⟩
  obtain ⟨hB3, hN3, hlt3⟩ := keep_box hS3 hlt2 hN2 HB2.out
  have S3 := Lib.hid (S2.out.trans hS3)
  have HB3 := Lib.hid hB3
  clear hO2 hS3 hB3 HB2 S2 hN2 hlt2 t1 t2 t3
  go_wp2_with fail
  refine (HI1.out p F3 _ hO3).mono ?_
  rintro er w4 ⟨ol, vl, rfl, hRl, hb4, hgl⟩
  have hS4 := Step.of_below (F := F3) hb4
  have hO4 := hO3.below hb4
  obtain ⟨hB4, hN4, hlt4⟩ := keep_box hS4 hlt3 hN3 HB3.out
  have hnl : ∀ g, ol = some g → g ∉ F3 := fun g hg => hO3.new_not (hgl g hg)
  obtain ⟨al, capl, rfl, -⟩ := hRl.shape
  have S4 := Lib.hid (S3.out.trans hS4)
  have HB4 := Lib.hid hB4
  have RL4 := Lib.hid hRl
  clear hO3 hb4 hS4 hB4 HB3 S3 hN3 hlt3 hRl hgl
  go_wp2_with fail
  refine (HI2.out p F3 _ hO4).mono ?_
  rintro er w5 ⟨om, vm, rfl, hRm, hb5, hgm⟩
  have hS5 := Step.of_below (F := F3) hb5
  have hO5 := hO4.below hb5
  obtain ⟨hB5, hN5, hlt5⟩ := keep_box hS5 hlt4 hN4 HB4.out
  obtain ⟨RL5', hnl5⟩ := keep_row hS5 RL4.out hnl
  have hnm : ∀ g, om = some g → g ∉ F3 := fun g hg => hO4.new_not (hgm g hg)
  obtain ⟨am, capm, rfl, -⟩ := hRm.shape
  have S5 := Lib.hid (S4.out.trans hS5)
  have HB5 := Lib.hid hB5
  have RL5 := Lib.hid RL5'
  have RM5 := Lib.hid hRm
  clear hO4 hb5 hS5 hB5 HB4 S4 hN4 hlt4 hRm hgm RL5' RL4 hnl
  go_wp2_with fail
  refine (HL2.out p F3 _ hO5).mono ?_
  rintro er w6 ⟨rfl, F6, hO6, hS6⟩
  obtain ⟨hB6, hN6, hlt6⟩ := keep_box hS6 hlt5 hN5 HB5.out
  obtain ⟨RL6', hnl6⟩ := keep_row hS6 RL5.out hnl5
  obtain ⟨RM6', hnm6⟩ := keep_row hS6 RM5.out hnm
  have t1 := hB6 0
  have t2 := hB6 1
  have t3 := hB6 2
  have S6 := Lib.hid (S5.out.trans hS6)
  have HB6 := Lib.hid hB6
  have RL6 := Lib.hid RL6'
  have RM6 := Lib.hid RM6'
  clear hO5 hS6 hB6 HB5 S5 hN5 hlt5 RL6' RM6' RL5 RM5 hnl5 hnm
  go_wp2_with fail
  refine (HT1.out p F6 _ hO6).mono ?_
  rintro er w7 ⟨rfl, hO7, hS7⟩
  obtain ⟨hB7, hN7, hlt7⟩ := keep_box hS7 hlt6 hN6 HB6.out
  obtain ⟨RL7', hnl7⟩ := keep_row hS7 RL6.out hnl6
  obtain ⟨RM7', hnm7⟩ := keep_row hS7 RM6.out hnm6
  have u1 := hB7 0
  have u2 := hB7 1
  have u3 := hB7 2
  have S7 := Lib.hid (S6.out.trans hS7)
  have RL7 := Lib.hid RL7'
  have RM7 := Lib.hid RM7'
  clear hO6 hS7 hB7 HB6 S6 hN6 hlt6 RL7' RM7' RL6 RM6 hnl6 hnm6 t1 t2 t3
  go_wp2_with fail
  refine (HL3.out p F6 _ hO7).mono ?_
  rintro er w8 ⟨rfl, F8, hO8, hS8⟩
  obtain ⟨RL8', hnl8⟩ := keep_row hS8 RL7.out hnl7
  obtain ⟨RM8', hnm8⟩ := keep_row hS8 RM7.out hnm7
  have S8 := Lib.hid (S7.out.trans hS8)
  have RL8 := Lib.hid RL8'
  have RM8 := Lib.hid RM8'
  clear hO7 hS8 S7 hN7 hlt7 RL8' RM8' RL7 RM7 hnl7 hnm7 u1 u2 u3
  go_wp2_with fail
  refine (HE1.out p F8 _ hO8).mono ?_
  rintro er w9 ⟨rfl, hO9, hS9⟩
  obtain ⟨RL9', hnl9⟩ := keep_row hS9 RL8.out hnl8
  obtain ⟨RM9', hnm9⟩ := keep_row hS9 RM8.out hnm8
  have S9 := Lib.hid (S8.out.trans hS9)
  have RL9 := Lib.hid RL9'
  have RM9 := Lib.hid RM9'
  clear hO8 hS9 S8 RL9' RM9' RL8 RM8 hnl8 hnm8
  go_wp2_with fail
  refine (HE2.out p F8 _ hO9).mono ?_
  rintro er wA ⟨rfl, hOA, hSA⟩
  obtain ⟨RLA, -⟩ := keep_row hSA RL9.out hnl9
  obtain ⟨RMA, -⟩ := keep_row hSA RM9.out hnm9
  obtain ⟨gl, offl, capl', hvl, -, hgl, -, hcl, -⟩ := Rowed.elt (l := [x1 1]) in_len RLA (i := 0) rfl
  cases hvl
  obtain ⟨gm, offm, capm', hvm, -, hgm, -, hcm, -⟩ := Rowed.elt (l := [x1 2]) in_len RMA (i := 0) rfl
  cases hvm
  have v1 : wA.cell? ⟨gl, offl + 5, none⟩ = some (.int .i64 1) := by have := hcl 5 _ rfl; simpa [x1] using this
  have v2 : wA.cell? ⟨gl, offl + 6, none⟩ = some (.int .i64 8) := by have := hcl 6 _ rfl; simpa [x1] using this
  have v3 : wA.cell? ⟨gm, offm + 5, none⟩ = some (.int .i64 2) := by have := hcm 5 _ rfl; simpa [x1] using this
  have SA := Lib.hid (S9.out.trans hSA)
  clear hO9 hSA S9 RL9 RM9 hnl9 hnm9 RLA RMA hcl hcm
  have hi1 : i1.toList = [105, 49] := ByteArray.toList_mk _
  go_wp2_with fail
  refine (HW1.out p F8 _ hOA).mono ?_
  rintro er wB ⟨rfl, rfl⟩
  go_wp2_with fail
  go_ret
  exact ⟨rfl, SA.out.below (Nat.le_refl _) (fun k hk => by cases hk)⟩
end Go.Proofs.YtpoegpojlcbfgaaDoor
