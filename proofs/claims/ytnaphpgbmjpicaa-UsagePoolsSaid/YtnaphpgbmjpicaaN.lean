/- Contracts: Total. -/
import Derived.Test.YtnaphpgbmjpicaaI
import Derived.Laws.MakeOwn
namespace Go.Proofs.Ytnaphpgbmjpicaa
open Go.RowKit

theorem info26 : (Try.prog.info? 26).map (fun i => (i.zero, i.size, i.bytes)) = some (some (.agg #[.int .i64 0, .int .i64 0]), 2, 16) := by kernel_rfl

theorem make31 (n : Nat) (hn : n * 16 ≤ 281474976710656) (w : World) : (Instr.makeSlice 31 (.int .i64 (n : Int)) (.int .i64 (n : Int))).run Try.prog w =
    .ok (.slice (some ⟨w.heap.size, 0, none⟩) n n) (w.alloc (.cells (madeCells #[.int .i64 0, .int .i64 0] (n * 2)) 26)) := by
  obtain ⟨i0, hi, hz0, hz1, hz2⟩ := info_parts info26
  have := run_make (P := Try.prog) w 31 26 i0 _ Try.underlying31 hi hz0 .i64 .i64 (n : Int) (n : Int) (by omega) (by omega) (by rw [hz2]; omega) (by omega)
  rw [this, hz1]
  simp [Value.cells]

/-- The new slice after k numbers have been laid in. -/
def TotM (w : World) (B n k : Nat) (ns : List Int) : Prop :=
  (∀ i, i < n → w.cell? ⟨B, i * 2, none⟩ = some (.int .i64 (if i < k then ns.getD i 0 else 0)) ∧ w.cell? ⟨B, i * 2 + 1, none⟩ = some (.int .i64 0)) ∧ ∀ i, w.frozen? ⟨B, i, none⟩ = false

theorem totM_new (w : World) (n : Nat) (ns : List Int) : TotM (w.alloc (.cells (madeCells #[.int .i64 0, .int .i64 0] (n * 2)) 26)) w.heap.size n 0 ns := by
  refine ⟨fun i hi => ?_, fun i => by simp⟩
  rw [World.cell?_alloc_new, World.cell?_alloc_new]
  have h1 : i * 2 < n * 2 := by omega
  have h2 : i * 2 + 1 < n * 2 := by omega
  simp [madeCells, h1, h2]
theorem totM_put {w : World} {B n k : Nat} {ns : List Int} (h : TotM w B n k ns) (hk : k < n) : TotM (w.setCell ⟨B, k * 2, none⟩ (.int .i64 (ns.getD k 0))) B n (k + 1) ns := by
  refine ⟨fun i hi => ⟨?_, ?_⟩, fun i => by rw [World.frozen?_setCell]; exact h.2 i⟩
  · by_cases hik : i = k
    · subst hik
      rw [World.cell?_setCell_same _ _ _ (h.1 i hi).1, if_pos (by omega)]
    · rw [World.cell?_setCell_other _ _ _ _ (by intro e; have := congrArg Addr.off e; simp at this; omega), (h.1 i hi).1]
      by_cases hlt : i < k
      · rw [if_pos hlt, if_pos (by omega)]
      · rw [if_neg hlt, if_neg (by omega)]
  · rw [World.cell?_setCell_other _ _ _ _ (by intro e; have := congrArg Addr.off e; simp at this; omega), (h.1 i hi).2]
theorem totM_am {w : World} {B : Nat} {ns : List Int} (h : TotM w B ns.length ns.length ns) (hB : B < w.heap.size) : Am w (some ⟨B, 0, none⟩) (ns.map fun n => (n, 0)) := by
  intro i hi
  rw [List.length_map] at hi
  obtain ⟨h1, h2⟩ := h.1 i hi
  rw [if_pos hi] at h1
  refine ⟨B, 0, rfl, hB, ?_, ?_⟩
  · rw [Nat.zero_add, h1]; simp [hi]
  · rw [Nat.zero_add, h2]; simp [hi]

/-- A slice of numbers lies in memory. -/
def Nm (w : World) (a : Option Addr) (ns : List Int) : Prop :=
  ∀ i, i < ns.length → ∃ b off, a = some ⟨b, off, none⟩ ∧ b < w.heap.size ∧ w.cell? ⟨b, off + i, none⟩ = some (.int .i64 (ns.getD i 0))

set_option maxRecDepth 100000 in
set_option maxHeartbeats 1000000 in
theorem total_any (ns : List Int) (a : Option Addr) (cap : Nat) (w : World) (hA : Nm w a ns) (hl : ns.length * 16 ≤ 281474976710656) :
    Calls Try.prog 27 #[.slice a ns.length cap] w fun e w' => e = .returned (.tuple #[.int .i64 (sumGo 0 0 false (ns.map fun n => (n, 0))).1, .int .i64 (sumGo 0 0 false (ns.map fun n => (n, 0))).2.2]) ∧ Below w.heap.size w w' := by
  have HA := Lib.hid hA
  clear hA
  have hl' : ns.length ≤ 9223372036854775807 := by omega
  have hmk := make31 ns.length hl
  go_enter Try.func27, Try.ntmps27
  go_wp2_with fail
  clear hmk
  go_loopw [14] (fun i wr => ∃ k : Nat, k ≤ ns.length ∧ i = .int .i64 k ∧ Hid (TotM wr w.heap.size ns.length k ns) ∧ Below w.heap.size w wr ∧ w.heap.size < wr.heap.size)
    (fun i _ => ns.length - (intOf i).toNat)
  case atStart => exact ⟨0, Nat.zero_le _, rfl, totM_new _ _ _, (Below.refl _ _).alloc (Nat.le_refl _) _, by simp⟩
  case round =>
    obtain ⟨k, hk, rfl, hT, hb, c10⟩ := hrel
    by_cases hlt : k < ns.length
    · obtain ⟨b, off, rfl, hbl, hc0⟩ := HA.out k hlt
      rw [← hb.cell (p := ⟨b, off + k, none⟩) hbl] at hc0
      obtain ⟨d1, d2⟩ := hT.out.1 k hlt
      have d3 := hT.out.2
      have hT1 := totM_put hT.out hlt
      obtain ⟨x, hx⟩ : ∃ x, ns.getD k 0 = x := ⟨_, rfl⟩
      rw [hx] at hc0 hT1
      have hT2 := Lib.hid hT1
      clear hT hT1 hx
      go_wp2
      go_roundw
      case rel => exact ⟨k + 1, by omega, by go_num, hT2, hb.setCell (Nat.le_refl _) _, by simp; omega⟩
      case measure => simp [intOf]; omega
    · have hkl : k = ns.length := by omega
      subst hkl
      have hm := Lib.hid (totM_am hT.out c10)
      clear hT
      obtain ⟨ps, hps⟩ : ∃ ps : List (Int × Int), ps = ns.map fun n => (n, 0) := ⟨_, rfl⟩
      have hlen : ps.length = ns.length := by rw [hps]; simp
      have hsum := sum_any ps (some ⟨w.heap.size, 0, none⟩) ns.length wr (by rw [hps]; exact hm.out) (by omega)
      rw [hlen] at hsum
      have HS := Lib.hid hsum
      have H := Lib.hid hps
      clear hps hm hlen hsum
      go_wp2_with fail
      refine HS.out.mono ?_
      rintro e w2 ⟨rfl, hb2⟩
      go_wp2
      go_ret2
      exact ⟨by rw [H.out]; rfl, (hb.trans (hb2.mono (by omega))).alloc (by have := hb2.size; omega) _⟩
end Go.Proofs.Ytnaphpgbmjpicaa
