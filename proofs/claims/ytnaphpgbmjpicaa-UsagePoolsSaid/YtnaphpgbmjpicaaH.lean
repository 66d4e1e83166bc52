/- Contracts: Sum. -/
import Derived.Test.YtnaphpgbmjpicaaG
import Derived.LoopTactic
namespace Go.Proofs.Ytnaphpgbmjpicaa
open Go.RowKit

/-- What Sum comes to, from a state on. -/
def sumGo : Int → Int → Bool → List (Int × Int) → Int × Int × Int
  | s, t, ov, [] => if ov then (0, 0, 10) else (s, t, 0)
  | s, t, ov, p :: r => if (chkAll p.1 p.2 != 0) then (0, 0, chkAll p.1 p.2) else
      if ov || (addE s t p.1 p.2 != 0) then sumGo s t true r else sumGo (addV s t p.1 p.2 s p.1) (addV s t p.1 p.2 t p.2) false r

/-- The slice's elements lie in memory. -/
def Am (w : World) (a : Option Addr) (ps : List (Int × Int)) : Prop :=
  ∀ i, i < ps.length → ∃ b off, a = some ⟨b, off, none⟩ ∧ b < w.heap.size ∧ w.cell? ⟨b, off + i * 2, none⟩ = some (.int .i64 (ps.getD i (0, 0)).1) ∧ w.cell? ⟨b, off + i * 2 + 1, none⟩ = some (.int .i64 (ps.getD i (0, 0)).2)

theorem sum_end (s t : Int) : sumGo s t false [] = (s, t, 0) ∧ sumGo s t true [] = (0, 0, 10) := ⟨rfl, rfl⟩
theorem sum_bad {s t : Int} {o : Bool} {x y : Int} {r : List (Int × Int)} (h : (chkAll x y != 0) = true) : sumGo s t o ((x, y) :: r) = (0, 0, chkAll x y) := by
  unfold sumGo; rw [if_pos h]
theorem sum_over {s t : Int} {x y : Int} {r : List (Int × Int)} (h : (chkAll x y != 0) = false) : sumGo s t true ((x, y) :: r) = sumGo s t true r := by
  rw [sumGo]; simp [h]
theorem sum_turn {s t : Int} {x y : Int} {r : List (Int × Int)} (h : (chkAll x y != 0) = false) (h2 : (addE s t x y != 0) = true) : sumGo s t false ((x, y) :: r) = sumGo s t true r := by
  rw [sumGo]; simp [h, h2]
theorem sum_step {s t : Int} {x y : Int} {r : List (Int × Int)} (h : (chkAll x y != 0) = false) (h2 : (addE s t x y != 0) = false) : sumGo s t false ((x, y) :: r) = sumGo (addV s t x y s x) (addV s t x y t y) false r := by
  rw [sumGo]; simp [h, h2]
theorem drop_at {α : Type} {l : List α} {k : Nat} {d x : α} (h : k < l.length) (hx : l.getD k d = x) : l.drop k = x :: l.drop (k + 1) := by
  rw [List.drop_eq_getElem_cons h]
  congr 1
  rw [← hx, List.getD_eq_getElem?_getD, List.getElem?_eq_getElem h]; rfl
theorem ret_sum {a b e : Int} {r : Int × Int × Int} (h : (a, b, e) = r) : Ending.returned (.tuple #[.agg #[.int .i64 a, .int .i64 b], .int .i64 e]) = .returned (.tuple #[.agg #[.int .i64 r.1, .int .i64 r.2.1], .int .i64 r.2.2]) := by rw [← h]

set_option maxRecDepth 100000 in
set_option maxHeartbeats 1000000 in
theorem sum_any (ps : List (Int × Int)) (a : Option Addr) (cap : Nat) (w : World) (hA : Am w a ps) (hl : ps.length ≤ 4611686018427387904) :
    Calls Try.prog 25 #[.slice a ps.length cap] w fun e w' => e = .returned (.tuple #[.agg #[.int .i64 (sumGo 0 0 false ps).1, .int .i64 (sumGo 0 0 false ps).2.1], .int .i64 (sumGo 0 0 false ps).2.2]) ∧ Below w.heap.size w w' := by
  have HA := Lib.hid hA
  clear hA
  have hl' : ps.length ≤ 9223372036854775807 := by omega
  go_enter Try.func25, Try.ntmps25
  go_wp2_with fail
  go_loopw [5, 13] (fun ov i wr => ∃ k : Nat, ∃ s t : Int, ∃ o : Bool, k ≤ ps.length ∧ i = .int .i64 k ∧ ov = .bool o ∧ Hid (sumGo s t o (ps.drop k) = sumGo 0 0 false ps) ∧ Below w.heap.size w wr ∧
      (wr.cell? ⟨w.heap.size, 0, none⟩ = some (.int .i64 0) ∧ wr.cell? ⟨w.heap.size, 1, none⟩ = some (.int .i64 0) ∧ ∀ i, wr.frozen? ⟨w.heap.size, i, none⟩ = false) ∧
      (wr.cell? ⟨w.heap.size + 1, 0, none⟩ = some (.int .i64 s) ∧ wr.cell? ⟨w.heap.size + 1, 1, none⟩ = some (.int .i64 t) ∧ ∀ i, wr.frozen? ⟨w.heap.size + 1, i, none⟩ = false) ∧ w.heap.size + 1 < wr.heap.size)
    (fun _ i _ => ps.length - (intOf i).toNat)
  case atStart => 
    refine ⟨0, 0, 0, false, Nat.zero_le _, rfl, rfl, rfl, ((Below.refl _ _).alloc (Nat.le_refl _) _).alloc (by simp) _, ?_⟩
    obtain ⟨c1, c2, c3⟩ := boxes2 (w := w) (w1 := (w.alloc (.cells #[.int .i64 0, .int .i64 0] 26)).alloc (.cells #[.int .i64 0, .int .i64 0] 26)) (Below.refl _ _)
    exact ⟨c1, c2, c3⟩
  case round =>
    obtain ⟨k, s, t, o, hk, rfl, rfl, hs, hb, ⟨c1, c2, c3⟩, ⟨c4, c5, c6⟩, c10⟩ := hrel
    by_cases hlt : k < ps.length
    · obtain ⟨b, off, rfl, hbl, hc0, hc1⟩ := HA.out k hlt
      rw [← hb.cell (p := ⟨b, off + k * 2, none⟩) hbl] at hc0
      rw [← hb.cell (p := ⟨b, off + k * 2 + 1, none⟩) hbl] at hc1
      rcases hp : ps.getD k (0, 0) with ⟨x, y⟩
      rw [hp] at hc0 hc1
      have hs' := hs.out
      rw [drop_at hlt hp] at hs'
      clear hp hs
      rcases h1 : (chkAll x y != 0) with _ | _
      · cases o with
        | true =>
        rw [sum_over h1] at hs'
        have H := Lib.hid hs'
        clear hs'
        go_wp2_with fail
        refine (checkAll_any _ _ _).mono ?_
        rintro e w1 ⟨rfl, hb1⟩
        obtain ⟨e0, e1⟩ := box1 hb1
        have hb2 : Below wr.heap.size wr w1 := below1 hb1
        obtain ⟨d1, d2, d3⟩ := carry2 hb2 (by omega) c1 c2 c3
        obtain ⟨d4, d5, d6⟩ := carry2 hb2 (by omega) c4 c5 c6
        have d10 : w.heap.size + 1 < w1.heap.size := by have := hb2.size; omega
        have d11 : wr.heap.size < w1.heap.size := by have := hb1.size; simp at this; omega
        have hB : Below w.heap.size w w1 := hb.trans (hb2.mono (by omega))
        clear hb1 hb2 hb c1 c2 c3 c4 c5 c6 hc0 hc1
        go_wp2_with fail
        refine (add_any _ _ _ _ _).mono ?_
        rintro e w2 ⟨rfl, hb1⟩
        obtain ⟨f1, f2, f3⟩ := carry2 hb1 (by omega) d1 d2 d3
        obtain ⟨f4, f5, f6⟩ := carry2 hb1 (by omega) d4 d5 d6
        have f10 : w.heap.size + 1 < w2.heap.size := by have := hb1.size; omega
        have f11 : w.heap.size < w2.heap.size := by omega
        have hB2 : Below w.heap.size w w2 := hB.trans (hb1.mono (by omega))
        clear hb1 hB d1 d2 d3 d4 d5 d6 e0 e1
        go_wp2
        go_roundw
        case rel =>
          refine ⟨k + 1, s, t, true, by omega, by go_num, rfl, H, ?_, ⟨?_, ?_, fun i => ?_⟩, ⟨?_, ?_, fun i => ?_⟩, by simp; omega⟩
          · repeat (first | exact hB2 | (refine Below.setCell ?_ (by first | omega | (simp; done) | (simp; omega)) _) | (refine Below.alloc ?_ (by first | omega | (simp; done) | (simp; omega)) _))
          all_goals go_simp
        case measure => simp [intOf]; omega
        | false =>
        rcases h2 : (addE s t x y != 0) with _ | _
        · rw [sum_step h1 h2] at hs'
          have H := Lib.hid hs'
          clear hs'
          go_wp2_with fail
          refine (checkAll_any _ _ _).mono ?_
          rintro e w1 ⟨rfl, hb1⟩
          obtain ⟨e0, e1⟩ := box1 hb1
          have hb2 : Below wr.heap.size wr w1 := below1 hb1
          obtain ⟨d1, d2, d3⟩ := carry2 hb2 (by omega) c1 c2 c3
          obtain ⟨d4, d5, d6⟩ := carry2 hb2 (by omega) c4 c5 c6
          have d10 : w.heap.size + 1 < w1.heap.size := by have := hb2.size; omega
          have d11 : wr.heap.size < w1.heap.size := by have := hb1.size; simp at this; omega
          have hB : Below w.heap.size w w1 := hb.trans (hb2.mono (by omega))
          clear hb1 hb2 hb c1 c2 c3 c4 c5 c6 hc0 hc1
          go_wp2_with fail
          refine (add_any _ _ _ _ _).mono ?_
          rintro e w2 ⟨rfl, hb1⟩
          obtain ⟨f1, f2, f3⟩ := carry2 hb1 (by omega) d1 d2 d3
          obtain ⟨f4, f5, f6⟩ := carry2 hb1 (by omega) d4 d5 d6
          have f10 : w.heap.size + 1 < w2.heap.size := by have := hb1.size; omega
          have f11 : w.heap.size < w2.heap.size := by omega
          have hB2 : Below w.heap.size w w2 := hB.trans (hb1.mono (by omega))
          clear hb1 hB d1 d2 d3 d4 d5 d6 e0 e1
          go_wp2
          go_roundw
          case rel =>
            refine ⟨k + 1, _, _, false, by omega, by go_num, rfl, H, ?_, ⟨?_, ?_, fun i => ?_⟩, ⟨?_, ?_, fun i => ?_⟩, by simp; omega⟩
            · repeat (first | exact hB2 | (refine Below.setCell ?_ (by first | omega | (simp; done) | (simp; omega)) _) | (refine Below.alloc ?_ (by first | omega | (simp; done) | (simp; omega)) _))
            all_goals go_simp
          case measure => simp [intOf]; omega
        · rw [sum_turn h1 h2] at hs'
          have H := Lib.hid hs'
          clear hs'
          go_wp2_with fail
          refine (checkAll_any _ _ _).mono ?_
          rintro e w1 ⟨rfl, hb1⟩
          obtain ⟨e0, e1⟩ := box1 hb1
          have hb2 : Below wr.heap.size wr w1 := below1 hb1
          obtain ⟨d1, d2, d3⟩ := carry2 hb2 (by omega) c1 c2 c3
          obtain ⟨d4, d5, d6⟩ := carry2 hb2 (by omega) c4 c5 c6
          have d10 : w.heap.size + 1 < w1.heap.size := by have := hb2.size; omega
          have d11 : wr.heap.size < w1.heap.size := by have := hb1.size; simp at this; omega
          have hB : Below w.heap.size w w1 := hb.trans (hb2.mono (by omega))
          clear hb1 hb2 hb c1 c2 c3 c4 c5 c6 hc0 hc1
          go_wp2_with fail
          refine (add_any _ _ _ _ _).mono ?_
          rintro e w2 ⟨rfl, hb1⟩
          obtain ⟨f1, f2, f3⟩ := carry2 hb1 (by omega) d1 d2 d3
          obtain ⟨f4, f5, f6⟩ := carry2 hb1 (by omega) d4 d5 d6
          have f10 : w.heap.size + 1 < w2.heap.size := by have := hb1.size; omega
          have f11 : w.heap.size < w2.heap.size := by omega
          have hB2 : Below w.heap.size w w2 := hB.trans (hb1.mono (by omega))
          clear hb1 hB d1 d2 d3 d4 d5 d6 e0 e1
          go_wp2
          go_roundw
          case rel =>
            refine ⟨k + 1, s, t, true, by omega, by go_num, rfl, H, ?_, ⟨?_, ?_, fun i => ?_⟩, ⟨?_, ?_, fun i => ?_⟩, by simp; omega⟩
            · repeat (first | exact hB2 | (refine Below.setCell ?_ (by first | omega | (simp; done) | (simp; omega)) _) | (refine Below.alloc ?_ (by first | omega | (simp; done) | (simp; omega)) _))
            all_goals go_simp
          case measure => simp [intOf]; omega
      · rw [sum_bad h1] at hs'
        have H := Lib.hid hs'
        clear hs'
        go_wp2_with fail
        refine (checkAll_any _ _ _).mono ?_
        rintro e w1 ⟨rfl, hb1⟩
        obtain ⟨e0, e1⟩ := box1 hb1
        have hb2 : Below wr.heap.size wr w1 := below1 hb1
        obtain ⟨d1, d2, d3⟩ := carry2 hb2 (by omega) c1 c2 c3
        obtain ⟨d4, d5, d6⟩ := carry2 hb2 (by omega) c4 c5 c6
        have d10 : w.heap.size + 1 < w1.heap.size := by have := hb2.size; omega
        have d11 : wr.heap.size < w1.heap.size := by have := hb1.size; simp at this; omega
        have hB : Below w.heap.size w w1 := hb.trans (hb2.mono (by omega))
        clear hb1 hb2 hb c1 c2 c3 c4 c5 c6 hc0 hc1
        go_wp2
        refine bodyPost_ret (v := .tuple #[.agg #[.int .i64 (sumGo 0 0 false ps).1, .int .i64 (sumGo 0 0 false ps).2.1], .int .i64 (sumGo 0 0 false ps).2.2]) (by rw [← H.out]; simp [results, Try.results25, go_sem, d1, d2]) rfl ⟨rfl, ?_⟩
        repeat (first | exact hB | (refine Below.setCell ?_ (by first | (simp; done) | (simp; omega)) _) | (refine Below.alloc ?_ (by first | (simp; done) | (simp; omega)) _) | (refine Below.drew ?_) | (refine below_drewN ?_ _))
    · have hkl : k = ps.length := by omega
      subst hkl
      have hs' := hs.out
      rw [List.drop_length] at hs'
      clear hs
      cases o with
      | true =>
        have H := Lib.hid hs'
        clear hs'
        go_wp2
        refine bodyPost_ret (v := .tuple #[.agg #[.int .i64 (sumGo 0 0 false ps).1, .int .i64 (sumGo 0 0 false ps).2.1], .int .i64 (sumGo 0 0 false ps).2.2]) (by rw [← H.out]; simp [results, Try.results25, go_sem, sumGo, c1, c2]) rfl ⟨rfl, ?_⟩
        repeat (first | exact hb | (refine Below.setCell ?_ (by first | (simp; done) | (simp; omega)) _) | (refine Below.alloc ?_ (by first | (simp; done) | (simp; omega)) _) | (refine Below.drew ?_) | (refine below_drewN ?_ _))
      | false =>
        have H := Lib.hid hs'
        clear hs'
        go_wp2
        refine bodyPost_ret (v := .tuple #[.agg #[.int .i64 (sumGo 0 0 false ps).1, .int .i64 (sumGo 0 0 false ps).2.1], .int .i64 (sumGo 0 0 false ps).2.2]) (by rw [← H.out]; simp [results, Try.results25, go_sem, sumGo, c1, c2]) rfl ⟨rfl, ?_⟩
        repeat (first | exact hb | (refine Below.setCell ?_ (by first | (simp; done) | (simp; omega)) _) | (refine Below.alloc ?_ (by first | (simp; done) | (simp; omega)) _) | (refine Below.drew ?_) | (refine below_drewN ?_ _))

end Go.Proofs.Ytnaphpgbmjpicaa
