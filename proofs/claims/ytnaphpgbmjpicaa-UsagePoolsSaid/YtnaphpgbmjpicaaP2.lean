/- slices.IndexFunc and slices.ContainsFunc over claims and pools. -/
import Derived.Test.YtnaphpgbmjpicaaP1
namespace Go.Proofs.Ytnaphpgbmjpicaa
open Go.RowKit

set_option maxRecDepth 100000 in
set_option maxHeartbeats 2000000 in
/-- slices.IndexFunc with that closure: where the first of the name stands. -/
theorem index45_44 (cs : List Cl) (a : Option Addr) (cap B : Nat) (s : ByteArray) (w : World) (hA : Rw w a 15 (cs.map Cl.cells)) (hl : cs.length ≤ 9223372036854775807) (hB : B < w.heap.size) (hcell : w.cell? ⟨B, 0, none⟩ = some (.string s)) :
    Calls Try.prog 45 #[.slice a cs.length cap, .func (.func 44) #[] #[.pointer (some ⟨B, 0, none⟩)]] w fun e w' => e = .returned (.int .i64 (idxGo (fun c => c.name.toList == s.toList) 0 cs)) ∧ Below w.heap.size w w' := by
  have HA := Lib.hid hA
  have HC := Lib.hid hcell
  clear hA hcell
  go_enter Try.func45, Try.ntmps45
  go_wp2_with fail
  go_loopw [5, 8] (fun _ i wr => ∃ k : Nat, k ≤ cs.length ∧ i = .int .i64 k ∧ Below w.heap.size w wr ∧ Hid (idxGo (fun c => c.name.toList == s.toList) k (cs.drop k) = idxGo (fun c => c.name.toList == s.toList) 0 cs))
    (fun _ i _ => cs.length - (intOf i).toNat)
  case atStart => exact ⟨0, Nat.zero_le _, rfl, Below.refl _ _, rfl⟩
  case round =>
    obtain ⟨k, hk, rfl, hb, HI⟩ := hrel
    by_cases hlt : k < cs.length
    · obtain ⟨b, off, rfl, hl1, hq, hc⟩ := (HA.out.below (Nat.le_refl _) hb).cl hlt
      have hi := HI.out
      rw [idxGo_at hlt] at hi
      rcases hp : cs.getD k default with ⟨name, pool, c2, c3, c4, c5, c6, x, y, c9, c10, c11, c12, c13, c14, h2, h3, h4, h5, h6, h9, h10, h11, h12, h13, h14⟩
      rw [hp] at hc hi
      clear hp hq HI
      have hc0 : wr.cell? ⟨b, off + k * 15, none⟩ = some (.string name) := hc 0 _ rfl
      have hc1 : wr.cell? ⟨b, off + k * 15 + 1, none⟩ = some (.string pool) := hc 1 _ rfl
      have hc2 : wr.cell? ⟨b, off + k * 15 + 2, none⟩ = some (c2) := hc 2 _ rfl
      have hc3 : wr.cell? ⟨b, off + k * 15 + 3, none⟩ = some (c3) := hc 3 _ rfl
      have hc4 : wr.cell? ⟨b, off + k * 15 + 4, none⟩ = some (c4) := hc 4 _ rfl
      have hc5 : wr.cell? ⟨b, off + k * 15 + 5, none⟩ = some (c5) := hc 5 _ rfl
      have hc6 : wr.cell? ⟨b, off + k * 15 + 6, none⟩ = some (c6) := hc 6 _ rfl
      have hc7 : wr.cell? ⟨b, off + k * 15 + 7, none⟩ = some (.int .i64 x) := hc 7 _ rfl
      have hc8 : wr.cell? ⟨b, off + k * 15 + 8, none⟩ = some (.int .i64 y) := hc 8 _ rfl
      have hc9 : wr.cell? ⟨b, off + k * 15 + 9, none⟩ = some (c9) := hc 9 _ rfl
      have hc10 : wr.cell? ⟨b, off + k * 15 + 10, none⟩ = some (c10) := hc 10 _ rfl
      have hc11 : wr.cell? ⟨b, off + k * 15 + 11, none⟩ = some (c11) := hc 11 _ rfl
      have hc12 : wr.cell? ⟨b, off + k * 15 + 12, none⟩ = some (c12) := hc 12 _ rfl
      have hc13 : wr.cell? ⟨b, off + k * 15 + 13, none⟩ = some (c13) := hc 13 _ rfl
      have hc14 : wr.cell? ⟨b, off + k * 15 + 14, none⟩ = some (c14) := hc 14 _ rfl
      have hlook : Calls Try.prog 44 #[.agg #[.string name, .string pool, c2, c3, c4, c5, c6, .int .i64 x, .int .i64 y, c9, c10, c11, c12, c13, c14], .pointer (some ⟨B, 0, none⟩)] wr _ := look44 ⟨name, pool, c2, c3, c4, c5, c6, x, y, c9, c10, c11, c12, c13, c14, h2, h3, h4, h5, h6, h9, h10, h11, h12, h13, h14⟩ B s wr (by have := hb.size; omega) ((hb.cell (p := ⟨B, 0, none⟩) hB).trans HC.out)
      have HL := Lib.hid hlook
      clear hc hlook
      dsimp only at hi
      rcases hn : (name.toList == s.toList) with _ | _
      · rw [hn] at hi HL
        have HI := Lib.hid hi
        clear hi
        go_wp2_with fail
        refine HL.out.mono ?_
        rintro e w2 ⟨rfl, hb2⟩
        have hB2 : Below w.heap.size w w2 := hb.trans (hb2.mono hb.size)
        clear hb2
        go_wp2_with fail
        go_roundw
        case rel => exact ⟨k + 1, by omega, by go_num, hB2, HI⟩
        case measure => simp [intOf]; omega
      · rw [hn] at hi HL
        have hi' : (k : Int) = _ := hi
        have HI := Lib.hid hi'
        clear hi hi'
        go_wp2_with fail
        refine HL.out.mono ?_
        rintro e w2 ⟨rfl, hb2⟩
        have hB2 : Below w.heap.size w w2 := hb.trans (hb2.mono hb.size)
        clear hb2
        go_wp2_with fail
        go_ret
        exact ⟨by rw [← HI.out]; rfl, hB2⟩
    · have hkl : k = cs.length := by omega
      subst hkl
      have hi := HI.out
      rw [List.drop_length] at hi
      have hi' : (-1 : Int) = _ := hi
      have HI := Lib.hid hi'
      clear hi hi'
      go_wp2_with fail
      go_ret
      exact ⟨by rw [← HI.out]; rfl, hb⟩

set_option maxRecDepth 100000 in
set_option maxHeartbeats 2000000 in
/-- slices.IndexFunc with that closure: where the first of the name stands. -/
theorem index45_46 (cs : List Cl) (a : Option Addr) (cap B : Nat) (s : ByteArray) (w : World) (hA : Rw w a 15 (cs.map Cl.cells)) (hl : cs.length ≤ 9223372036854775807) (hB : B < w.heap.size) (hcell : w.cell? ⟨B, 0, none⟩ = some (.string s)) :
    Calls Try.prog 45 #[.slice a cs.length cap, .func (.func 46) #[] #[.pointer (some ⟨B, 0, none⟩)]] w fun e w' => e = .returned (.int .i64 (idxGo (fun c => c.name.toList == s.toList) 0 cs)) ∧ Below w.heap.size w w' := by
  have HA := Lib.hid hA
  have HC := Lib.hid hcell
  clear hA hcell
  go_enter Try.func45, Try.ntmps45
  go_wp2_with fail
  go_loopw [5, 8] (fun _ i wr => ∃ k : Nat, k ≤ cs.length ∧ i = .int .i64 k ∧ Below w.heap.size w wr ∧ Hid (idxGo (fun c => c.name.toList == s.toList) k (cs.drop k) = idxGo (fun c => c.name.toList == s.toList) 0 cs))
    (fun _ i _ => cs.length - (intOf i).toNat)
  case atStart => exact ⟨0, Nat.zero_le _, rfl, Below.refl _ _, rfl⟩
  case round =>
    obtain ⟨k, hk, rfl, hb, HI⟩ := hrel
    by_cases hlt : k < cs.length
    · obtain ⟨b, off, rfl, hl1, hq, hc⟩ := (HA.out.below (Nat.le_refl _) hb).cl hlt
      have hi := HI.out
      rw [idxGo_at hlt] at hi
      rcases hp : cs.getD k default with ⟨name, pool, c2, c3, c4, c5, c6, x, y, c9, c10, c11, c12, c13, c14, h2, h3, h4, h5, h6, h9, h10, h11, h12, h13, h14⟩
      rw [hp] at hc hi
      clear hp hq HI
      have hc0 : wr.cell? ⟨b, off + k * 15, none⟩ = some (.string name) := hc 0 _ rfl
      have hc1 : wr.cell? ⟨b, off + k * 15 + 1, none⟩ = some (.string pool) := hc 1 _ rfl
      have hc2 : wr.cell? ⟨b, off + k * 15 + 2, none⟩ = some (c2) := hc 2 _ rfl
      have hc3 : wr.cell? ⟨b, off + k * 15 + 3, none⟩ = some (c3) := hc 3 _ rfl
      have hc4 : wr.cell? ⟨b, off + k * 15 + 4, none⟩ = some (c4) := hc 4 _ rfl
      have hc5 : wr.cell? ⟨b, off + k * 15 + 5, none⟩ = some (c5) := hc 5 _ rfl
      have hc6 : wr.cell? ⟨b, off + k * 15 + 6, none⟩ = some (c6) := hc 6 _ rfl
      have hc7 : wr.cell? ⟨b, off + k * 15 + 7, none⟩ = some (.int .i64 x) := hc 7 _ rfl
      have hc8 : wr.cell? ⟨b, off + k * 15 + 8, none⟩ = some (.int .i64 y) := hc 8 _ rfl
      have hc9 : wr.cell? ⟨b, off + k * 15 + 9, none⟩ = some (c9) := hc 9 _ rfl
      have hc10 : wr.cell? ⟨b, off + k * 15 + 10, none⟩ = some (c10) := hc 10 _ rfl
      have hc11 : wr.cell? ⟨b, off + k * 15 + 11, none⟩ = some (c11) := hc 11 _ rfl
      have hc12 : wr.cell? ⟨b, off + k * 15 + 12, none⟩ = some (c12) := hc 12 _ rfl
      have hc13 : wr.cell? ⟨b, off + k * 15 + 13, none⟩ = some (c13) := hc 13 _ rfl
      have hc14 : wr.cell? ⟨b, off + k * 15 + 14, none⟩ = some (c14) := hc 14 _ rfl
      have hlook : Calls Try.prog 46 #[.agg #[.string name, .string pool, c2, c3, c4, c5, c6, .int .i64 x, .int .i64 y, c9, c10, c11, c12, c13, c14], .pointer (some ⟨B, 0, none⟩)] wr _ := look46 ⟨name, pool, c2, c3, c4, c5, c6, x, y, c9, c10, c11, c12, c13, c14, h2, h3, h4, h5, h6, h9, h10, h11, h12, h13, h14⟩ B s wr (by have := hb.size; omega) ((hb.cell (p := ⟨B, 0, none⟩) hB).trans HC.out)
      have HL := Lib.hid hlook
      clear hc hlook
      dsimp only at hi
      rcases hn : (name.toList == s.toList) with _ | _
      · rw [hn] at hi HL
        have HI := Lib.hid hi
        clear hi
        go_wp2_with fail
        refine HL.out.mono ?_
        rintro e w2 ⟨rfl, hb2⟩
        have hB2 : Below w.heap.size w w2 := hb.trans (hb2.mono hb.size)
        clear hb2
        go_wp2_with fail
        go_roundw
        case rel => exact ⟨k + 1, by omega, by go_num, hB2, HI⟩
        case measure => simp [intOf]; omega
      · rw [hn] at hi HL
        have hi' : (k : Int) = _ := hi
        have HI := Lib.hid hi'
        clear hi hi'
        go_wp2_with fail
        refine HL.out.mono ?_
        rintro e w2 ⟨rfl, hb2⟩
        have hB2 : Below w.heap.size w w2 := hb.trans (hb2.mono hb.size)
        clear hb2
        go_wp2_with fail
        go_ret
        exact ⟨by rw [← HI.out]; rfl, hB2⟩
    · have hkl : k = cs.length := by omega
      subst hkl
      have hi := HI.out
      rw [List.drop_length] at hi
      have hi' : (-1 : Int) = _ := hi
      have HI := Lib.hid hi'
      clear hi hi'
      go_wp2_with fail
      go_ret
      exact ⟨by rw [← HI.out]; rfl, hb⟩

set_option maxRecDepth 100000 in
set_option maxHeartbeats 2000000 in
/-- slices.IndexFunc with that closure: where the first of the name stands. -/
theorem index49_48 (cs : List Pl) (a : Option Addr) (cap B : Nat) (s : ByteArray) (w : World) (hA : Rw w a 10 (cs.map Pl.cells)) (hl : cs.length ≤ 9223372036854775807) (hB : B < w.heap.size) (hcell : w.cell? ⟨B, 0, none⟩ = some (.string s)) :
    Calls Try.prog 49 #[.slice a cs.length cap, .func (.func 48) #[] #[.pointer (some ⟨B, 0, none⟩)]] w fun e w' => e = .returned (.int .i64 (idxGo (fun c => c.name.toList == s.toList) 0 cs)) ∧ Below w.heap.size w w' := by
  have HA := Lib.hid hA
  have HC := Lib.hid hcell
  clear hA hcell
  go_enter Try.func49, Try.ntmps49
  go_wp2_with fail
  go_loopw [5, 8] (fun _ i wr => ∃ k : Nat, k ≤ cs.length ∧ i = .int .i64 k ∧ Below w.heap.size w wr ∧ Hid (idxGo (fun c => c.name.toList == s.toList) k (cs.drop k) = idxGo (fun c => c.name.toList == s.toList) 0 cs))
    (fun _ i _ => cs.length - (intOf i).toNat)
  case atStart => exact ⟨0, Nat.zero_le _, rfl, Below.refl _ _, rfl⟩
  case round =>
    obtain ⟨k, hk, rfl, hb, HI⟩ := hrel
    by_cases hlt : k < cs.length
    · obtain ⟨b, off, rfl, hl1, hq, hc⟩ := (HA.out.below (Nat.le_refl _) hb).pl hlt
      have hi := HI.out
      rw [idxGo_at hlt] at hi
      rcases hp : cs.getD k default with ⟨name, c1, c2, c3, c4, c5, c6, c7, c8, c9, h1, h2, h3, h4, h5, h6, h7, h8, h9⟩
      rw [hp] at hc hi
      clear hp hq HI
      have hc0 : wr.cell? ⟨b, off + k * 10, none⟩ = some (.string name) := hc 0 _ rfl
      have hc1 : wr.cell? ⟨b, off + k * 10 + 1, none⟩ = some (c1) := hc 1 _ rfl
      have hc2 : wr.cell? ⟨b, off + k * 10 + 2, none⟩ = some (c2) := hc 2 _ rfl
      have hc3 : wr.cell? ⟨b, off + k * 10 + 3, none⟩ = some (c3) := hc 3 _ rfl
      have hc4 : wr.cell? ⟨b, off + k * 10 + 4, none⟩ = some (c4) := hc 4 _ rfl
      have hc5 : wr.cell? ⟨b, off + k * 10 + 5, none⟩ = some (c5) := hc 5 _ rfl
      have hc6 : wr.cell? ⟨b, off + k * 10 + 6, none⟩ = some (c6) := hc 6 _ rfl
      have hc7 : wr.cell? ⟨b, off + k * 10 + 7, none⟩ = some (c7) := hc 7 _ rfl
      have hc8 : wr.cell? ⟨b, off + k * 10 + 8, none⟩ = some (c8) := hc 8 _ rfl
      have hc9 : wr.cell? ⟨b, off + k * 10 + 9, none⟩ = some (c9) := hc 9 _ rfl
      have hlook : Calls Try.prog 48 #[.agg #[.string name, c1, c2, c3, c4, c5, c6, c7, c8, c9], .pointer (some ⟨B, 0, none⟩)] wr _ := look48 ⟨name, c1, c2, c3, c4, c5, c6, c7, c8, c9, h1, h2, h3, h4, h5, h6, h7, h8, h9⟩ B s wr (by have := hb.size; omega) ((hb.cell (p := ⟨B, 0, none⟩) hB).trans HC.out)
      have HL := Lib.hid hlook
      clear hc hlook
      dsimp only at hi
      rcases hn : (name.toList == s.toList) with _ | _
      · rw [hn] at hi HL
        have HI := Lib.hid hi
        clear hi
        go_wp2_with fail
        refine HL.out.mono ?_
        rintro e w2 ⟨rfl, hb2⟩
        have hB2 : Below w.heap.size w w2 := hb.trans (hb2.mono hb.size)
        clear hb2
        go_wp2_with fail
        go_roundw
        case rel => exact ⟨k + 1, by omega, by go_num, hB2, HI⟩
        case measure => simp [intOf]; omega
      · rw [hn] at hi HL
        have hi' : (k : Int) = _ := hi
        have HI := Lib.hid hi'
        clear hi hi'
        go_wp2_with fail
        refine HL.out.mono ?_
        rintro e w2 ⟨rfl, hb2⟩
        have hB2 : Below w.heap.size w w2 := hb.trans (hb2.mono hb.size)
        clear hb2
        go_wp2_with fail
        go_ret
        exact ⟨by rw [← HI.out]; rfl, hB2⟩
    · have hkl : k = cs.length := by omega
      subst hkl
      have hi := HI.out
      rw [List.drop_length] at hi
      have hi' : (-1 : Int) = _ := hi
      have HI := Lib.hid hi'
      clear hi hi'
      go_wp2_with fail
      go_ret
      exact ⟨by rw [← HI.out]; rfl, hb⟩

set_option maxRecDepth 100000 in
set_option maxHeartbeats 2000000 in
theorem contains43 (cs : List Cl) (a : Option Addr) (cap B : Nat) (s : ByteArray) (w : World) (hA : Rw w a 15 (cs.map Cl.cells)) (hl : cs.length ≤ 9223372036854775807) (hB : B < w.heap.size) (hcell : w.cell? ⟨B, 0, none⟩ = some (.string s)) :
    Calls Try.prog 43 #[.slice a cs.length cap, .func (.func 44) #[] #[.pointer (some ⟨B, 0, none⟩)]] w fun e w' => e = .returned (.bool (cs.any fun c => c.name.toList == s.toList)) ∧ Below w.heap.size w w' := by
  have HS := Lib.hid (index45_44 cs a cap B s w hA hl hB hcell)
  have hi := idxGo_any (fun c : Cl => c.name.toList == s.toList) cs 0
  obtain ⟨i, hI⟩ : ∃ i, idxGo (fun c : Cl => c.name.toList == s.toList) 0 cs = i := ⟨_, rfl⟩
  rw [hI] at HS hi
  clear hA hcell hI
  rcases hn : (cs.any fun c => c.name.toList == s.toList) with _ | _
  · have h2 : ¬ (0 ≤ i) := by rw [hn] at hi; simpa using hi
    clear hn hi
    go_enter Try.func43, Try.ntmps43
    go_wp2_with fail
    refine HS.out.mono ?_
    rintro e w2 ⟨rfl, hb2⟩
    go_wp2
    go_ret
    exact ⟨by simp [h2], hb2⟩
  · have h2 : 0 ≤ i := by rw [hn] at hi; simpa using hi
    clear hn hi
    go_enter Try.func43, Try.ntmps43
    go_wp2_with fail
    refine HS.out.mono ?_
    rintro e w2 ⟨rfl, hb2⟩
    go_wp2
    go_ret
    exact ⟨by simp, hb2⟩

set_option maxRecDepth 100000 in
set_option maxHeartbeats 2000000 in
theorem contains47 (cs : List Pl) (a : Option Addr) (cap B : Nat) (s : ByteArray) (w : World) (hA : Rw w a 10 (cs.map Pl.cells)) (hl : cs.length ≤ 9223372036854775807) (hB : B < w.heap.size) (hcell : w.cell? ⟨B, 0, none⟩ = some (.string s)) :
    Calls Try.prog 47 #[.slice a cs.length cap, .func (.func 48) #[] #[.pointer (some ⟨B, 0, none⟩)]] w fun e w' => e = .returned (.bool (cs.any fun c => c.name.toList == s.toList)) ∧ Below w.heap.size w w' := by
  have HS := Lib.hid (index49_48 cs a cap B s w hA hl hB hcell)
  have hi := idxGo_any (fun c : Pl => c.name.toList == s.toList) cs 0
  obtain ⟨i, hI⟩ : ∃ i, idxGo (fun c : Pl => c.name.toList == s.toList) 0 cs = i := ⟨_, rfl⟩
  rw [hI] at HS hi
  clear hA hcell hI
  rcases hn : (cs.any fun c => c.name.toList == s.toList) with _ | _
  · have h2 : ¬ (0 ≤ i) := by rw [hn] at hi; simpa using hi
    clear hn hi
    go_enter Try.func47, Try.ntmps47
    go_wp2_with fail
    refine HS.out.mono ?_
    rintro e w2 ⟨rfl, hb2⟩
    go_wp2
    go_ret
    exact ⟨by simp [h2], hb2⟩
  · have h2 : 0 ≤ i := by rw [hn] at hi; simpa using hi
    clear hn hi
    go_enter Try.func47, Try.ntmps47
    go_wp2_with fail
    refine HS.out.mono ?_
    rintro e w2 ⟨rfl, hb2⟩
    go_wp2
    go_ret
    exact ⟨by simp, hb2⟩

end Go.Proofs.Ytnaphpgbmjpicaa
