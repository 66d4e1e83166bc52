/- Whatever is done, a cloud answers, and has, what it must: CloudGoes, walked. -/
import Derived.Test.YtpoegpojlcbfgaaDoorRl
namespace Go.Proofs.YtpoegpojlcbfgaaDoor
open Go.RowKit

set_option maxRecDepth 100000 in
set_option maxHeartbeats 16000000 in
theorem cloudGoes_walk (ops : List Opr) (now : Int) (a : Option Addr) (cap : Nat) (w : World) (hA : Om w a ops) (hl : ops.length ≤ 9223372036854775807) :
    Calls Tryd.prog 7 #[.slice a ops.length cap, .int .i64 now] w fun e w' => e = .returned (.bool true) ∧ Below w.heap.size w w' := by
  have HA := Lib.hid hA
  clear hA
  by_cases h200 : 200 < ops.length
  · go_enter Tryd.func7, Tryd.ntmps7
    go_wp2_with fail
    refine (live_any _).mono ?_
    rintro er w1 ⟨rfl, hb1⟩
    go_wp2_with fail
    refine (new_any _).mono ?_
    rintro er w2 ⟨p, F, rfl, -, hS⟩
    go_wp2_with fail
    refine (rnew_any _).mono ?_
    rintro er w3 ⟨q, G, rfl, -, hS3⟩
    have hb2 : Below w.heap.size w w2 := hb1.trans (hS.below hb1.size (fun k hk => by cases hk))
    have hb3 : Below w.heap.size w w3 := hb2.trans (hS3.below hb2.size (fun k hk => by cases hk))
    clear hS hS3 hb1 hb2
    go_wp2_with fail
    go_ret
    exact ⟨rfl, hb3⟩
  · go_enter Tryd.func7, Tryd.ntmps7
    go_wp2_with fail
    refine (live_any _).mono ?_
    rintro er w1 ⟨rfl, hb1⟩
    go_wp2_with fail
    refine (new_any _).mono ?_
    rintro er w2 ⟨p, F, rfl, hO, hS⟩
    go_wp2_with fail
    refine (rnew_any _).mono ?_
    rintro er w3 ⟨q, G, rfl, hR, hS3⟩
    have hb2 : Below w.heap.size w w2 := hb1.trans (hS.below hb1.size (fun k hk => by cases hk))
    have hb3 : Below w.heap.size w w3 := hb2.trans (hS3.below hb2.size (fun k hk => by cases hk))
    have HF := Lib.hid (hS.far (B := w.heap.size) hb1.size (fun k hk => by cases hk))
    have HGF := Lib.hid (hS3.far (B := w.heap.size) hb2.size (fun k hk => by cases hk))
    have HD : Hid (∀ k ∈ F, k ∉ G) := fun k hk hg => by
      rcases hS3.new k hg with h | h
      · cases h
      · have := hO.lt k hk; omega
    have HO := Lib.hid (hO.other hS3 (fun k _ => by simp))
    have HR := Lib.hid hR
    clear hS hS3 hb1 hb2 hO hR
    go_wp2_with fail
    go_loopw [6, 32] (fun pv i wr => ∃ (k : Nat) (c : Cd) (p : Nat) (F G : List Nat), k ≤ ops.length ∧ pv = .pointer (some ⟨p, 0, none⟩) ∧ i = .int .i64 k ∧ Below w.heap.size w wr ∧ Hid (Good c k) ∧ Hid (Own wr p c F) ∧ Hid (Rown wr q c G) ∧ Hid (∀ k ∈ F, w.heap.size ≤ k) ∧ Hid (∀ k ∈ G, w.heap.size ≤ k) ∧ Hid (∀ k ∈ F, k ∉ G))
      (fun _ i _ => ops.length - (intOf i).toNat)
    case atStart => exact ⟨0, Cd.new, p, F, G, Nat.zero_le _, rfl, rfl, hb3, Good.new, HO, HR, HF, HGF, HD⟩
    case round =>
      clear HO HR HF HGF HD hb3
      obtain ⟨k, c, p, F, G, hk, rfl, rfl, hb, HG, HO, HR, HF, HGF, HD⟩ := hrel
      by_cases hlt : k < ops.length
      · obtain ⟨x, hx⟩ : ∃ x, ops[k]? = some x := ⟨_, List.getElem?_eq_getElem hlt⟩
        obtain ⟨b, off, rfl, hbl, hcs, hsz⟩ := (HA.out.below (Nat.le_refl _) hb) k x hx
        have hc0 := hcs 0 _ rfl
        have hc1 := hcs 1 _ rfl
        have hc2 := hcs 2 _ rfl
        have hc3 := hcs 3 _ rfl
        have hc4 := hcs 4 _ rfl
        have hc5 := hcs 5 _ rfl
        have hc6 := hcs 6 _ rfl
        simp only [Nat.add_zero] at hc0
        clear hx hcs
        rcases hd0 : (x.d == 0) with _ | _
        · rcases hd1 : (x.d == 1) with _ | _
          · rcases hd2 : (x.d == 2) with _ | _
            · rcases hd3 : (x.d == 3) with _ | _
              · rcases hd4 : (x.d == 4) with _ | _
                · rcases hd5 : (x.d == 5) with _ | _
                  · have GD := Lib.hid (HG.out.mono (Nat.le_succ k))
                    obtain ⟨w4, hw4⟩ : ∃ w4, w4 = wr.alloc (.cells #[.int .i64 x.d, .string x.t, .string x.o.t, .string x.o.z, .string x.o.k, .int .i64 x.n, .bool x.cl] 30) := ⟨_, rfl⟩
                    have hbn : Below wr.heap.size wr w4 := by rw [hw4]; exact below_new wr _
                    have O4 := Lib.hid (HO.out.below hbn)
                    have R4 := Lib.hid (HR.out.below hbn)
                    have u5 : w4.cell? ⟨wr.heap.size, 5, none⟩ = some (.int .i64 x.n) := by rw [hw4, World.cell?_alloc_new]; rfl
                    have u6 : w4.cell? ⟨wr.heap.size, 6, none⟩ = some (.bool x.cl) := by rw [hw4, World.cell?_alloc_new]; rfl
                    have z4 : wr.heap.size < w4.heap.size := by rw [hw4]; simp
                    have hb4 : Below w.heap.size w w4 := hb.trans (hbn.mono hb.size)
                    obtain ⟨D, hD⟩ : ∃ D, c = D := ⟨_, rfl⟩
                    rw [hD] at GD O4 R4
                    have FF := HF
                    have FG := HGF
                    have FD := HD
                    clear hD HF HGF HD HO HR hbn hb HG
                    have S1 := Lib.hid (same_any D p q F G w4 now O4.out R4.out GD.out.fine.len GD.out.ns)
                    go_wp2_with fail
                    rw [← hw4]
                    clear hw4
                    refine S1.out.mono ?_
                    rintro er w5 ⟨rfl, hb5⟩
                    have u5' : w5.cell? ⟨wr.heap.size, 5, none⟩ = some (.int .i64 x.n) := (hb5.cell (p := ⟨wr.heap.size, 5, none⟩) z4).trans u5
                    have u6' : w5.cell? ⟨wr.heap.size, 6, none⟩ = some (.bool x.cl) := (hb5.cell (p := ⟨wr.heap.size, 6, none⟩) z4).trans u6
                    have z5 : wr.heap.size < w5.heap.size := Nat.lt_of_lt_of_le z4 hb5.size
                    have hbw5 : Below w.heap.size w w5 := hb4.trans (hb5.mono hb4.size)
                    have O5 := Lib.hid (O4.out.below hb5)
                    have R5 := Lib.hid (R4.out.below hb5)
                    have S2 := Lib.hid (same_any D p q F G w5 x.n O5.out R5.out GD.out.fine.len GD.out.ns)
                    clear S1 O4 R4 hb5 hb4 u5 u6 z4
                    go_wp2_with fail
                    refine S2.out.mono ?_
                    rintro er w6 ⟨rfl, hb6⟩
                    have u6 : w6.cell? ⟨wr.heap.size, 6, none⟩ = some (.bool x.cl) := (hb6.cell (p := ⟨wr.heap.size, 6, none⟩) z5).trans u6'
                    have hbw6 : Below w.heap.size w w6 := hbw5.trans (hb6.mono hbw5.size)
                    have O6 := Lib.hid (O5.out.below hb6)
                    have R6 := Lib.hid (R5.out.below hb6)
                    clear S2 O5 R5 hb6 hbw5 u5' u6' z5
                    rcases hcl : x.cl with _ | _
                    · rw [hcl] at u6
                      clear hcl
                      go_wp2_with fail
                      go_roundw
                      case rel => exact ⟨k + 1, D, p, F, G, by omega, rfl, by go_num, hbw6, GD, O6, R6, FF, FG, FD⟩
                      case measure => simp [intOf]; omega
                    · rw [hcl] at u6
                      clear hcl
                      have C1 := Lib.hid (clone_any D p F w6 O6.out GD.out.fine.len GD.out.ns)
                      go_wp2_with fail
                      refine C1.out.mono ?_
                      rintro er w7 ⟨p2, F2, rfl, hO2, hb7, hf2⟩
                      have L2 := Lib.hid (launch_any D p F w7 ⟨#[111, 116, 104, 101, 114]⟩ ⟨⟨#[97]⟩, ⟨#[97]⟩, ⟨#[97]⟩⟩ 0 (by decide) GD.out.fine.len (O6.out.below hb7))
                      have O2 := Lib.hid hO2
                      have HB7 := Lib.hid hb7
                      have HF2 := Lib.hid hf2
                      clear C1 hO2 hb7 hf2 u6
                      go_wp2_with fail
                      refine L2.out.mono ?_
                      rintro er w8 ⟨rfl, F3, hO8, hS8⟩
                      have T2 := Lib.hid (take_any _ p F3 w8 hO8)
                      have S8 := Lib.hid hS8
                      clear L2 hO8 hS8
                      go_wp2_with fail
                      refine T2.out.mono ?_
                      rintro er w9 ⟨rfl, -, hS9⟩
                      obtain ⟨q1, q2, q3, q4, q5⟩ := duo3 hbw6 O6.out R6.out FF.out FD.out O2.out HB7.out HF2.out S8.out hS9
                      have Q1 := Lib.hid q1
                      have Q2 := Lib.hid q2
                      have Q4 := Lib.hid q4
                      have Q5 := Lib.hid q5
                      clear q1 q2 q4 q5 T2 S8 O2 HB7 HF2 O6 R6 FF FD hbw6 hS9
                      go_wp2_with fail
                      go_roundw
                      case rel => exact ⟨k + 1, D, p2, F2, G, by omega, rfl, by go_num, q3, GD, Q1, Q2, Q4, FG, Q5⟩
                      case measure => simp [intOf]; omega
                  · obtain ⟨e, he⟩ : ∃ e, notifyE c x.t = e := ⟨_, rfl⟩
                    have hL := fun (w : World) (h : Own w p c F) => notify_any c p F w x.t hsz h
                    have hLR := fun (w : World) (h : Rown w q c G) => rnotify_any c q G w x.t hsz h
                    rw [he] at hL hLR
                    clear he
                    obtain ⟨D, hD⟩ : ∃ D, c.notify x.t = D := ⟨_, rfl⟩
                    have GD0 : Good (c.notify x.t) (k + 1) := (HG.out.notify x.t).mono (Nat.le_succ k)
                    rw [hD] at hL hLR GD0
                    have HL := Lib.hid hL
                    have HLR := Lib.hid hLR
                    have GD := Lib.hid GD0
                    clear hL hLR GD0 hD
                    go_wp2_with fail
                    refine (HL.out _ (HO.out.below (below_new wr _))).mono ?_
                    rintro er w3 ⟨rfl, F', hO3, hS3⟩
                    obtain ⟨r3, d3, b3, z3, hb3, f3⟩ := duo1 hb HO.out HR.out HF.out HD.out hS3
                    have t1 : w3.cell? ⟨wr.heap.size, 1, none⟩ = some (.string x.t) := b3 1
                    have t2 : w3.cell? ⟨wr.heap.size, 2, none⟩ = some (.string x.o.t) := b3 2
                    have t3 : w3.cell? ⟨wr.heap.size, 3, none⟩ = some (.string x.o.z) := b3 3
                    have t4 : w3.cell? ⟨wr.heap.size, 4, none⟩ = some (.string x.o.k) := b3 4
                    have t5 : w3.cell? ⟨wr.heap.size, 5, none⟩ = some (.int .i64 x.n) := b3 5
                    have hBG : wr.heap.size ∉ G := fun h => Nat.lt_irrefl _ (HR.out.lt _ h)
                    have O3 := Lib.hid hO3
                    have R3 := Lib.hid r3
                    have D3 := Lib.hid d3
                    have B3 := Lib.hid b3
                    have FF := Lib.hid f3
                    clear hO3 r3 d3 b3 f3 hS3 HO HR HF HD hb HL
                    go_wp2_with fail
                    refine (HLR.out _ R3.out).mono ?_
                    rintro er w4 ⟨rfl, G', hR4, hS4⟩
                    obtain ⟨o4, d4, b4, z4, hb4, f4⟩ := duo2 hb3 O3.out R3.out HGF.out D3.out z3 hBG B3.out hS4
                    have u5 : w4.cell? ⟨wr.heap.size, 5, none⟩ = some (.int .i64 x.n) := b4 5
                    have u6 : w4.cell? ⟨wr.heap.size, 6, none⟩ = some (.bool x.cl) := b4 6
                    have O4 := Lib.hid o4
                    have R4 := Lib.hid hR4
                    have FG := Lib.hid f4
                    have FD := Lib.hid d4
                    clear o4 hR4 hS4 d4 b4 f4 O3 R3 D3 B3 HGF HLR t1 t2 t3 t4 t5 hb3 z3 hBG
                    have S1 := Lib.hid (same_any D p q F' G' w4 now O4.out R4.out GD.out.fine.len GD.out.ns)
                    go_wp2_with fail
                    refine S1.out.mono ?_
                    rintro er w5 ⟨rfl, hb5⟩
                    have u5' : w5.cell? ⟨wr.heap.size, 5, none⟩ = some (.int .i64 x.n) := (hb5.cell (p := ⟨wr.heap.size, 5, none⟩) z4).trans u5
                    have u6' : w5.cell? ⟨wr.heap.size, 6, none⟩ = some (.bool x.cl) := (hb5.cell (p := ⟨wr.heap.size, 6, none⟩) z4).trans u6
                    have z5 : wr.heap.size < w5.heap.size := Nat.lt_of_lt_of_le z4 hb5.size
                    have hbw5 : Below w.heap.size w w5 := hb4.trans (hb5.mono hb4.size)
                    have O5 := Lib.hid (O4.out.below hb5)
                    have R5 := Lib.hid (R4.out.below hb5)
                    have S2 := Lib.hid (same_any D p q F' G' w5 x.n O5.out R5.out GD.out.fine.len GD.out.ns)
                    clear S1 O4 R4 hb5 hb4 u5 u6 z4
                    go_wp2_with fail
                    refine S2.out.mono ?_
                    rintro er w6 ⟨rfl, hb6⟩
                    have u6 : w6.cell? ⟨wr.heap.size, 6, none⟩ = some (.bool x.cl) := (hb6.cell (p := ⟨wr.heap.size, 6, none⟩) z5).trans u6'
                    have hbw6 : Below w.heap.size w w6 := hbw5.trans (hb6.mono hbw5.size)
                    have O6 := Lib.hid (O5.out.below hb6)
                    have R6 := Lib.hid (R5.out.below hb6)
                    clear S2 O5 R5 hb6 hbw5 u5' u6' z5
                    rcases hcl : x.cl with _ | _
                    · rw [hcl] at u6
                      clear hcl
                      go_wp2_with fail
                      go_roundw
                      case rel => exact ⟨k + 1, D, p, F', G', by omega, rfl, by go_num, hbw6, GD, O6, R6, FF, FG, FD⟩
                      case measure => simp [intOf]; omega
                    · rw [hcl] at u6
                      clear hcl
                      have C1 := Lib.hid (clone_any D p F' w6 O6.out GD.out.fine.len GD.out.ns)
                      go_wp2_with fail
                      refine C1.out.mono ?_
                      rintro er w7 ⟨p2, F2, rfl, hO2, hb7, hf2⟩
                      have L2 := Lib.hid (launch_any D p F' w7 ⟨#[111, 116, 104, 101, 114]⟩ ⟨⟨#[97]⟩, ⟨#[97]⟩, ⟨#[97]⟩⟩ 0 (by decide) GD.out.fine.len (O6.out.below hb7))
                      have O2 := Lib.hid hO2
                      have HB7 := Lib.hid hb7
                      have HF2 := Lib.hid hf2
                      clear C1 hO2 hb7 hf2 u6
                      go_wp2_with fail
                      refine L2.out.mono ?_
                      rintro er w8 ⟨rfl, F3, hO8, hS8⟩
                      have T2 := Lib.hid (take_any _ p F3 w8 hO8)
                      have S8 := Lib.hid hS8
                      clear L2 hO8 hS8
                      go_wp2_with fail
                      refine T2.out.mono ?_
                      rintro er w9 ⟨rfl, -, hS9⟩
                      obtain ⟨q1, q2, q3, q4, q5⟩ := duo3 hbw6 O6.out R6.out FF.out FD.out O2.out HB7.out HF2.out S8.out hS9
                      have Q1 := Lib.hid q1
                      have Q2 := Lib.hid q2
                      have Q4 := Lib.hid q4
                      have Q5 := Lib.hid q5
                      clear q1 q2 q4 q5 T2 S8 O2 HB7 HF2 O6 R6 FF FD hbw6 hS9
                      go_wp2_with fail
                      go_roundw
                      case rel => exact ⟨k + 1, D, p2, F2, G', by omega, rfl, by go_num, q3, GD, Q1, Q2, Q4, FG, Q5⟩
                      case measure => simp [intOf]; omega
                · obtain ⟨e, he⟩ : ∃ e, delayE x.n = e := ⟨_, rfl⟩
                  have hL := fun (w : World) (h : Own w p c F) => delay_any c p F w x.n h
                  have hLR := fun (w : World) (h : Rown w q c G) => rdelay_any c q G w x.n h
                  rw [he] at hL hLR
                  clear he
                  obtain ⟨D, hD⟩ : ∃ D, c.delay x.n = D := ⟨_, rfl⟩
                  have GD0 : Good (c.delay x.n) (k + 1) := (HG.out.delay x.n).mono (Nat.le_succ k)
                  rw [hD] at hL hLR GD0
                  have HL := Lib.hid hL
                  have HLR := Lib.hid hLR
                  have GD := Lib.hid GD0
                  clear hL hLR GD0 hD
                  go_wp2_with fail
                  refine (HL.out _ (HO.out.below (below_new wr _))).mono ?_
                  rintro er w3 ⟨rfl, hO3, hS3⟩
                  obtain ⟨r3, d3, b3, z3, hb3, f3⟩ := duo1 hb HO.out HR.out HF.out HD.out hS3
                  have t1 : w3.cell? ⟨wr.heap.size, 1, none⟩ = some (.string x.t) := b3 1
                  have t2 : w3.cell? ⟨wr.heap.size, 2, none⟩ = some (.string x.o.t) := b3 2
                  have t3 : w3.cell? ⟨wr.heap.size, 3, none⟩ = some (.string x.o.z) := b3 3
                  have t4 : w3.cell? ⟨wr.heap.size, 4, none⟩ = some (.string x.o.k) := b3 4
                  have t5 : w3.cell? ⟨wr.heap.size, 5, none⟩ = some (.int .i64 x.n) := b3 5
                  have hBG : wr.heap.size ∉ G := fun h => Nat.lt_irrefl _ (HR.out.lt _ h)
                  have O3 := Lib.hid hO3
                  have R3 := Lib.hid r3
                  have D3 := Lib.hid d3
                  have B3 := Lib.hid b3
                  have FF := Lib.hid f3
                  clear hO3 r3 d3 b3 f3 hS3 HO HR HF HD hb HL
                  go_wp2_with fail
                  refine (HLR.out _ R3.out).mono ?_
                  rintro er w4 ⟨rfl, hR4, hS4⟩
                  obtain ⟨o4, d4, b4, z4, hb4, f4⟩ := duo2 hb3 O3.out R3.out HGF.out D3.out z3 hBG B3.out hS4
                  have u5 : w4.cell? ⟨wr.heap.size, 5, none⟩ = some (.int .i64 x.n) := b4 5
                  have u6 : w4.cell? ⟨wr.heap.size, 6, none⟩ = some (.bool x.cl) := b4 6
                  have O4 := Lib.hid o4
                  have R4 := Lib.hid hR4
                  have FG := Lib.hid f4
                  have FD := Lib.hid d4
                  clear o4 hR4 hS4 d4 b4 f4 O3 R3 D3 B3 HGF HLR t1 t2 t3 t4 t5 hb3 z3 hBG
                  have S1 := Lib.hid (same_any D p q F G w4 now O4.out R4.out GD.out.fine.len GD.out.ns)
                  go_wp2_with fail
                  refine S1.out.mono ?_
                  rintro er w5 ⟨rfl, hb5⟩
                  have u5' : w5.cell? ⟨wr.heap.size, 5, none⟩ = some (.int .i64 x.n) := (hb5.cell (p := ⟨wr.heap.size, 5, none⟩) z4).trans u5
                  have u6' : w5.cell? ⟨wr.heap.size, 6, none⟩ = some (.bool x.cl) := (hb5.cell (p := ⟨wr.heap.size, 6, none⟩) z4).trans u6
                  have z5 : wr.heap.size < w5.heap.size := Nat.lt_of_lt_of_le z4 hb5.size
                  have hbw5 : Below w.heap.size w w5 := hb4.trans (hb5.mono hb4.size)
                  have O5 := Lib.hid (O4.out.below hb5)
                  have R5 := Lib.hid (R4.out.below hb5)
                  have S2 := Lib.hid (same_any D p q F G w5 x.n O5.out R5.out GD.out.fine.len GD.out.ns)
                  clear S1 O4 R4 hb5 hb4 u5 u6 z4
                  go_wp2_with fail
                  refine S2.out.mono ?_
                  rintro er w6 ⟨rfl, hb6⟩
                  have u6 : w6.cell? ⟨wr.heap.size, 6, none⟩ = some (.bool x.cl) := (hb6.cell (p := ⟨wr.heap.size, 6, none⟩) z5).trans u6'
                  have hbw6 : Below w.heap.size w w6 := hbw5.trans (hb6.mono hbw5.size)
                  have O6 := Lib.hid (O5.out.below hb6)
                  have R6 := Lib.hid (R5.out.below hb6)
                  clear S2 O5 R5 hb6 hbw5 u5' u6' z5
                  rcases hcl : x.cl with _ | _
                  · rw [hcl] at u6
                    clear hcl
                    go_wp2_with fail
                    go_roundw
                    case rel => exact ⟨k + 1, D, p, F, G, by omega, rfl, by go_num, hbw6, GD, O6, R6, FF, FG, FD⟩
                    case measure => simp [intOf]; omega
                  · rw [hcl] at u6
                    clear hcl
                    have C1 := Lib.hid (clone_any D p F w6 O6.out GD.out.fine.len GD.out.ns)
                    go_wp2_with fail
                    refine C1.out.mono ?_
                    rintro er w7 ⟨p2, F2, rfl, hO2, hb7, hf2⟩
                    have L2 := Lib.hid (launch_any D p F w7 ⟨#[111, 116, 104, 101, 114]⟩ ⟨⟨#[97]⟩, ⟨#[97]⟩, ⟨#[97]⟩⟩ 0 (by decide) GD.out.fine.len (O6.out.below hb7))
                    have O2 := Lib.hid hO2
                    have HB7 := Lib.hid hb7
                    have HF2 := Lib.hid hf2
                    clear C1 hO2 hb7 hf2 u6
                    go_wp2_with fail
                    refine L2.out.mono ?_
                    rintro er w8 ⟨rfl, F3, hO8, hS8⟩
                    have T2 := Lib.hid (take_any _ p F3 w8 hO8)
                    have S8 := Lib.hid hS8
                    clear L2 hO8 hS8
                    go_wp2_with fail
                    refine T2.out.mono ?_
                    rintro er w9 ⟨rfl, -, hS9⟩
                    obtain ⟨q1, q2, q3, q4, q5⟩ := duo3 hbw6 O6.out R6.out FF.out FD.out O2.out HB7.out HF2.out S8.out hS9
                    have Q1 := Lib.hid q1
                    have Q2 := Lib.hid q2
                    have Q4 := Lib.hid q4
                    have Q5 := Lib.hid q5
                    clear q1 q2 q4 q5 T2 S8 O2 HB7 HF2 O6 R6 FF FD hbw6 hS9
                    go_wp2_with fail
                    go_roundw
                    case rel => exact ⟨k + 1, D, p2, F2, G, by omega, rfl, by go_num, q3, GD, Q1, Q2, Q4, FG, Q5⟩
                    case measure => simp [intOf]; omega
              · obtain ⟨e, he⟩ : ∃ e, setE x.o x.n = e := ⟨_, rfl⟩
                have hL := fun (w : World) (h : Own w p c F) => set_any c p F w x.o x.n h
                have hLR := fun (w : World) (h : Rown w q c G) => rset_any c q G w x.o x.n (by have := HG.out.sk; omega) h
                rw [he] at hL hLR
                clear he
                obtain ⟨D, hD⟩ : ∃ D, c.set x.o x.n = D := ⟨_, rfl⟩
                have GD0 : Good (c.set x.o x.n) (k + 1) := HG.out.set x.o x.n
                rw [hD] at hL hLR GD0
                have HL := Lib.hid hL
                have HLR := Lib.hid hLR
                have GD := Lib.hid GD0
                clear hL hLR GD0 hD
                go_wp2_with fail
                refine (HL.out _ (HO.out.below (below_new wr _))).mono ?_
                rintro er w3 ⟨rfl, hO3, hS3⟩
                obtain ⟨r3, d3, b3, z3, hb3, f3⟩ := duo1 hb HO.out HR.out HF.out HD.out hS3
                have t1 : w3.cell? ⟨wr.heap.size, 1, none⟩ = some (.string x.t) := b3 1
                have t2 : w3.cell? ⟨wr.heap.size, 2, none⟩ = some (.string x.o.t) := b3 2
                have t3 : w3.cell? ⟨wr.heap.size, 3, none⟩ = some (.string x.o.z) := b3 3
                have t4 : w3.cell? ⟨wr.heap.size, 4, none⟩ = some (.string x.o.k) := b3 4
                have t5 : w3.cell? ⟨wr.heap.size, 5, none⟩ = some (.int .i64 x.n) := b3 5
                have hBG : wr.heap.size ∉ G := fun h => Nat.lt_irrefl _ (HR.out.lt _ h)
                have O3 := Lib.hid hO3
                have R3 := Lib.hid r3
                have D3 := Lib.hid d3
                have B3 := Lib.hid b3
                have FF := Lib.hid f3
                clear hO3 r3 d3 b3 f3 hS3 HO HR HF HD hb HL
                go_wp2_with fail
                refine (HLR.out _ R3.out).mono ?_
                rintro er w4 ⟨rfl, G', hR4, hS4⟩
                obtain ⟨o4, d4, b4, z4, hb4, f4⟩ := duo2 hb3 O3.out R3.out HGF.out D3.out z3 hBG B3.out hS4
                have u5 : w4.cell? ⟨wr.heap.size, 5, none⟩ = some (.int .i64 x.n) := b4 5
                have u6 : w4.cell? ⟨wr.heap.size, 6, none⟩ = some (.bool x.cl) := b4 6
                have O4 := Lib.hid o4
                have R4 := Lib.hid hR4
                have FG := Lib.hid f4
                have FD := Lib.hid d4
                clear o4 hR4 hS4 d4 b4 f4 O3 R3 D3 B3 HGF HLR t1 t2 t3 t4 t5 hb3 z3 hBG
                have S1 := Lib.hid (same_any D p q F G' w4 now O4.out R4.out GD.out.fine.len GD.out.ns)
                go_wp2_with fail
                refine S1.out.mono ?_
                rintro er w5 ⟨rfl, hb5⟩
                have u5' : w5.cell? ⟨wr.heap.size, 5, none⟩ = some (.int .i64 x.n) := (hb5.cell (p := ⟨wr.heap.size, 5, none⟩) z4).trans u5
                have u6' : w5.cell? ⟨wr.heap.size, 6, none⟩ = some (.bool x.cl) := (hb5.cell (p := ⟨wr.heap.size, 6, none⟩) z4).trans u6
                have z5 : wr.heap.size < w5.heap.size := Nat.lt_of_lt_of_le z4 hb5.size
                have hbw5 : Below w.heap.size w w5 := hb4.trans (hb5.mono hb4.size)
                have O5 := Lib.hid (O4.out.below hb5)
                have R5 := Lib.hid (R4.out.below hb5)
                have S2 := Lib.hid (same_any D p q F G' w5 x.n O5.out R5.out GD.out.fine.len GD.out.ns)
                clear S1 O4 R4 hb5 hb4 u5 u6 z4
                go_wp2_with fail
                refine S2.out.mono ?_
                rintro er w6 ⟨rfl, hb6⟩
                have u6 : w6.cell? ⟨wr.heap.size, 6, none⟩ = some (.bool x.cl) := (hb6.cell (p := ⟨wr.heap.size, 6, none⟩) z5).trans u6'
                have hbw6 : Below w.heap.size w w6 := hbw5.trans (hb6.mono hbw5.size)
                have O6 := Lib.hid (O5.out.below hb6)
                have R6 := Lib.hid (R5.out.below hb6)
                clear S2 O5 R5 hb6 hbw5 u5' u6' z5
                rcases hcl : x.cl with _ | _
                · rw [hcl] at u6
                  clear hcl
                  go_wp2_with fail
                  go_roundw
                  case rel => exact ⟨k + 1, D, p, F, G', by omega, rfl, by go_num, hbw6, GD, O6, R6, FF, FG, FD⟩
                  case measure => simp [intOf]; omega
                · rw [hcl] at u6
                  clear hcl
                  have C1 := Lib.hid (clone_any D p F w6 O6.out GD.out.fine.len GD.out.ns)
                  go_wp2_with fail
                  refine C1.out.mono ?_
                  rintro er w7 ⟨p2, F2, rfl, hO2, hb7, hf2⟩
                  have L2 := Lib.hid (launch_any D p F w7 ⟨#[111, 116, 104, 101, 114]⟩ ⟨⟨#[97]⟩, ⟨#[97]⟩, ⟨#[97]⟩⟩ 0 (by decide) GD.out.fine.len (O6.out.below hb7))
                  have O2 := Lib.hid hO2
                  have HB7 := Lib.hid hb7
                  have HF2 := Lib.hid hf2
                  clear C1 hO2 hb7 hf2 u6
                  go_wp2_with fail
                  refine L2.out.mono ?_
                  rintro er w8 ⟨rfl, F3, hO8, hS8⟩
                  have T2 := Lib.hid (take_any _ p F3 w8 hO8)
                  have S8 := Lib.hid hS8
                  clear L2 hO8 hS8
                  go_wp2_with fail
                  refine T2.out.mono ?_
                  rintro er w9 ⟨rfl, -, hS9⟩
                  obtain ⟨q1, q2, q3, q4, q5⟩ := duo3 hbw6 O6.out R6.out FF.out FD.out O2.out HB7.out HF2.out S8.out hS9
                  have Q1 := Lib.hid q1
                  have Q2 := Lib.hid q2
                  have Q4 := Lib.hid q4
                  have Q5 := Lib.hid q5
                  clear q1 q2 q4 q5 T2 S8 O2 HB7 HF2 O6 R6 FF FD hbw6 hS9
                  go_wp2_with fail
                  go_roundw
                  case rel => exact ⟨k + 1, D, p2, F2, G', by omega, rfl, by go_num, q3, GD, Q1, Q2, Q4, FG, Q5⟩
                  case measure => simp [intOf]; omega
            · obtain ⟨e0, e, he⟩ : ∃ e0 e, takeE c = (e0, e) := ⟨_, _, rfl⟩
              have hL := fun (w : World) (h : Own w p c F) => take_any c p F w h
              have hLR := fun (w : World) (h : Rown w q c G) => rtake_any c q G w h
              rw [he] at hL hLR
              clear he
              obtain ⟨D, hD⟩ : ∃ D, c.take = D := ⟨_, rfl⟩
              have GD0 : Good (c.take) (k + 1) := HG.out.take.mono (Nat.le_succ k)
              rw [hD] at hL hLR GD0
              have HL := Lib.hid hL
              have HLR := Lib.hid hLR
              have GD := Lib.hid GD0
              clear hL hLR GD0 hD
              go_wp2_with fail
              refine (HL.out _ (HO.out.below (below_new wr _))).mono ?_
              rintro er w3 ⟨rfl, hO3, hS3⟩
              obtain ⟨r3, d3, b3, z3, hb3, f3⟩ := duo1 hb HO.out HR.out HF.out HD.out hS3
              have t1 : w3.cell? ⟨wr.heap.size, 1, none⟩ = some (.string x.t) := b3 1
              have t2 : w3.cell? ⟨wr.heap.size, 2, none⟩ = some (.string x.o.t) := b3 2
              have t3 : w3.cell? ⟨wr.heap.size, 3, none⟩ = some (.string x.o.z) := b3 3
              have t4 : w3.cell? ⟨wr.heap.size, 4, none⟩ = some (.string x.o.k) := b3 4
              have t5 : w3.cell? ⟨wr.heap.size, 5, none⟩ = some (.int .i64 x.n) := b3 5
              have hBG : wr.heap.size ∉ G := fun h => Nat.lt_irrefl _ (HR.out.lt _ h)
              have O3 := Lib.hid hO3
              have R3 := Lib.hid r3
              have D3 := Lib.hid d3
              have B3 := Lib.hid b3
              have FF := Lib.hid f3
              clear hO3 r3 d3 b3 f3 hS3 HO HR HF HD hb HL
              go_wp2_with fail
              refine (HLR.out _ R3.out).mono ?_
              rintro er w4 ⟨rfl, hR4, hS4⟩
              obtain ⟨o4, d4, b4, z4, hb4, f4⟩ := duo2 hb3 O3.out R3.out HGF.out D3.out z3 hBG B3.out hS4
              have u5 : w4.cell? ⟨wr.heap.size, 5, none⟩ = some (.int .i64 x.n) := b4 5
              have u6 : w4.cell? ⟨wr.heap.size, 6, none⟩ = some (.bool x.cl) := b4 6
              have O4 := Lib.hid o4
              have R4 := Lib.hid hR4
              have FG := Lib.hid f4
              have FD := Lib.hid d4
              clear o4 hR4 hS4 d4 b4 f4 O3 R3 D3 B3 HGF HLR t1 t2 t3 t4 t5 hb3 z3 hBG
              have S1 := Lib.hid (same_any D p q F G w4 now O4.out R4.out GD.out.fine.len GD.out.ns)
              go_wp2_with fail
              refine S1.out.mono ?_
              rintro er w5 ⟨rfl, hb5⟩
              have u5' : w5.cell? ⟨wr.heap.size, 5, none⟩ = some (.int .i64 x.n) := (hb5.cell (p := ⟨wr.heap.size, 5, none⟩) z4).trans u5
              have u6' : w5.cell? ⟨wr.heap.size, 6, none⟩ = some (.bool x.cl) := (hb5.cell (p := ⟨wr.heap.size, 6, none⟩) z4).trans u6
              have z5 : wr.heap.size < w5.heap.size := Nat.lt_of_lt_of_le z4 hb5.size
              have hbw5 : Below w.heap.size w w5 := hb4.trans (hb5.mono hb4.size)
              have O5 := Lib.hid (O4.out.below hb5)
              have R5 := Lib.hid (R4.out.below hb5)
              have S2 := Lib.hid (same_any D p q F G w5 x.n O5.out R5.out GD.out.fine.len GD.out.ns)
              clear S1 O4 R4 hb5 hb4 u5 u6 z4
              go_wp2_with fail
              refine S2.out.mono ?_
              rintro er w6 ⟨rfl, hb6⟩
              have u6 : w6.cell? ⟨wr.heap.size, 6, none⟩ = some (.bool x.cl) := (hb6.cell (p := ⟨wr.heap.size, 6, none⟩) z5).trans u6'
              have hbw6 : Below w.heap.size w w6 := hbw5.trans (hb6.mono hbw5.size)
              have O6 := Lib.hid (O5.out.below hb6)
              have R6 := Lib.hid (R5.out.below hb6)
              clear S2 O5 R5 hb6 hbw5 u5' u6' z5
              rcases hcl : x.cl with _ | _
              · rw [hcl] at u6
                clear hcl
                go_wp2_with fail
                go_roundw
                case rel => exact ⟨k + 1, D, p, F, G, by omega, rfl, by go_num, hbw6, GD, O6, R6, FF, FG, FD⟩
                case measure => simp [intOf]; omega
              · rw [hcl] at u6
                clear hcl
                have C1 := Lib.hid (clone_any D p F w6 O6.out GD.out.fine.len GD.out.ns)
                go_wp2_with fail
                refine C1.out.mono ?_
                rintro er w7 ⟨p2, F2, rfl, hO2, hb7, hf2⟩
                have L2 := Lib.hid (launch_any D p F w7 ⟨#[111, 116, 104, 101, 114]⟩ ⟨⟨#[97]⟩, ⟨#[97]⟩, ⟨#[97]⟩⟩ 0 (by decide) GD.out.fine.len (O6.out.below hb7))
                have O2 := Lib.hid hO2
                have HB7 := Lib.hid hb7
                have HF2 := Lib.hid hf2
                clear C1 hO2 hb7 hf2 u6
                go_wp2_with fail
                refine L2.out.mono ?_
                rintro er w8 ⟨rfl, F3, hO8, hS8⟩
                have T2 := Lib.hid (take_any _ p F3 w8 hO8)
                have S8 := Lib.hid hS8
                clear L2 hO8 hS8
                go_wp2_with fail
                refine T2.out.mono ?_
                rintro er w9 ⟨rfl, -, hS9⟩
                obtain ⟨q1, q2, q3, q4, q5⟩ := duo3 hbw6 O6.out R6.out FF.out FD.out O2.out HB7.out HF2.out S8.out hS9
                have Q1 := Lib.hid q1
                have Q2 := Lib.hid q2
                have Q4 := Lib.hid q4
                have Q5 := Lib.hid q5
                clear q1 q2 q4 q5 T2 S8 O2 HB7 HF2 O6 R6 FF FD hbw6 hS9
                go_wp2_with fail
                go_roundw
                case rel => exact ⟨k + 1, D, p2, F2, G, by omega, rfl, by go_num, q3, GD, Q1, Q2, Q4, FG, Q5⟩
                case measure => simp [intOf]; omega
          · obtain ⟨e, he⟩ : ∃ e, endE c x.t = e := ⟨_, rfl⟩
            have hL := fun (w : World) (h : Own w p c F) => end_any c p F w x.t h
            have hLR := fun (w : World) (h : Rown w q c G) => rend_any c q G w x.t (fun _ _ _ _ hi hj e => HG.out.fine.id_ne hi hj e) HG.out.fine.len h
            rw [he] at hL hLR
            clear he
            obtain ⟨D, hD⟩ : ∃ D, c.fin x.t = D := ⟨_, rfl⟩
            have GD0 : Good (c.fin x.t) (k + 1) := (HG.out.fin x.t).mono (Nat.le_succ k)
            rw [hD] at hL hLR GD0
            have HL := Lib.hid hL
            have HLR := Lib.hid hLR
            have GD := Lib.hid GD0
            clear hL hLR GD0 hD
            go_wp2_with fail
            refine (HL.out _ (HO.out.below (below_new wr _))).mono ?_
            rintro er w3 ⟨rfl, hO3, hS3⟩
            obtain ⟨r3, d3, b3, z3, hb3, f3⟩ := duo1 hb HO.out HR.out HF.out HD.out hS3
            have t1 : w3.cell? ⟨wr.heap.size, 1, none⟩ = some (.string x.t) := b3 1
            have t2 : w3.cell? ⟨wr.heap.size, 2, none⟩ = some (.string x.o.t) := b3 2
            have t3 : w3.cell? ⟨wr.heap.size, 3, none⟩ = some (.string x.o.z) := b3 3
            have t4 : w3.cell? ⟨wr.heap.size, 4, none⟩ = some (.string x.o.k) := b3 4
            have t5 : w3.cell? ⟨wr.heap.size, 5, none⟩ = some (.int .i64 x.n) := b3 5
            have hBG : wr.heap.size ∉ G := fun h => Nat.lt_irrefl _ (HR.out.lt _ h)
            have O3 := Lib.hid hO3
            have R3 := Lib.hid r3
            have D3 := Lib.hid d3
            have B3 := Lib.hid b3
            have FF := Lib.hid f3
            clear hO3 r3 d3 b3 f3 hS3 HO HR HF HD hb HL
            go_wp2_with fail
            refine (HLR.out _ R3.out).mono ?_
            rintro er w4 ⟨rfl, hR4, hS4⟩
            obtain ⟨o4, d4, b4, z4, hb4, f4⟩ := duo2 hb3 O3.out R3.out HGF.out D3.out z3 hBG B3.out hS4
            have u5 : w4.cell? ⟨wr.heap.size, 5, none⟩ = some (.int .i64 x.n) := b4 5
            have u6 : w4.cell? ⟨wr.heap.size, 6, none⟩ = some (.bool x.cl) := b4 6
            have O4 := Lib.hid o4
            have R4 := Lib.hid hR4
            have FG := Lib.hid f4
            have FD := Lib.hid d4
            clear o4 hR4 hS4 d4 b4 f4 O3 R3 D3 B3 HGF HLR t1 t2 t3 t4 t5 hb3 z3 hBG
            have S1 := Lib.hid (same_any D p q F G w4 now O4.out R4.out GD.out.fine.len GD.out.ns)
            go_wp2_with fail
            refine S1.out.mono ?_
            rintro er w5 ⟨rfl, hb5⟩
            have u5' : w5.cell? ⟨wr.heap.size, 5, none⟩ = some (.int .i64 x.n) := (hb5.cell (p := ⟨wr.heap.size, 5, none⟩) z4).trans u5
            have u6' : w5.cell? ⟨wr.heap.size, 6, none⟩ = some (.bool x.cl) := (hb5.cell (p := ⟨wr.heap.size, 6, none⟩) z4).trans u6
            have z5 : wr.heap.size < w5.heap.size := Nat.lt_of_lt_of_le z4 hb5.size
            have hbw5 : Below w.heap.size w w5 := hb4.trans (hb5.mono hb4.size)
            have O5 := Lib.hid (O4.out.below hb5)
            have R5 := Lib.hid (R4.out.below hb5)
            have S2 := Lib.hid (same_any D p q F G w5 x.n O5.out R5.out GD.out.fine.len GD.out.ns)
            clear S1 O4 R4 hb5 hb4 u5 u6 z4
            go_wp2_with fail
            refine S2.out.mono ?_
            rintro er w6 ⟨rfl, hb6⟩
            have u6 : w6.cell? ⟨wr.heap.size, 6, none⟩ = some (.bool x.cl) := (hb6.cell (p := ⟨wr.heap.size, 6, none⟩) z5).trans u6'
            have hbw6 : Below w.heap.size w w6 := hbw5.trans (hb6.mono hbw5.size)
            have O6 := Lib.hid (O5.out.below hb6)
            have R6 := Lib.hid (R5.out.below hb6)
            clear S2 O5 R5 hb6 hbw5 u5' u6' z5
            rcases hcl : x.cl with _ | _
            · rw [hcl] at u6
              clear hcl
              go_wp2_with fail
              go_roundw
              case rel => exact ⟨k + 1, D, p, F, G, by omega, rfl, by go_num, hbw6, GD, O6, R6, FF, FG, FD⟩
              case measure => simp [intOf]; omega
            · rw [hcl] at u6
              clear hcl
              have C1 := Lib.hid (clone_any D p F w6 O6.out GD.out.fine.len GD.out.ns)
              go_wp2_with fail
              refine C1.out.mono ?_
              rintro er w7 ⟨p2, F2, rfl, hO2, hb7, hf2⟩
              have L2 := Lib.hid (launch_any D p F w7 ⟨#[111, 116, 104, 101, 114]⟩ ⟨⟨#[97]⟩, ⟨#[97]⟩, ⟨#[97]⟩⟩ 0 (by decide) GD.out.fine.len (O6.out.below hb7))
              have O2 := Lib.hid hO2
              have HB7 := Lib.hid hb7
              have HF2 := Lib.hid hf2
              clear C1 hO2 hb7 hf2 u6
              go_wp2_with fail
              refine L2.out.mono ?_
              rintro er w8 ⟨rfl, F3, hO8, hS8⟩
              have T2 := Lib.hid (take_any _ p F3 w8 hO8)
              have S8 := Lib.hid hS8
              clear L2 hO8 hS8
              go_wp2_with fail
              refine T2.out.mono ?_
              rintro er w9 ⟨rfl, -, hS9⟩
              obtain ⟨q1, q2, q3, q4, q5⟩ := duo3 hbw6 O6.out R6.out FF.out FD.out O2.out HB7.out HF2.out S8.out hS9
              have Q1 := Lib.hid q1
              have Q2 := Lib.hid q2
              have Q4 := Lib.hid q4
              have Q5 := Lib.hid q5
              clear q1 q2 q4 q5 T2 S8 O2 HB7 HF2 O6 R6 FF FD hbw6 hS9
              go_wp2_with fail
              go_roundw
              case rel => exact ⟨k + 1, D, p2, F2, G, by omega, rfl, by go_num, q3, GD, Q1, Q2, Q4, FG, Q5⟩
              case measure => simp [intOf]; omega
        · obtain ⟨e0, e, he⟩ : ∃ e0 e, launchE c x.t x.o x.n = (e0, e) := ⟨_, _, rfl⟩
          have hL := fun (w : World) (h : Own w p c F) => launch_any c p F w x.t x.o x.n hsz HG.out.fine.len h
          have hLR := fun (w : World) (h : Rown w q c G) => rlaunch_any c q G w x.t x.o x.n hsz HG.out.fine.len HG.out.keys (by have := HG.out.sk; omega) HG.out.free h
          rw [he] at hL hLR
          clear he
          obtain ⟨D, hD⟩ : ∃ D, c.launch x.t x.o x.n = D := ⟨_, rfl⟩
          have GD0 : Good (c.launch x.t x.o x.n) (k + 1) := (HG.out.launch x.t x.o x.n).mono (Nat.le_succ k)
          rw [hD] at hL hLR GD0
          have HL := Lib.hid hL
          have HLR := Lib.hid hLR
          have GD := Lib.hid GD0
          clear hL hLR GD0 hD
          go_wp2_with fail
          refine (HL.out _ (HO.out.below (below_new wr _))).mono ?_
          rintro er w3 ⟨rfl, F', hO3, hS3⟩
          obtain ⟨r3, d3, b3, z3, hb3, f3⟩ := duo1 hb HO.out HR.out HF.out HD.out hS3
          have t1 : w3.cell? ⟨wr.heap.size, 1, none⟩ = some (.string x.t) := b3 1
          have t2 : w3.cell? ⟨wr.heap.size, 2, none⟩ = some (.string x.o.t) := b3 2
          have t3 : w3.cell? ⟨wr.heap.size, 3, none⟩ = some (.string x.o.z) := b3 3
          have t4 : w3.cell? ⟨wr.heap.size, 4, none⟩ = some (.string x.o.k) := b3 4
          have t5 : w3.cell? ⟨wr.heap.size, 5, none⟩ = some (.int .i64 x.n) := b3 5
          have hBG : wr.heap.size ∉ G := fun h => Nat.lt_irrefl _ (HR.out.lt _ h)
          have O3 := Lib.hid hO3
          have R3 := Lib.hid r3
          have D3 := Lib.hid d3
          have B3 := Lib.hid b3
          have FF := Lib.hid f3
          clear hO3 r3 d3 b3 f3 hS3 HO HR HF HD hb HL
          go_wp2_with fail
          refine (HLR.out _ R3.out).mono ?_
          rintro er w4 ⟨rfl, G', hR4, hS4⟩
          obtain ⟨o4, d4, b4, z4, hb4, f4⟩ := duo2 hb3 O3.out R3.out HGF.out D3.out z3 hBG B3.out hS4
          have u5 : w4.cell? ⟨wr.heap.size, 5, none⟩ = some (.int .i64 x.n) := b4 5
          have u6 : w4.cell? ⟨wr.heap.size, 6, none⟩ = some (.bool x.cl) := b4 6
          have O4 := Lib.hid o4
          have R4 := Lib.hid hR4
          have FG := Lib.hid f4
          have FD := Lib.hid d4
          clear o4 hR4 hS4 d4 b4 f4 O3 R3 D3 B3 HGF HLR t1 t2 t3 t4 t5 hb3 z3 hBG
          have S1 := Lib.hid (same_any D p q F' G' w4 now O4.out R4.out GD.out.fine.len GD.out.ns)
          go_wp2_with fail
          refine S1.out.mono ?_
          rintro er w5 ⟨rfl, hb5⟩
          have u5' : w5.cell? ⟨wr.heap.size, 5, none⟩ = some (.int .i64 x.n) := (hb5.cell (p := ⟨wr.heap.size, 5, none⟩) z4).trans u5
          have u6' : w5.cell? ⟨wr.heap.size, 6, none⟩ = some (.bool x.cl) := (hb5.cell (p := ⟨wr.heap.size, 6, none⟩) z4).trans u6
          have z5 : wr.heap.size < w5.heap.size := Nat.lt_of_lt_of_le z4 hb5.size
          have hbw5 : Below w.heap.size w w5 := hb4.trans (hb5.mono hb4.size)
          have O5 := Lib.hid (O4.out.below hb5)
          have R5 := Lib.hid (R4.out.below hb5)
          have S2 := Lib.hid (same_any D p q F' G' w5 x.n O5.out R5.out GD.out.fine.len GD.out.ns)
          clear S1 O4 R4 hb5 hb4 u5 u6 z4
          go_wp2_with fail
          refine S2.out.mono ?_
          rintro er w6 ⟨rfl, hb6⟩
          have u6 : w6.cell? ⟨wr.heap.size, 6, none⟩ = some (.bool x.cl) := (hb6.cell (p := ⟨wr.heap.size, 6, none⟩) z5).trans u6'
          have hbw6 : Below w.heap.size w w6 := hbw5.trans (hb6.mono hbw5.size)
          have O6 := Lib.hid (O5.out.below hb6)
          have R6 := Lib.hid (R5.out.below hb6)
          clear S2 O5 R5 hb6 hbw5 u5' u6' z5
          rcases hcl : x.cl with _ | _
          · rw [hcl] at u6
            clear hcl
            go_wp2_with fail
            go_roundw
            case rel => exact ⟨k + 1, D, p, F', G', by omega, rfl, by go_num, hbw6, GD, O6, R6, FF, FG, FD⟩
            case measure => simp [intOf]; omega
          · rw [hcl] at u6
            clear hcl
            have C1 := Lib.hid (clone_any D p F' w6 O6.out GD.out.fine.len GD.out.ns)
            go_wp2_with fail
            refine C1.out.mono ?_
            rintro er w7 ⟨p2, F2, rfl, hO2, hb7, hf2⟩
            have L2 := Lib.hid (launch_any D p F' w7 ⟨#[111, 116, 104, 101, 114]⟩ ⟨⟨#[97]⟩, ⟨#[97]⟩, ⟨#[97]⟩⟩ 0 (by decide) GD.out.fine.len (O6.out.below hb7))
            have O2 := Lib.hid hO2
            have HB7 := Lib.hid hb7
            have HF2 := Lib.hid hf2
            clear C1 hO2 hb7 hf2 u6
            go_wp2_with fail
            refine L2.out.mono ?_
            rintro er w8 ⟨rfl, F3, hO8, hS8⟩
            have T2 := Lib.hid (take_any _ p F3 w8 hO8)
            have S8 := Lib.hid hS8
            clear L2 hO8 hS8
            go_wp2_with fail
            refine T2.out.mono ?_
            rintro er w9 ⟨rfl, -, hS9⟩
            obtain ⟨q1, q2, q3, q4, q5⟩ := duo3 hbw6 O6.out R6.out FF.out FD.out O2.out HB7.out HF2.out S8.out hS9
            have Q1 := Lib.hid q1
            have Q2 := Lib.hid q2
            have Q4 := Lib.hid q4
            have Q5 := Lib.hid q5
            clear q1 q2 q4 q5 T2 S8 O2 HB7 HF2 O6 R6 FF FD hbw6 hS9
            go_wp2_with fail
            go_roundw
            case rel => exact ⟨k + 1, D, p2, F2, G', by omega, rfl, by go_num, q3, GD, Q1, Q2, Q4, FG, Q5⟩
            case measure => simp [intOf]; omega
      · have hkl : k = ops.length := by omega
        subst hkl
        clear HO HR HF HGF HD HG
        go_wp2_with fail
        go_ret
        exact ⟨rfl, hb⟩
end Go.Proofs.YtpoegpojlcbfgaaDoor
