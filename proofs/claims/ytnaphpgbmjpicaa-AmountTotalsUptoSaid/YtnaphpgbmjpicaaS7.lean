/- Any amounts, and any prices, are together what the document says: AmountTotals answers true, of arguments of bulk at most 2^20. -/
import Derived.Test.YtnaphpgbmjpicaaZ
import Derived.Test.YtnaphpgbmjpicaaO
namespace Go.Proofs.Ytnaphpgbmjpicaa
open Go.ChangeShapes Go.WideShapes Go.ChangeAt Go.RowKit

attribute [local go_sem] eqIn26 eqG26

theorem boxB {B : Nat} {w w1 : World} {a0 a1 : Value} {t : TypeId} (hb : Below B (w.alloc (.cells #[a0, a1] t)) w1) (h : w.heap.size < B) : w1.cell? ⟨w.heap.size, 0, none⟩ = some a0 ∧ w1.cell? ⟨w.heap.size, 1, none⟩ = some a1 :=
  ⟨(hb.cell (p := ⟨w.heap.size, 0, none⟩) h).trans (by rw [World.cell?_alloc_new]; rfl), (hb.cell (p := ⟨w.heap.size, 1, none⟩) h).trans (by rw [World.cell?_alloc_new]; rfl)⟩

set_option maxRecDepth 100000 in
set_option maxHeartbeats 4000000 in
theorem amountTotals_walk (ps : List (Int × Int)) (ns : List Int) (a : Option Addr) (cap : Nat) (b : Option Addr) (cap2 : Nat) (w : World) (hA : Am w a ps) (hN : Nm w b ns) (na : a = none → ps.length = 0 ∧ cap = 0) (nb : b = none → ns.length = 0 ∧ cap2 = 0)
    (hl : ps.length ≤ 1048576) (hm : ns.length ≤ 1048576) :
    Calls Try.prog 6 #[.slice a ps.length cap, .slice b ns.length cap2] w fun e w' => e = .returned (.bool true) ∧ Below w.heap.size w w' := by
  obtain ⟨x0, x1, e, hx⟩ : ∃ x0 x1 e, sumGo 0 0 false ps = (x0, x1, e) := ⟨_, _, _, rfl⟩
  obtain ⟨y0, y1, f, hy⟩ : ∃ y0 y1 f, sumGo 0 0 false (ns.map fun n => (n, 0)) = (y0, y1, f) := ⟨_, _, _, rfl⟩
  have hs1 := fun (w : World) (a : Option Addr) (cap : Nat) (h : Am w a ps) => sum_any ps a cap w h (by omega)
  have hs2 := fun (w : World) (a : Option Addr) (cap : Nat) (h : Am w a ps) => rsum_any ps a cap w h (by omega)
  have hs3 := fun (w : World) (a : Option Addr) (cap : Nat) (h : Nm w a ns) => total_any ns a cap w h (by omega)
  have hs4 := fun (w : World) (a : Option Addr) (cap : Nat) (h : Nm w a ns) => rtotal_any ns a cap w h (by omega)
  rw [hx] at hs1 hs2
  rw [hy] at hs3 hs4
  dsimp only at hs1 hs2 hs3 hs4
  have S1 := Lib.hid hs1
  have S2 := Lib.hid hs2
  have S3 := Lib.hid hs3
  have S4 := Lib.hid hs4
  have HA := Lib.hid hA
  have HN := Lib.hid hN
  have NA := Lib.hid na
  have NB := Lib.hid nb
  clear hx hy hs1 hs2 hs3 hs4 hA hN na nb
  obtain ⟨i0, hi, hz0, hz1, hz2⟩ := info_parts info26
  have HI := Lib.hid hi
  have HZ0 := Lib.hid hz0
  have HZ1 := Lib.hid hz1
  have HZ2 := Lib.hid hz2
  clear hi hz0 hz1 hz2
  obtain ⟨i2, hi, hz0, hz1, hz2⟩ := info_parts info2
  have HJ := Lib.hid hi
  have HY0 := Lib.hid hz0
  have HY1 := Lib.hid hz1
  have HY2 := Lib.hid hz2
  clear hi hz0 hz1 hz2
  go_enter Try.func6, Try.ntmps6
  go_wp2_with (at_builtin; refine wpList_append_all rfl _ _ 31 rfl w.heap.size 26 i0 (.agg #[.int .i64 0, .int .i64 0]) 2 16 Try.underlying31 HI.out HZ0.out HZ1.out HZ2.out rfl (by decide) _ 0 [] rfl (World.ownsRow_lit (base := w.heap.size) (e := 26) (size := 2) w #[] 0 (Nat.le_refl _) (by decide) rfl) a ps.length cap (pairCells ps) rfl ?c0 ?c1 ?c2 ?c3 ?c4 ?c5 ?c6 ?_)
  case c0 => exact NA.out
  case c1 => exact pairCells_length _
  case c2 => exact am_news (HA.out.below ((Below.refl _ _).alloc (Nat.le_refl _) _))
  case c3 => exact one2 _
  case c4 => unfold maxLen; omega
  case c5 => omega
  case c6 => simp
  intro v1 w1 ho1 hg1
  obtain ⟨a1, cap1, rfl, hA1⟩ := own_am ho1
  have HA1 := Lib.hid hA1
  have B1 := Lib.hid (((Below.refl w.heap.size w).alloc (Nat.le_refl _) _).grown hg1 (by simp) (by simp [Value.ownBlock]))
  clear ho1 hA1 hg1
  go_wp2_with (at_builtin; refine wpList_append_all rfl _ _ 32 rfl w1.heap.size 2 i2 (.int .i64 0) 1 8 Try.underlying32 HJ.out HY0.out HY1.out HY2.out rfl (by decide) _ 0 [] rfl (World.ownsRow_lit (base := w1.heap.size) (e := 2) (size := 1) w1 #[] 0 (Nat.le_refl _) (by decide) rfl) b ns.length cap2 (numCells ns) rfl ?c0 ?c1 ?c2 ?c3 ?c4 ?c5 ?c6 ?_)
  case c0 => exact NB.out
  case c1 => simp [numCells]
  case c2 => exact nm_news ((HN.out.below B1.out).below ((Below.refl _ _).alloc (Nat.le_refl _) _))
  case c3 => exact one1 _
  case c4 => unfold maxLen; omega
  case c5 => omega
  case c6 => simp
  intro v2 w2 ho2 hg2
  obtain ⟨b1, cap3, rfl, hN1⟩ := own_nm ho2
  have HN1 := Lib.hid hN1
  have HA2 := Lib.hid (HA1.out.below (((Below.refl w1.heap.size w1).alloc (Nat.le_refl _) _).grown hg2 (by simp) (by simp [Value.ownBlock])))
  have B2 := Lib.hid (B1.out.trans (((Below.refl w1.heap.size w1).alloc (Nat.le_refl _) _).grown hg2 (by simp) (by simp [Value.ownBlock]) |>.mono B1.out.size))
  have H2 := Lib.hid (HA.out.below B2.out)
  have N2 := Lib.hid (HN.out.below B2.out)
  clear ho2 hN1 hg2 HA1 B1 HA HN NA NB HI HJ HZ0 HZ1 HZ2 HY0 HY1 HY2
  go_wp2_with fail
  refine (S1.out _ _ _ H2.out).mono ?_
  rintro er w3 ⟨rfl, hb3⟩
  have z3 : w2.heap.size ≤ w3.heap.size := hb3.size
  have B3 := Lib.hid (B2.out.trans (hb3.mono B2.out.size))
  have HA3 := Lib.hid (HA2.out.below hb3)
  have H3 := Lib.hid (H2.out.below hb3)
  have N3 := Lib.hid (N2.out.below hb3)
  have HN3 := Lib.hid (HN1.out.below hb3)
  clear hb3 B2 HA2 H2 N2 HN1
  go_wp2_with fail
  refine (S2.out _ _ _ (HA3.out.below ((Below.refl _ _).alloc (Nat.le_refl _) _))).mono ?_
  rintro er w4 ⟨rfl, hb4⟩
  have q4 := ((Below.refl w3.heap.size w3).alloc (Nat.le_refl _) _).trans (hb4.mono (by simp))
  obtain ⟨ax0, ax1⟩ := boxB hb4 (by simp)
  have z4 : w3.heap.size < w4.heap.size := by have := hb4.size; simp at this; omega
  have B4 := Lib.hid (B3.out.trans (q4.mono B3.out.size))
  have HA4 := Lib.hid (HA3.out.below q4)
  have H4 := Lib.hid (H3.out.below q4)
  have N4 := Lib.hid (N3.out.below q4)
  have HN4 := Lib.hid (HN3.out.below q4)
  clear hb4 q4 B3 HA3 H3 N3 HN3
  go_wp2_with fail
  refine (S3.out _ _ _ (N4.out.below ((Below.refl _ _).alloc (Nat.le_refl _) _))).mono ?_
  rintro er w5 ⟨rfl, hb5⟩
  have q5 := ((Below.refl w4.heap.size w4).alloc (Nat.le_refl _) _).trans (hb5.mono (by simp))
  obtain ⟨ay0, ay1⟩ := boxB hb5 (by simp)
  obtain ⟨ax2, ax3⟩ := carry1 q5 z4 ax0 ax1
  have z5 : w4.heap.size < w5.heap.size := by have := hb5.size; simp at this; omega
  have B5 := Lib.hid (B4.out.trans (q5.mono B4.out.size))
  have HA5 := Lib.hid (HA4.out.below q5)
  have H5 := Lib.hid (H4.out.below q5)
  have N5 := Lib.hid (N4.out.below q5)
  have HN5 := Lib.hid (HN4.out.below q5)
  clear hb5 q5 B4 HA4 H4 N4 HN4 ax0 ax1
  go_wp2_with fail
  refine (S4.out _ _ _ HN5.out).mono ?_
  rintro er w6 ⟨rfl, hb6⟩
  obtain ⟨bx0, bx1⟩ := carry1 hb6 (by omega) ax2 ax3
  obtain ⟨by0, by1⟩ := carry1 hb6 (by omega) ay0 ay1
  have z6 : w5.heap.size ≤ w6.heap.size := hb6.size
  have B6 := Lib.hid (B5.out.trans (hb6.mono B5.out.size))
  have HA6 := Lib.hid (HA5.out.below hb6)
  have H6 := Lib.hid (H5.out.below hb6)
  have N6 := Lib.hid (N5.out.below hb6)
  have HN6 := Lib.hid (HN5.out.below hb6)
  clear hb6 B5 HA5 H5 N5 HN5 ax2 ax3 ay0 ay1 S1 S2 S3 S4
  go_wp2_with fail
  go_loopw [15] (fun i wr => ∃ k : Nat, k ≤ ps.length ∧ i = .int .i64 k ∧ Below w6.heap.size w6 wr)
    (fun i _ => ps.length - (intOf i).toNat)
  case atStart => exact ⟨0, Nat.zero_le _, rfl, Below.refl _ _⟩
  case round =>
    obtain ⟨k, hk, rfl, hb⟩ := hrel
    by_cases hlt : k < ps.length
    · obtain ⟨g1, f1, rfl, hl1, hc0, hc1⟩ := (H6.out.below hb) k hlt
      obtain ⟨g2, f2, rfl, hl2, hd0, hd1⟩ := (HA6.out.below hb) k hlt
      rcases hp : ps.getD k (0, 0) with ⟨x, y⟩
      rw [hp] at hc0 hc1 hd0 hd1
      clear hp
      go_wp2_with fail
      go_quiet (fail)
      go_wp2_with fail
      go_roundw
      case rel => exact ⟨k + 1, by omega, by go_num, by repeat (first | exact hb | (refine below_drewN ?_ _))⟩
      case measure => simp [intOf]; omega
    · have hkl : k = ps.length := by omega
      subst hkl
      have B7 := Lib.hid (B6.out.trans (hb.mono B6.out.size))
      have N7 := Lib.hid (N6.out.below hb)
      have HN7 := Lib.hid (HN6.out.below hb)
      obtain ⟨cx0, cx1⟩ := carry1 hb (by omega) bx0 bx1
      obtain ⟨cy0, cy1⟩ := carry1 hb (by omega) by0 by1
      have z7 : w6.heap.size ≤ wr.heap.size := hb.size
      obtain ⟨w7, rfl⟩ : ∃ w7 : World, w7 = wr := ⟨_, rfl⟩
      clear hb B6 N6 HN6 H6 HA6 bx0 bx1 by0 by1 hk hlt
      go_wp2_with fail
      go_loopw [16] (fun i wr => ∃ k : Nat, k ≤ ns.length ∧ i = .int .i64 k ∧ Below w7.heap.size w7 wr)
        (fun i _ => ns.length - (intOf i).toNat)
      case atStart => exact ⟨0, Nat.zero_le _, rfl, Below.refl _ _⟩
      case round =>
        obtain ⟨k, hk, rfl, hb⟩ := hrel
        by_cases hlt : k < ns.length
        · obtain ⟨g1, f1, rfl, hl1, hc0⟩ := (N7.out.below hb) k hlt
          obtain ⟨g2, f2, rfl, hl2, hd0⟩ := (HN7.out.below hb) k hlt
          obtain ⟨x, hp⟩ : ∃ x, ns.getD k 0 = x := ⟨_, rfl⟩
          rw [hp] at hc0 hd0
          clear hp
          go_wp2_with fail
          go_quiet (fail)
          go_wp2_with fail
          go_roundw
          case rel => exact ⟨k + 1, by omega, by go_num, by repeat (first | exact hb | (refine below_drewN ?_ _))⟩
          case measure => simp [intOf]; omega
        · have hkl : k = ns.length := by omega
          subst hkl
          obtain ⟨dx0, dx1⟩ := carry1 hb (by omega) cx0 cx1
          obtain ⟨dy0, dy1⟩ := carry1 hb (by omega) cy0 cy1
          have B8 := Lib.hid (B7.out.trans (hb.mono B7.out.size))
          have z8 : w7.heap.size ≤ wr.heap.size := hb.size
          clear hb cx0 cx1 cy0 cy1
          go_wp2_with fail
          refine (live1_any _).mono ?_
          rintro er w9 ⟨rfl, hb9⟩
          obtain ⟨ex0, ex1⟩ := carry1 hb9 (by omega) dx0 dx1
          obtain ⟨ey0, ey1⟩ := carry1 hb9 (by omega) dy0 dy1
          have B9 := Lib.hid (B8.out.trans (hb9.mono B8.out.size))
          clear hb9 dx0 dx1 dy0 dy1 B8 B7
          go_wp2_with fail
          go_ret
          exact ⟨rfl, B9.out⟩

set_option maxRecDepth 100000 in
theorem amountTotals_lifted (os : Os) (started : os.Started) (H : Type) (enc : TypeId × Value → H) (F : Stop.Interp) :
    ReturnsInHanded {} Try.checked os 6 .any ((Rows.OpenSpec.upto Rows.amountTotalsSpec).pre6 enc Try.prog Try.f6 Rows.amountTotalsUptoRow.domain false) (((Rows.OpenSpec.upto Rows.amountTotalsSpec).at F).post enc Try.prog Try.f6 false true false false) := by
  refine returnsInHanded_of_cond (C := Try.checked) (s := Rows.OpenSpec.upto Rows.amountTotalsSpec) (k := Rows.uptoSmall) rfl own started (by kernel_rfl) Try.func6
    (OpenSpec.witness (enc := enc) (C := Try.checked) (s := Rows.OpenSpec.upto Rows.amountTotalsSpec) (k := Rows.uptoSmall) rfl false ⟨#[], #[.slice none 0 0, .slice none 0 0], []⟩ 8 (by kernel_rfl) (by kernel_rfl) (by kernel_rfl)
      (x := ([.nil, .nil], [], [])) (by kernel_rfl) rfl (by kernel_rfl)) ?_
  intro W base args ds gs before hval0 hW hcnd hk0 _
  have hval : ∀ (j : Nat) t v, Try.f6.params[j]? = some t → args[j]? = some v → Value.okWide Try.prog W .any base t v := hval0
  have hW' := hW
  obtain ⟨p, q, hA0, hV, rfl, hfz, hnd⟩ := hW
  have hA : DataW.TrodAll enc Try.prog W 0 (fun _ => true) true Try.f6.params.toList args.toList ds p := hA0
  rw [Try.params6] at hA hval
  obtain ⟨v0, vs0, d0, ds0, p0, q0, hargs, rfl, rfl, k0, r0⟩ := trodAll_cons hA
  obtain ⟨v1, vs1, d1, ds1, p1, q1, rfl, rfl, rfl, k1, r1⟩ := trodAll_cons r0
  obtain ⟨rfl, rfl, rfl⟩ := trodAll_nil r1
  obtain rfl : args = #[v0, v1] := by cases args; simp_all
  obtain ⟨rfl, rfl⟩ := trodVars_none hV
  have lt0 : ∀ x ∈ p0, x.block < W.heap.size := by obtain ⟨m, hm⟩ := k0; exact DataW.trod_lt m _ _ _ hm
  have lt1 : ∀ x ∈ p1, x.block < W.heap.size := by obtain ⟨m, hm⟩ := k1; exact DataW.trod_lt m _ _ _ hm
  obtain ⟨a0, len0, cap0, rfl⟩ := okWide_slice Try.underlying31 (hval 0 31 v0 rfl rfl)
  obtain ⟨a1, len1, cap1, rfl⟩ := okWide_slice Try.underlying32 (hval 1 32 v1 rfl rfl)
  have n0 : a0 = none → len0 = 0 ∧ cap0 = 0 := by rintro rfl; exact nil_slice Try.underlying31 k0
  have n1 : a1 = none → len1 = 0 ∧ cap1 = 0 := by rintro rfl; exact nil_slice Try.underlying32 k1
  obtain ⟨ps, rfl, hA1, _, hz0⟩ := open31 k0
  obtain ⟨ns, rfl, hA2, hz1⟩ := open32 k1
  obtain ⟨hl, hm⟩ := small_two hk0 hz0 hz1
  clear hA0 hval0
  refine (amountTotals_walk ps ns a0 cap0 a1 cap1 W hA1 hA2 n0 n1 hl hm).mono fun e W' ⟨he, bel⟩ => ?_
  subst he
  exact ⟨_, rfl, _, _, _, [], _, [], hW', trodAll_mk1 (shut_bool Try.underlying4 _), (trodAll_cons_mk (Below.trod laidOut (by kernel_rfl) (of_decide_eq_true (by kernel_rfl)) k0 bel lt0) (trodAll_cons_mk (Below.trod laidOut (by kernel_rfl) (of_decide_eq_true (by kernel_rfl)) k1 bel lt1) trodAll_mk0)), rfl, bel.frame _, fun h => by cases h⟩

theorem amountTotals_holds : Rows.AmountTotalsUptoSaid :=
  OpenClaim.holds_of_cond 6 Try.f6 rfl rfl rfl rfl rfl rfl rfl ⟨rfl, rfl, rfl, rfl, rfl⟩ rfl rfl rfl rfl rfl (by kernel_rfl) Try.func6 (by kernel_rfl)
    (of_decide_eq_true (by kernel_rfl)) (by unfold Func.isWrapper; first | (rw [if_pos (by decide +kernel)]; kernel_rfl) | (rw [if_neg (by decide +kernel)]; exact ⟨rfl, rfl⟩))
    (fun os started H enc _ F => amountTotals_lifted os started H enc F)

end Go.Proofs.Ytnaphpgbmjpicaa
