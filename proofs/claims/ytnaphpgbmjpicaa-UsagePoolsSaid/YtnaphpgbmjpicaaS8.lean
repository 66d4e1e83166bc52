/- The row's step of UsageTells. -/
import Derived.Test.YtnaphpgbmjpicaaP8
import Derived.Test.YtnaphpgbmjpicaaP9
namespace Go.Proofs.Ytnaphpgbmjpicaa
open Go.ChangeShapes Go.WideShapes Go.ChangeAt Go.RowKit

set_option maxRecDepth 100000 in
theorem len16 {H : Type} {ts : List TypeId} {ds : List (DataW H)} (h : (DataW.weightsEach Try.prog ts ds).all (· ≤ reachBytes) = true) {j : Nat} {parts : List (DataW H)} (ht : ts[j]? = some 55) (hd : ds[j]? = some (.agg parts))
    {i : Nat} {ft e : TypeId} {b n : Nat} (hft : ((match Try.prog.underlying 55 with | some (.struct fs) => fs.toList.map (·.type) | _ => []) : List TypeId)[i]? = some ft) (hu2 : Try.prog.underlying ft = some (.slice e)) (hb : Try.prog.bytesOf e = b) (hb16 : 16 ≤ b) (hn : n = 0 ∨ ∃ es sp, parts[i]? = some (.slice es sp) ∧ es.length = n) : n * b ≤ 140737488355328 ∧ n * 16 ≤ 140737488355328 := by
  rcases hn with rfl | ⟨es, sp, hp, rfl⟩
  · omega
  · rw [Try.underlying55] at hft
    have h1 := sized_in h ht hd Try.underlying55 hft hp hu2
    rw [hb] at h1
    have h2 := reachBytes_lt
    have h3 : es.length * b ≤ (es.length + sp.length) * b := Nat.mul_le_mul_right _ (by omega)
    have h4 : es.length * 16 ≤ es.length * b := Nat.mul_le_mul_left _ hb16
    omega

set_option maxRecDepth 100000 in
theorem usageTells_lifted (os : Os) (started : os.Started) (H : Type) (enc : TypeId × Value → H) :
    ReturnsInHanded {} Try.checked os 10 .any (Rows.usageTellsSpec.pre6 enc Try.prog Try.f10 Rows.usageTellsRow.domain false) (Rows.usageTellsSpec.post enc Try.prog Try.f10 false true false false) := by
  refine returnsInHanded_of_change_sized (C := Try.checked) own started (by kernel_rfl) Try.func10
    (ChangeSpec.witness6 (enc := enc) (C := Try.checked) false ⟨#[], #[.agg #[.int .i64 0, .int .i64 0, .int .i64 0, .int .i64 0, .int .i64 0, .int .i64 0, .slice none 0 0, .slice none 0 0, .slice none 0 0, .slice none 0 0, .slice none 0 0, .slice none 0 0, .slice none 0 0, .slice none 0 0], .string .empty, .string .empty], []⟩ 8 (by kernel_rfl) (by kernel_rfl) (by kernel_rfl) (by kernel_rfl)) ?_
  intro W base args ds gs before hval0 hW hcnd hsz _
  have hval : ∀ (j : Nat) t v, Try.f10.params[j]? = some t → args[j]? = some v → Value.okWide Try.prog W .any base t v := hval0
  have hW' := hW
  obtain ⟨pp, qq, hA0, hV, rfl, hfz, hnd⟩ := hW
  have hA : DataW.TrodAll enc Try.prog W 0 (fun _ => true) true Try.f10.params.toList args.toList ds pp := hA0
  rw [Try.params10] at hA hval
  obtain ⟨v0, vs0, d0, ds0, p0, q0, hargs, rfl, rfl, k0, r0⟩ := trodAll_cons hA
  obtain ⟨v1, vs1, d1, ds1, p1, q1, rfl, rfl, rfl, k1, r1⟩ := trodAll_cons r0
  obtain ⟨v2, vs2, d2, ds2, p2, q2, rfl, rfl, rfl, k2, r2⟩ := trodAll_cons r1
  obtain ⟨rfl, rfl, rfl⟩ := trodAll_nil r2
  obtain rfl : args = #[v0, v1, v2] := by cases args; simp_all
  obtain ⟨rfl, rfl⟩ := trodVars_none hV
  have lt0 : ∀ x ∈ p0, x.block < W.heap.size := by obtain ⟨m, hm⟩ := k0; exact DataW.trod_lt m _ _ _ hm
  have lt1 : ∀ x ∈ p1, x.block < W.heap.size := by obtain ⟨m, hm⟩ := k1; exact DataW.trod_lt m _ _ _ hm
  have lt2 : ∀ x ∈ p2, x.block < W.heap.size := by obtain ⟨m, hm⟩ := k2; exact DataW.trod_lt m _ _ _ hm
  obtain ⟨n, rfl, hp1, hq1, hc1, hp2, hc2, hp3, hc3, parts, hd, hzp, hzq, hzc⟩ := open55 (hval 0 55 v0 rfl rfl) k0
  have hd' : _ = some (DataW.agg parts) := congrArg some hd
  obtain ⟨lp200, lp⟩ := len16 (j := 0) hsz rfl hd' (i := 3) (ft := 47) (by rw [Try.underlying55]; rfl) Try.underlying47 bytes76 (by decide) hzp
  obtain ⟨lq120, lq⟩ := len16 (j := 0) hsz rfl hd' (i := 4) (ft := 48) (by rw [Try.underlying55]; rfl) Try.underlying48 bytes71 (by decide) hzq
  obtain ⟨lc184, lc⟩ := len16 (j := 0) hsz rfl hd' (i := 5) (ft := 49) (by rw [Try.underlying55]; rfl) Try.underlying49 bytes62 (by decide) hzc
  have hok : n.Ok W := ⟨hp1, hq1, hc1, lp, lq, lc⟩
  obtain ⟨s, rfl⟩ := okWide_string Try.underlying9 (hval 1 9 v1 rfl rfl)
  obtain ⟨p, rfl⟩ := okWide_string Try.underlying9 (hval 2 9 v2 rfl rfl)
  clear hA0 hval0
  refine (usageTells_walk n s p W hok).mono fun e W' ⟨he, bel⟩ => ?_
  subst he
  exact ⟨_, rfl, _, _, _, [], _, [], hW', trodAll_mk1 (shut_bool Try.underlying4 _), (trodAll_cons_mk (Below.trod laidOut (by kernel_rfl) (of_decide_eq_true (by kernel_rfl)) k0 bel lt0) (trodAll_cons_mk (Below.trod laidOut (by kernel_rfl) (of_decide_eq_true (by kernel_rfl)) k1 bel lt1) (trodAll_cons_mk (Below.trod laidOut (by kernel_rfl) (of_decide_eq_true (by kernel_rfl)) k2 bel lt2) trodAll_mk0))), rfl, bel.frame _, fun h => by cases h⟩

theorem usageTells_over : Rows.usageTellsRow.holds Try.pinned (OpenSpec.ofChange Rows.usageTellsSpec) :=
  OpenClaim.holds_of_wide 10 Try.f10 rfl rfl rfl rfl rfl rfl rfl ⟨rfl, rfl, rfl, rfl, rfl⟩ rfl rfl rfl rfl rfl (by kernel_rfl) Try.func10 (by kernel_rfl)
    (of_decide_eq_true (by kernel_rfl)) (by unfold Func.isWrapper; first | (rw [if_pos (by decide +kernel)]; kernel_rfl) | (rw [if_neg (by decide +kernel)]; exact ⟨rfl, rfl⟩))
    (fun os started H enc _ => usageTells_lifted os started H enc)

theorem usageTells_holds : Rows.UsageTellsSaid := usageTells_over

end Go.Proofs.Ytnaphpgbmjpicaa
