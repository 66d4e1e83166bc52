/- Contract: the document's Total: its pairs are appended one by one. -/
import Derived.Test.YtnaphpgbmjpicaaN
import Derived.Test.YtnaphpgbmjpicaaI
import Derived.Test.YtnaphpgbmjpicaaW
namespace Go.Proofs.Ytnaphpgbmjpicaa
open Go.RowKit

theorem take_at {α : Type} {l : List α} {k : Nat} {d x : α} (h : k < l.length) (hx : l.getD k d = x) : l.take (k + 1) = l.take k ++ [x] := by
  rw [List.take_add_one]
  simp only [List.getD, List.getElem?_eq_getElem h, Option.getD_some] at hx ⊢
  simp [hx]

theorem two_new (w : World) (x y : Value) (t : TypeId) : ∀ j u, [x, y][j]? = some u → (w.alloc (.cells #[x, y] t)).cell? ((⟨w.heap.size, 0, none⟩ : Addr).add j) = some u := by
  intro j u h
  match j, h with
  | 0, h => simp [Addr.add, World.cell?_alloc_new] at h ⊢; exact h
  | 1, h => simp [Addr.add, World.cell?_alloc_new] at h ⊢; exact h
  | n + 2, h => simp at h

set_option maxRecDepth 100000 in
set_option maxHeartbeats 2000000 in
theorem rtotal_any (ns : List Int) (a : Option Addr) (cap : Nat) (w : World) (hA : Nm w a ns) (hl : ns.length * 16 ≤ 140737488355328) :
    Calls Try.prog 28 #[.slice a ns.length cap] w fun e w' => e = .returned (.tuple #[.int .i64 (sumGo 0 0 false (ns.map fun n => (n, 0))).1, .int .i64 (sumGo 0 0 false (ns.map fun n => (n, 0))).2.2]) ∧ Below w.heap.size w w' := by
  have HA := Lib.hid hA
  clear hA
  have hl' : ns.length ≤ 4611686018427387904 := by omega
  obtain ⟨i0, hi, hz0, hz1, hz2⟩ := info_parts info26
  have HI := Lib.hid hi
  have HZ0 := Lib.hid hz0
  have HZ1 := Lib.hid hz1
  have HZ2 := Lib.hid hz2
  clear hi hz0 hz1 hz2
  go_enter Try.func28, Try.ntmps28
  go_wp2_with fail
  go_loopw [4, 5] (fun v i wr => ∃ k : Nat, k ≤ ns.length ∧ i = .int .i64 k ∧ Below w.heap.size w wr ∧
      Hid (wr.ownsRow w.heap.size 26 2 v k (pairCells ((ns.map fun n => (n, 0)).take k))))
    (fun _ i _ => ns.length - (intOf i).toNat)
  case atStart => exact ⟨0, Nat.zero_le _, rfl, Below.refl _ _, World.ownsRow_nil _ _ _ _⟩
  case round =>
    obtain ⟨k, hk, rfl, hb, HO⟩ := hrel
    by_cases hlt : k < ns.length
    · obtain ⟨b, off, rfl, hbl, hc0⟩ := HA.out k hlt
      rw [← hb.cell (p := ⟨b, off + k, none⟩) hbl] at hc0
      obtain ⟨x, hx⟩ : ∃ x, ns.getD k 0 = x := ⟨_, rfl⟩
      rw [hx] at hc0
      have htk := take_at (l := ns.map fun n => (n, (0 : Int))) (k := k) (d := (0, 0)) (x := (x, 0)) (by simpa using hlt) (by rw [← hx]; simp [List.getD, hlt])
      have HT := Lib.hid htk
      have hsz : w.heap.size ≤ wr.heap.size := hb.size
      clear htk hx
      go_wp2_with (at_builtin; refine wpList_append_own _ rfl _ _ 31 rfl w.heap.size 26 i0 (.agg #[.int .i64 0, .int .i64 0]) 2 16 Try.underlying31 HI.out HZ0.out HZ1.out HZ2.out rfl (by decide) _ _ _ rfl (HO.out.alloc _) ⟨wr.heap.size, 0, none⟩ 1 1 [.int .i64 x, .int .i64 0] rfl rfl ?c1 ?c2 ?c3 ?c4 ?c5 ?_)
      case c1 => exact two_new _ _ _ _
      case c2 => simp [Value.oneCell']
      case c3 => unfold maxLen; omega
      case c4 => omega
      case c5 => simp; omega
      intro v' wn hown' hgrow _
      rw [← pairCells_snoc _ (x, 0), ← HT.out] at hown'
      have hbn : Below w.heap.size w wn := (hb.alloc hsz _).grown hgrow (by first | (simp; done) | (simp; omega)) (fun g hg => (HO.out.lt g hg).1)
      have HO2 := Lib.hid hown'
      clear hown' hgrow hb HO hc0
      go_wp2
      go_roundw
      case rel => exact ⟨k + 1, by omega, by go_num, hbn, HO2⟩
      case measure => simp [intOf]; omega
    · have hkl : k = ns.length := by omega
      subst hkl
      obtain ⟨ps, hps⟩ : ∃ ps : List (Int × Int), ps = ns.map fun n => (n, 0) := ⟨_, rfl⟩
      have hlen : ps.length = ns.length := by rw [hps]; simp
      have ho := HO.out
      rw [List.take_of_length_le (by simp), ← hps] at ho
      obtain ⟨v2, cap2, hv, hAm⟩ := own_am (ps := ps) (by rw [hlen]; exact ho)
      have hsum := rsum_any ps v2 cap2 wr hAm (by omega)
      rw [hlen] at hsum hv
      rw [hv]
      have HS := Lib.hid hsum
      have H := Lib.hid hps
      clear hps hlen hsum ho hv hAm HO hk hlt
      go_wp2_with fail
      refine HS.out.mono ?_
      rintro e w2 ⟨rfl, hb2⟩
      go_wp2
      go_ret2
      exact ⟨by rw [H.out]; rfl, (hb.trans (hb2.mono hb.size)).alloc (by have := hb2.size; have := hb.size; omega) _⟩
end Go.Proofs.Ytnaphpgbmjpicaa
