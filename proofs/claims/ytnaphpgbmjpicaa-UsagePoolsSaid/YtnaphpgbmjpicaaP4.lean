/- The document's: what is used of a claim, what a pool's claims have. -/
import Derived.Test.YtnaphpgbmjpicaaP3
namespace Go.Proofs.Ytnaphpgbmjpicaa
open Go.RowKit

attribute [local go_sem] run_store_one

theorem old2 {w w1 : World} {c1 c2 : Array Value} {t1 t2 : TypeId} (hb : Below ((w.alloc (.cells c1 t1)).alloc (.cells c2 t2)).heap.size ((w.alloc (.cells c1 t1)).alloc (.cells c2 t2)) w1) :
    (∀ i, w1.cell? ⟨w.heap.size, i, none⟩ = c1[i]?) ∧ (∀ i, w1.cell? ⟨w.heap.size + 1, i, none⟩ = c2[i]?) ∧ (∀ i, w1.frozen? ⟨w.heap.size + 1, i, none⟩ = false) ∧ w.heap.size + 1 < w1.heap.size := by
  obtain ⟨hc, hf⟩ := bcell hb
  have hz := hb.size
  simp only [World.size_alloc] at hc hf hz
  have e1 : w.heap.size + 1 = (w.alloc (.cells c1 t1)).heap.size := by simp
  refine ⟨fun i => ?_, fun i => ?_, fun i => ?_, by omega⟩
  · rw [hc _ _ (by omega), World.cell?_alloc_lt _ _ _ (by simp), World.cell?_alloc_new]
  · rw [hc _ _ (by omega), e1, World.cell?_alloc_new]
  · rw [hf _ _ (by omega), e1, World.frozen?_alloc_new]
theorem any_take {α : Type} [Inhabited α] {p : α → Bool} {l : List α} {k : Nat} (h : k < l.length) : (l.take (k + 1)).any p = ((l.take k).any p || p (l.getD k default)) := by
  rw [take_at (d := default) h rfl, List.any_append]; simp


set_option maxRecDepth 100000 in
set_option maxHeartbeats 4000000 in
theorem rused_any (n : Sn) (s : ByteArray) (w : World) (hA : n.Ok w) :
    Calls Try.prog 35 #[n.val, .string s] w fun e w' => e = .returned (tri (usedOf n s)) ∧ Below w.heap.size w w' := by
  obtain ⟨s0, s1, s2, s3, s4, s5, s6, pa, ps, pcap, qa, qs, qcap, ca, cs, ccap, s10, s11, s12, s13, k0, k1, k2, k3, k4, k5, k6, k10, k11, k12, k13⟩ := n
  have HA := Lib.hid hA
  clear hA
  show Calls Try.prog 35 #[.agg #[s0, s1, s2, s3, s4, s5, s6, .slice pa ps.length pcap, .slice qa qs.length qcap, .slice ca cs.length ccap, s10, s11, s12, s13], .string s] w _
  obtain ⟨L, hL⟩ : ∃ L, L = sel (fun c : Pd => c.on.toList == s.toList) (fun c => (c.x, c.y)) ps := ⟨_, rfl⟩
  have hR : usedOf ⟨s0, s1, s2, s3, s4, s5, s6, pa, ps, pcap, qa, qs, qcap, ca, cs, ccap, s10, s11, s12, s13, k0, k1, k2, k3, k4, k5, k6, k10, k11, k12, k13⟩ s = sumIf (cs.any fun c => c.name.toList == s.toList) L := by rw [hL]; rfl
  rw [hR]
  have HL := Lib.hid hL
  clear hR hL
  have hl1 : cs.length ≤ 9223372036854775807 := by have := HA.out.lc; dsimp only at this; omega
  have hl2 : ps.length * 16 ≤ 140737488355328 := HA.out.lp
  obtain ⟨i0, hi, hz0, hz1, hz2⟩ := info_parts info26
  have HI := Lib.hid hi
  have HZ0 := Lib.hid hz0
  have HZ1 := Lib.hid hz1
  have HZ2 := Lib.hid hz2
  clear hi hz0 hz1 hz2
  go_enter Try.func35, Try.ntmps35
  go_wp2_with fail
  obtain ⟨W, hW⟩ : ∃ W : World, W = (w.alloc (.cells #[s0, s1, s2, s3, s4, s5, s6, .slice pa ps.length pcap, .slice qa qs.length qcap, .slice ca cs.length ccap, s10, s11, s12, s13] 55)).alloc (.cells #[.int .i64 0, .int .i64 0] 26) := ⟨_, rfl⟩
  have hbb : Below ((w.alloc (.cells #[s0, s1, s2, s3, s4, s5, s6, .slice pa ps.length pcap, .slice qa qs.length qcap, .slice ca cs.length ccap, s10, s11, s12, s13] 55)).alloc (.cells #[.int .i64 0, .int .i64 0] 26)).heap.size ((w.alloc (.cells #[s0, s1, s2, s3, s4, s5, s6, .slice pa ps.length pcap, .slice qa qs.length qcap, .slice ca cs.length ccap, s10, s11, s12, s13] 55)).alloc (.cells #[.int .i64 0, .int .i64 0] 26)) W := by rw [hW]; exact Below.refl _ _
  obtain ⟨d1, d2, d3, d5⟩ := old2 hbb
  have hB1 : Below w.heap.size w W := by rw [hW]; exact new2
  have hP : W.cell? ⟨w.heap.size, 7, none⟩ = some (.slice pa ps.length pcap) := d1 7
  have c1 : W.cell? ⟨w.heap.size + 1, 0, none⟩ = some (.int .i64 0) := d2 0
  have c2 : W.cell? ⟨w.heap.size + 1, 1, none⟩ = some (.int .i64 0) := d2 1
  have d4 := Lib.hid d3
  rw [← hW]
  clear d1 d2 d3 hW hbb
  go_loopw [6, 15] (fun o i wr => ∃ k : Nat, k ≤ cs.length ∧ i = .int .i64 k ∧ o = .bool ((cs.take k).any fun c : Cl => c.name.toList == s.toList) ∧ Below W.heap.size W wr)
    (fun _ i _ => cs.length - (intOf i).toNat)
  case atStart => exact ⟨0, Nat.zero_le _, rfl, rfl, Below.refl _ _⟩
  case round =>
    obtain ⟨k, hk, rfl, rfl, hb⟩ := hrel
    have hsz : W.heap.size ≤ wr.heap.size := hb.size
    have hz4 : w.heap.size < wr.heap.size := by omega
    by_cases hlt : k < cs.length
    · obtain ⟨b, off, rfl, hb1, hq, hc⟩ := ((HA.out.claims.below (Nat.le_refl _) hB1).below (Nat.le_refl _) hb).cl hlt
      have ht := any_take (p := fun c : Cl => c.name.toList == s.toList) hlt
      rcases hp : cs.getD k default with ⟨name, pool, c2, c3, c4, c5, c6, x, y, c9, c10, c11, c12, c13, c14, h2, h3, h4, h5, h6, h9, h10, h11, h12, h13, h14⟩
      rw [hp] at hc ht
      clear hp hq
      have hc0 : wr.cell? ⟨b, off + k * 15, none⟩ = some (.string name) := hc 0 _ rfl
      have hc1 : wr.cell? ⟨b, off + k * 15 + 1, none⟩ = some (.string pool) := hc 1 _ rfl
      have hc2 : wr.cell? ⟨b, off + k * 15 + 2, none⟩ = some (c2) := hc 2 _ rfl
      have hc3 : wr.cell? ⟨b, off + k * 15 + 3, none⟩ = some (c3) := hc 3 _ rfl
      have hc4 : wr.cell? ⟨b, off + k * 15 + 4, none⟩ = some (c4) := hc 4 _ rfl
      have hc5 : wr.cell? ⟨b, off + k * 15 + 5, none⟩ = some (c5) := hc 5 _ rfl
      have hc6 : wr.cell? ⟨b, off + k * 15 + 6, none⟩ = some (c6) := hc 6 _ rfl
      have hc7 : wr.cell? ⟨b, off + k * 15 + 7, none⟩ = some (.int .i64 x) := hc 7 _ rfl
      have hc8 : wr.cell? ⟨b, off + k * 15 + 8, none⟩ = some (.int .i64 y) := hc 8 _ rfl
      have hc9 : wr.cell? ⟨b, off + k * 15 + 9, none⟩ = some (c9) := hc 9 _ rfl
      have hc10 : wr.cell? ⟨b, off + k * 15 + 10, none⟩ = some (c10) := hc 10 _ rfl
      have hc11 : wr.cell? ⟨b, off + k * 15 + 11, none⟩ = some (c11) := hc 11 _ rfl
      have hc12 : wr.cell? ⟨b, off + k * 15 + 12, none⟩ = some (c12) := hc 12 _ rfl
      have hc13 : wr.cell? ⟨b, off + k * 15 + 13, none⟩ = some (c13) := hc 13 _ rfl
      have hc14 : wr.cell? ⟨b, off + k * 15 + 14, none⟩ = some (c14) := hc 14 _ rfl
      clear hc
      dsimp only at ht
      rcases hn : ((cs.take k).any fun c : Cl => c.name.toList == s.toList) with _ | _
      · rcases hne : (name.toList == s.toList) with _ | _
        · rw [hn, hne] at ht
          clear hn
          go_wp2_with fail
          go_roundw
          case rel => exact ⟨k + 1, by omega, by go_num, by rw [ht]; rfl, hb.alloc hsz _⟩
          case measure => simp [intOf]; omega
        · rw [hn, hne] at ht
          clear hn
          go_wp2_with fail
          go_roundw
          case rel => exact ⟨k + 1, by omega, by go_num, by rw [ht]; rfl, hb.alloc hsz _⟩
          case measure => simp [intOf]; omega
      · rw [hn] at ht
        clear hn
        go_wp2_with fail
        go_roundw
        case rel => exact ⟨k + 1, by omega, by go_num, by rw [ht]; rfl, hb.alloc hsz _⟩
        case measure => simp [intOf]; omega
    · have hkl : k = cs.length := by omega
      subst hkl
      rw [List.take_of_length_le (Nat.le_refl _)]
      have hP2 := (hb.cell (p := ⟨w.heap.size, 7, none⟩) (by show w.heap.size < _; omega)).trans hP
      obtain ⟨e1, e2, e3⟩ := carry2 hb d5 c1 c2 d4.out
      have hBr : Below w.heap.size w wr := hB1.trans (hb.mono hB1.size)
      have d6 : w.heap.size + 1 < wr.heap.size := by omega
      obtain ⟨wo, rfl⟩ : ∃ wo : World, wo = wr := ⟨_, rfl⟩
      clear hb c1 c2 d4 hP hB1 hk hlt hsz d5
      rcases hn : (cs.any fun c => c.name.toList == s.toList) with _ | _
      · have HN := Lib.hid hn
        clear hn
        go_wp2
        have hB2 := hBr
        refine bodyPost_ret (v := tri (0, 0, 5)) (by simp [tri, results, Try.results35, go_sem, e1, e2]) rfl ⟨by rw [HN.out]; rfl, ?_⟩
        repeat (first | exact hB2 | (refine Below.setCell ?_ (by first | (simp; done) | (simp; omega)) _) | (refine Below.alloc ?_ (by first | (simp; done) | (simp; omega)) _) | (refine Below.drew ?_) | (refine below_drewN ?_ _))
      · have HN := Lib.hid hn
        clear hn
        go_wp2_with fail
        go_loopw [9, 33] (fun v i wr => ∃ k : Nat, k ≤ ps.length ∧ i = .int .i64 k ∧ Below wo.heap.size wo wr ∧
            Hid (wr.ownsRow wo.heap.size 26 2 v (sel (fun c : Pd => c.on.toList == s.toList) (fun c => (c.x, c.y)) (ps.take k)).length (pairCells (sel (fun c : Pd => c.on.toList == s.toList) (fun c => (c.x, c.y)) (ps.take k)))))
          (fun _ i _ => ps.length - (intOf i).toNat)
        case atStart => exact ⟨0, Nat.zero_le _, rfl, Below.refl _ _, World.ownsRow_nil _ _ _ _⟩
        case round =>
          obtain ⟨k, hk, rfl, hb, HO⟩ := hrel
          have hsz : wo.heap.size ≤ wr.heap.size := hb.size
          have hz5 : w.heap.size < wr.heap.size := by omega
          by_cases hlt : k < ps.length
          · have hle := sel_le (p := fun c : Pd => c.on.toList == s.toList) (f := fun c => (c.x, c.y)) ps k
            obtain ⟨b, off, rfl, hl1, hq, hc⟩ := ((HA.out.pods.below (Nat.le_refl _) hBr).below (Nat.le_refl _) hb).pd hlt
            have hh := fun h => sel_hit (p := fun c : Pd => c.on.toList == s.toList) (f := fun c => (c.x, c.y)) hlt h
            have hm := fun h => sel_miss (p := fun c : Pd => c.on.toList == s.toList) (f := fun c => (c.x, c.y)) hlt h
            rcases hp : ps.getD k default with ⟨c0, c1, x, y, c4, c5, c6, c7, c8, c9, c10, on, h0, h1, h4, h5, h6, h7, h8, h9, h10⟩
            rw [hp] at hc hh hm
            clear hp hq
            have hc0 : wr.cell? ⟨b, off + k * 12, none⟩ = some (c0) := hc 0 _ rfl
            have hc1 : wr.cell? ⟨b, off + k * 12 + 1, none⟩ = some (c1) := hc 1 _ rfl
            have hc2 : wr.cell? ⟨b, off + k * 12 + 2, none⟩ = some (.int .i64 x) := hc 2 _ rfl
            have hc3 : wr.cell? ⟨b, off + k * 12 + 3, none⟩ = some (.int .i64 y) := hc 3 _ rfl
            have hc4 : wr.cell? ⟨b, off + k * 12 + 4, none⟩ = some (c4) := hc 4 _ rfl
            have hc5 : wr.cell? ⟨b, off + k * 12 + 5, none⟩ = some (c5) := hc 5 _ rfl
            have hc6 : wr.cell? ⟨b, off + k * 12 + 6, none⟩ = some (c6) := hc 6 _ rfl
            have hc7 : wr.cell? ⟨b, off + k * 12 + 7, none⟩ = some (c7) := hc 7 _ rfl
            have hc8 : wr.cell? ⟨b, off + k * 12 + 8, none⟩ = some (c8) := hc 8 _ rfl
            have hc9 : wr.cell? ⟨b, off + k * 12 + 9, none⟩ = some (c9) := hc 9 _ rfl
            have hc10 : wr.cell? ⟨b, off + k * 12 + 10, none⟩ = some (c10) := hc 10 _ rfl
            have hc11 : wr.cell? ⟨b, off + k * 12 + 11, none⟩ = some (.string on) := hc 11 _ rfl
            clear hc
            dsimp only at hh hm
            rcases hne : (on.toList == s.toList) with _ | _
            · have hm2 := hm hne
              rw [← hm2] at HO
              clear hh hm hm2
              go_wp2_with fail
              go_roundw
              case rel => exact ⟨k + 1, by omega, by go_num, hb.alloc hsz _, HO.out.alloc _⟩
              case measure => simp [intOf]; omega
            · have HT := Lib.hid (hh hne)
              clear hh hm
              go_wp2_with (at_builtin; refine wpList_append_own _ rfl _ _ 31 rfl wo.heap.size 26 i0 (.agg #[.int .i64 0, .int .i64 0]) 2 16 Try.underlying31 HI.out HZ0.out HZ1.out HZ2.out rfl (by decide) _ _ _ rfl ((HO.out.alloc _).alloc _) ⟨wr.heap.size + 1, 0, none⟩ 1 1 [.int .i64 x, .int .i64 y] rfl rfl ?c1 ?c2 ?c3 ?c4 ?c5 ?_)
              case c1 => exact two_at _ _ _ _ (by simp)
              case c2 => simp [Value.oneCell']
              case c3 => unfold maxLen; omega
              case c4 => omega
              case c5 => simp; omega
              intro v' wn hown' hgrow _
              rw [← pairCells_snoc _ (x, y), ← HT.out] at hown'
              have hbn : Below wo.heap.size wo wn := ((hb.alloc hsz _).alloc (by simp; omega) _).grown hgrow (by simp; omega) (fun g hg => (HO.out.lt g hg).1)
              have HO2 : Hid (wn.ownsRow wo.heap.size 26 2 v' (sel (fun c : Pd => c.on.toList == s.toList) (fun c => (c.x, c.y)) (ps.take (k + 1))).length (pairCells (sel (fun c : Pd => c.on.toList == s.toList) (fun c => (c.x, c.y)) (ps.take (k + 1))))) := Lib.hid (by
                have e : (sel (fun c : Pd => c.on.toList == s.toList) (fun c => (c.x, c.y)) (ps.take (k + 1))).length = (sel (fun c : Pd => c.on.toList == s.toList) (fun c => (c.x, c.y)) (ps.take k)).length + 1 := by rw [HT.out, List.length_append]; rfl
                rw [e]; exact hown')
              clear hown' hgrow hb HO
              go_wp2
              go_roundw
              case rel => exact ⟨k + 1, by omega, by go_num, hbn, HO2⟩
              case measure => simp [intOf]; omega
          · have hkl : k = ps.length := by omega
            subst hkl
            have ho := HO.out
            rw [List.take_of_length_le (Nat.le_refl _), ← HL.out] at ho
            have hle := sel_le (p := fun c : Pd => c.on.toList == s.toList) (f := fun c => (c.x, c.y)) ps ps.length
            rw [List.take_of_length_le (Nat.le_refl _), ← HL.out] at hle
            obtain ⟨v2, cap2, hv, hAm⟩ := own_am (ps := L) ho
            have hsum := rsum_any L v2 cap2 wr hAm (by omega)
            rw [hv]
            have HS := Lib.hid hsum
            clear hsum ho hv hAm HO hk hlt
            obtain ⟨c3, c4, c5⟩ := carry2 hb d6 e1 e2 e3
            have hB3 : Below w.heap.size w wr := hBr.trans (hb.mono hBr.size)
            clear hb
            go_wp2_with fail
            refine HS.out.mono ?_
            rintro e w2 ⟨rfl, hb2⟩
            have hz : w.heap.size + 1 < wr.heap.size := by omega
            obtain ⟨c6, c7, c8⟩ := carry2 hb2 hz c3 c4 c5
            have hB2 : Below w.heap.size w w2 := hB3.trans (hb2.mono hB3.size)
            have hz2 : w.heap.size + 1 < w2.heap.size := by have := hb2.size; omega
            clear hb2 c3 c4 c5 hBr hB3
            go_wp2
            refine bodyPost_ret (v := tri (sumIf true L)) (by simp [sumIf, tri, results, Try.results35, go_sem, c6, c7]) rfl ⟨by rw [HN.out], ?_⟩
            repeat (first | exact hB2 | (refine Below.setCell ?_ (by first | (simp; done) | (simp; omega)) _) | (refine Below.alloc ?_ (by first | (simp; done) | (simp; omega)) _) | (refine Below.drew ?_) | (refine below_drewN ?_ _))

set_option maxRecDepth 100000 in
set_option maxHeartbeats 4000000 in
theorem rpool_any (n : Sn) (s : ByteArray) (w : World) (hA : n.Ok w) :
    Calls Try.prog 39 #[n.val, .string s] w fun e w' => e = .returned (tri (poolOf n s)) ∧ Below w.heap.size w w' := by
  obtain ⟨s0, s1, s2, s3, s4, s5, s6, pa, ps, pcap, qa, qs, qcap, ca, cs, ccap, s10, s11, s12, s13, k0, k1, k2, k3, k4, k5, k6, k10, k11, k12, k13⟩ := n
  have HA := Lib.hid hA
  clear hA
  show Calls Try.prog 39 #[.agg #[s0, s1, s2, s3, s4, s5, s6, .slice pa ps.length pcap, .slice qa qs.length qcap, .slice ca cs.length ccap, s10, s11, s12, s13], .string s] w _
  obtain ⟨L, hL⟩ : ∃ L, L = sel (fun c : Cl => c.pool.toList == s.toList) (fun c => (c.x, c.y)) cs := ⟨_, rfl⟩
  have hR : poolOf ⟨s0, s1, s2, s3, s4, s5, s6, pa, ps, pcap, qa, qs, qcap, ca, cs, ccap, s10, s11, s12, s13, k0, k1, k2, k3, k4, k5, k6, k10, k11, k12, k13⟩ s = sumIf (qs.any fun c => c.name.toList == s.toList) L := by rw [hL]; rfl
  rw [hR]
  have HL := Lib.hid hL
  clear hR hL
  have hl1 : qs.length ≤ 9223372036854775807 := by have := HA.out.lq; dsimp only at this; omega
  have hl2 : cs.length * 16 ≤ 140737488355328 := HA.out.lc
  obtain ⟨i0, hi, hz0, hz1, hz2⟩ := info_parts info26
  have HI := Lib.hid hi
  have HZ0 := Lib.hid hz0
  have HZ1 := Lib.hid hz1
  have HZ2 := Lib.hid hz2
  clear hi hz0 hz1 hz2
  go_enter Try.func39, Try.ntmps39
  go_wp2_with fail
  obtain ⟨W, hW⟩ : ∃ W : World, W = (w.alloc (.cells #[s0, s1, s2, s3, s4, s5, s6, .slice pa ps.length pcap, .slice qa qs.length qcap, .slice ca cs.length ccap, s10, s11, s12, s13] 55)).alloc (.cells #[.int .i64 0, .int .i64 0] 26) := ⟨_, rfl⟩
  have hbb : Below ((w.alloc (.cells #[s0, s1, s2, s3, s4, s5, s6, .slice pa ps.length pcap, .slice qa qs.length qcap, .slice ca cs.length ccap, s10, s11, s12, s13] 55)).alloc (.cells #[.int .i64 0, .int .i64 0] 26)).heap.size ((w.alloc (.cells #[s0, s1, s2, s3, s4, s5, s6, .slice pa ps.length pcap, .slice qa qs.length qcap, .slice ca cs.length ccap, s10, s11, s12, s13] 55)).alloc (.cells #[.int .i64 0, .int .i64 0] 26)) W := by rw [hW]; exact Below.refl _ _
  obtain ⟨d1, d2, d3, d5⟩ := old2 hbb
  have hB1 : Below w.heap.size w W := by rw [hW]; exact new2
  have hP : W.cell? ⟨w.heap.size, 9, none⟩ = some (.slice ca cs.length ccap) := d1 9
  have c1 : W.cell? ⟨w.heap.size + 1, 0, none⟩ = some (.int .i64 0) := d2 0
  have c2 : W.cell? ⟨w.heap.size + 1, 1, none⟩ = some (.int .i64 0) := d2 1
  have d4 := Lib.hid d3
  rw [← hW]
  clear d1 d2 d3 hW hbb
  go_loopw [6, 15] (fun o i wr => ∃ k : Nat, k ≤ qs.length ∧ i = .int .i64 k ∧ o = .bool ((qs.take k).any fun c : Pl => c.name.toList == s.toList) ∧ Below W.heap.size W wr)
    (fun _ i _ => qs.length - (intOf i).toNat)
  case atStart => exact ⟨0, Nat.zero_le _, rfl, rfl, Below.refl _ _⟩
  case round =>
    obtain ⟨k, hk, rfl, rfl, hb⟩ := hrel
    have hsz : W.heap.size ≤ wr.heap.size := hb.size
    have hz4 : w.heap.size < wr.heap.size := by omega
    by_cases hlt : k < qs.length
    · obtain ⟨b, off, rfl, hb1, hq, hc⟩ := ((HA.out.pools.below (Nat.le_refl _) hB1).below (Nat.le_refl _) hb).pl hlt
      have ht := any_take (p := fun c : Pl => c.name.toList == s.toList) hlt
      rcases hp : qs.getD k default with ⟨name, c1, c2, c3, c4, c5, c6, c7, c8, c9, h1, h2, h3, h4, h5, h6, h7, h8, h9⟩
      rw [hp] at hc ht
      clear hp hq
      have hc0 : wr.cell? ⟨b, off + k * 10, none⟩ = some (.string name) := hc 0 _ rfl
      have hc1 : wr.cell? ⟨b, off + k * 10 + 1, none⟩ = some (c1) := hc 1 _ rfl
      have hc2 : wr.cell? ⟨b, off + k * 10 + 2, none⟩ = some (c2) := hc 2 _ rfl
      have hc3 : wr.cell? ⟨b, off + k * 10 + 3, none⟩ = some (c3) := hc 3 _ rfl
      have hc4 : wr.cell? ⟨b, off + k * 10 + 4, none⟩ = some (c4) := hc 4 _ rfl
      have hc5 : wr.cell? ⟨b, off + k * 10 + 5, none⟩ = some (c5) := hc 5 _ rfl
      have hc6 : wr.cell? ⟨b, off + k * 10 + 6, none⟩ = some (c6) := hc 6 _ rfl
      have hc7 : wr.cell? ⟨b, off + k * 10 + 7, none⟩ = some (c7) := hc 7 _ rfl
      have hc8 : wr.cell? ⟨b, off + k * 10 + 8, none⟩ = some (c8) := hc 8 _ rfl
      have hc9 : wr.cell? ⟨b, off + k * 10 + 9, none⟩ = some (c9) := hc 9 _ rfl
      clear hc
      dsimp only at ht
      rcases hn : ((qs.take k).any fun c : Pl => c.name.toList == s.toList) with _ | _
      · rcases hne : (name.toList == s.toList) with _ | _
        · rw [hn, hne] at ht
          clear hn
          go_wp2_with fail
          go_roundw
          case rel => exact ⟨k + 1, by omega, by go_num, by rw [ht]; rfl, hb.alloc hsz _⟩
          case measure => simp [intOf]; omega
        · rw [hn, hne] at ht
          clear hn
          go_wp2_with fail
          go_roundw
          case rel => exact ⟨k + 1, by omega, by go_num, by rw [ht]; rfl, hb.alloc hsz _⟩
          case measure => simp [intOf]; omega
      · rw [hn] at ht
        clear hn
        go_wp2_with fail
        go_roundw
        case rel => exact ⟨k + 1, by omega, by go_num, by rw [ht]; rfl, hb.alloc hsz _⟩
        case measure => simp [intOf]; omega
    · have hkl : k = qs.length := by omega
      subst hkl
      rw [List.take_of_length_le (Nat.le_refl _)]
      have hP2 := (hb.cell (p := ⟨w.heap.size, 9, none⟩) (by show w.heap.size < _; omega)).trans hP
      obtain ⟨e1, e2, e3⟩ := carry2 hb d5 c1 c2 d4.out
      have hBr : Below w.heap.size w wr := hB1.trans (hb.mono hB1.size)
      have d6 : w.heap.size + 1 < wr.heap.size := by omega
      obtain ⟨wo, rfl⟩ : ∃ wo : World, wo = wr := ⟨_, rfl⟩
      clear hb c1 c2 d4 hP hB1 hk hlt hsz d5
      rcases hn : (qs.any fun c => c.name.toList == s.toList) with _ | _
      · have HN := Lib.hid hn
        clear hn
        go_wp2
        have hB2 := hBr
        refine bodyPost_ret (v := tri (0, 0, 5)) (by simp [tri, results, Try.results39, go_sem, e1, e2]) rfl ⟨by rw [HN.out]; rfl, ?_⟩
        repeat (first | exact hB2 | (refine Below.setCell ?_ (by first | (simp; done) | (simp; omega)) _) | (refine Below.alloc ?_ (by first | (simp; done) | (simp; omega)) _) | (refine Below.drew ?_) | (refine below_drewN ?_ _))
      · have HN := Lib.hid hn
        clear hn
        go_wp2_with fail
        go_loopw [9, 33] (fun v i wr => ∃ k : Nat, k ≤ cs.length ∧ i = .int .i64 k ∧ Below wo.heap.size wo wr ∧
            Hid (wr.ownsRow wo.heap.size 26 2 v (sel (fun c : Cl => c.pool.toList == s.toList) (fun c => (c.x, c.y)) (cs.take k)).length (pairCells (sel (fun c : Cl => c.pool.toList == s.toList) (fun c => (c.x, c.y)) (cs.take k)))))
          (fun _ i _ => cs.length - (intOf i).toNat)
        case atStart => exact ⟨0, Nat.zero_le _, rfl, Below.refl _ _, World.ownsRow_nil _ _ _ _⟩
        case round =>
          obtain ⟨k, hk, rfl, hb, HO⟩ := hrel
          have hsz : wo.heap.size ≤ wr.heap.size := hb.size
          have hz5 : w.heap.size < wr.heap.size := by omega
          by_cases hlt : k < cs.length
          · have hle := sel_le (p := fun c : Cl => c.pool.toList == s.toList) (f := fun c => (c.x, c.y)) cs k
            obtain ⟨b, off, rfl, hl1, hq, hc⟩ := ((HA.out.claims.below (Nat.le_refl _) hBr).below (Nat.le_refl _) hb).cl hlt
            have hh := fun h => sel_hit (p := fun c : Cl => c.pool.toList == s.toList) (f := fun c => (c.x, c.y)) hlt h
            have hm := fun h => sel_miss (p := fun c : Cl => c.pool.toList == s.toList) (f := fun c => (c.x, c.y)) hlt h
            rcases hp : cs.getD k default with ⟨name, pool, c2, c3, c4, c5, c6, x, y, c9, c10, c11, c12, c13, c14, h2, h3, h4, h5, h6, h9, h10, h11, h12, h13, h14⟩
            rw [hp] at hc hh hm
            clear hp hq
            have hc0 : wr.cell? ⟨b, off + k * 15, none⟩ = some (.string name) := hc 0 _ rfl
            have hc1 : wr.cell? ⟨b, off + k * 15 + 1, none⟩ = some (.string pool) := hc 1 _ rfl
            have hc2 : wr.cell? ⟨b, off + k * 15 + 2, none⟩ = some (c2) := hc 2 _ rfl
            have hc3 : wr.cell? ⟨b, off + k * 15 + 3, none⟩ = some (c3) := hc 3 _ rfl
            have hc4 : wr.cell? ⟨b, off + k * 15 + 4, none⟩ = some (c4) := hc 4 _ rfl
            have hc5 : wr.cell? ⟨b, off + k * 15 + 5, none⟩ = some (c5) := hc 5 _ rfl
            have hc6 : wr.cell? ⟨b, off + k * 15 + 6, none⟩ = some (c6) := hc 6 _ rfl
            have hc7 : wr.cell? ⟨b, off + k * 15 + 7, none⟩ = some (.int .i64 x) := hc 7 _ rfl
            have hc8 : wr.cell? ⟨b, off + k * 15 + 8, none⟩ = some (.int .i64 y) := hc 8 _ rfl
            have hc9 : wr.cell? ⟨b, off + k * 15 + 9, none⟩ = some (c9) := hc 9 _ rfl
            have hc10 : wr.cell? ⟨b, off + k * 15 + 10, none⟩ = some (c10) := hc 10 _ rfl
            have hc11 : wr.cell? ⟨b, off + k * 15 + 11, none⟩ = some (c11) := hc 11 _ rfl
            have hc12 : wr.cell? ⟨b, off + k * 15 + 12, none⟩ = some (c12) := hc 12 _ rfl
            have hc13 : wr.cell? ⟨b, off + k * 15 + 13, none⟩ = some (c13) := hc 13 _ rfl
            have hc14 : wr.cell? ⟨b, off + k * 15 + 14, none⟩ = some (c14) := hc 14 _ rfl
            clear hc
            dsimp only at hh hm
            rcases hne : (pool.toList == s.toList) with _ | _
            · have hm2 := hm hne
              rw [← hm2] at HO
              clear hh hm hm2
              go_wp2_with fail
              go_roundw
              case rel => exact ⟨k + 1, by omega, by go_num, hb.alloc hsz _, HO.out.alloc _⟩
              case measure => simp [intOf]; omega
            · have HT := Lib.hid (hh hne)
              clear hh hm
              go_wp2_with (at_builtin; refine wpList_append_own _ rfl _ _ 31 rfl wo.heap.size 26 i0 (.agg #[.int .i64 0, .int .i64 0]) 2 16 Try.underlying31 HI.out HZ0.out HZ1.out HZ2.out rfl (by decide) _ _ _ rfl ((HO.out.alloc _).alloc _) ⟨wr.heap.size + 1, 0, none⟩ 1 1 [.int .i64 x, .int .i64 y] rfl rfl ?c1 ?c2 ?c3 ?c4 ?c5 ?_)
              case c1 => exact two_at _ _ _ _ (by simp)
              case c2 => simp [Value.oneCell']
              case c3 => unfold maxLen; omega
              case c4 => omega
              case c5 => simp; omega
              intro v' wn hown' hgrow _
              rw [← pairCells_snoc _ (x, y), ← HT.out] at hown'
              have hbn : Below wo.heap.size wo wn := ((hb.alloc hsz _).alloc (by simp; omega) _).grown hgrow (by simp; omega) (fun g hg => (HO.out.lt g hg).1)
              have HO2 : Hid (wn.ownsRow wo.heap.size 26 2 v' (sel (fun c : Cl => c.pool.toList == s.toList) (fun c => (c.x, c.y)) (cs.take (k + 1))).length (pairCells (sel (fun c : Cl => c.pool.toList == s.toList) (fun c => (c.x, c.y)) (cs.take (k + 1))))) := Lib.hid (by
                have e : (sel (fun c : Cl => c.pool.toList == s.toList) (fun c => (c.x, c.y)) (cs.take (k + 1))).length = (sel (fun c : Cl => c.pool.toList == s.toList) (fun c => (c.x, c.y)) (cs.take k)).length + 1 := by rw [HT.out, List.length_append]; rfl
                rw [e]; exact hown')
              clear hown' hgrow hb HO
              go_wp2
              go_roundw
              case rel => exact ⟨k + 1, by omega, by go_num, hbn, HO2⟩
              case measure => simp [intOf]; omega
          · have hkl : k = cs.length := by omega
            subst hkl
            have ho := HO.out
            rw [List.take_of_length_le (Nat.le_refl _), ← HL.out] at ho
            have hle := sel_le (p := fun c : Cl => c.pool.toList == s.toList) (f := fun c => (c.x, c.y)) cs cs.length
            rw [List.take_of_length_le (Nat.le_refl _), ← HL.out] at hle
            obtain ⟨v2, cap2, hv, hAm⟩ := own_am (ps := L) ho
            have hsum := rsum_any L v2 cap2 wr hAm (by omega)
            rw [hv]
            have HS := Lib.hid hsum
            clear hsum ho hv hAm HO hk hlt
            obtain ⟨c3, c4, c5⟩ := carry2 hb d6 e1 e2 e3
            have hB3 : Below w.heap.size w wr := hBr.trans (hb.mono hBr.size)
            clear hb
            go_wp2_with fail
            refine HS.out.mono ?_
            rintro e w2 ⟨rfl, hb2⟩
            have hz : w.heap.size + 1 < wr.heap.size := by omega
            obtain ⟨c6, c7, c8⟩ := carry2 hb2 hz c3 c4 c5
            have hB2 : Below w.heap.size w w2 := hB3.trans (hb2.mono hB3.size)
            have hz2 : w.heap.size + 1 < w2.heap.size := by have := hb2.size; omega
            clear hb2 c3 c4 c5 hBr hB3
            go_wp2
            refine bodyPost_ret (v := tri (sumIf true L)) (by simp [sumIf, tri, results, Try.results39, go_sem, c6, c7]) rfl ⟨by rw [HN.out], ?_⟩
            repeat (first | exact hB2 | (refine Below.setCell ?_ (by first | (simp; done) | (simp; omega)) _) | (refine Below.alloc ?_ (by first | (simp; done) | (simp; omega)) _) | (refine Below.drew ?_) | (refine below_drewN ?_ _))

end Go.Proofs.Ytnaphpgbmjpicaa
