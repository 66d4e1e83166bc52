/- A snapshot in memory; what is used of a claim, what a pool's claims have. -/
import Derived.Test.YtnaphpgbmjpicaaP2
namespace Go.Proofs.Ytnaphpgbmjpicaa
open Go.RowKit

attribute [local go_sem] run_store_one

/-- A snapshot: its lists of pods, of pools, of claims; the rest as it is. -/
structure Sn where
  s0 : Value
  s1 : Value
  s2 : Value
  s3 : Value
  s4 : Value
  s5 : Value
  s6 : Value
  pa : Option Addr
  ps : List Pd
  pcap : Nat
  qa : Option Addr
  qs : List Pl
  qcap : Nat
  ca : Option Addr
  cs : List Cl
  ccap : Nat
  s10 : Value
  s11 : Value
  s12 : Value
  s13 : Value
  k0 : s0.oneCell' = true
  k1 : s1.oneCell' = true
  k2 : s2.oneCell' = true
  k3 : s3.oneCell' = true
  k4 : s4.oneCell' = true
  k5 : s5.oneCell' = true
  k6 : s6.oneCell' = true
  k10 : s10.oneCell' = true
  k11 : s11.oneCell' = true
  k12 : s12.oneCell' = true
  k13 : s13.oneCell' = true
def Sn.val : Sn → Value
  | ⟨s0, s1, s2, s3, s4, s5, s6, pa, ps, pcap, qa, qs, qcap, ca, cs, ccap, s10, s11, s12, s13, _, _, _, _, _, _, _, _, _, _, _⟩ => .agg #[s0, s1, s2, s3, s4, s5, s6, .slice pa ps.length pcap, .slice qa qs.length qcap, .slice ca cs.length ccap, s10, s11, s12, s13]
/-- Its lists lie in memory, and are no longer than memory bears. -/
structure Sn.Ok (n : Sn) (w : World) : Prop where
  pods : Rw w n.pa 12 (n.ps.map Pd.cells)
  pools : Rw w n.qa 10 (n.qs.map Pl.cells)
  claims : Rw w n.ca 15 (n.cs.map Cl.cells)
  lp : n.ps.length * 16 ≤ 140737488355328
  lq : n.qs.length * 16 ≤ 140737488355328
  lc : n.cs.length * 16 ≤ 140737488355328
theorem Sn.Ok.below {n : Sn} {w w' : World} {B : Nat} (h : n.Ok w) (hB : w.heap.size ≤ B) (hb : Below B w w') : n.Ok w' :=
  ⟨h.pods.below hB hb, h.pools.below hB hb, h.claims.below hB hb, h.lp, h.lq, h.lc⟩

/-- The pairs of those that are meant. -/
def sel {α : Type} (p : α → Bool) (f : α → Int × Int) (l : List α) : List (Int × Int) := (l.filter p).map f
theorem sel_hit {α : Type} [Inhabited α] {p : α → Bool} {f : α → Int × Int} {l : List α} {k : Nat} (h : k < l.length) (hp : p (l.getD k default) = true) : sel p f (l.take (k + 1)) = sel p f (l.take k) ++ [f (l.getD k default)] := by
  unfold sel; rw [take_at (d := default) h rfl, List.filter_append, List.map_append, List.filter_cons, hp]; simp
theorem sel_miss {α : Type} [Inhabited α] {p : α → Bool} {f : α → Int × Int} {l : List α} {k : Nat} (h : k < l.length) (hp : p (l.getD k default) = false) : sel p f (l.take (k + 1)) = sel p f (l.take k) := by
  unfold sel; rw [take_at (d := default) h rfl, List.filter_append, List.map_append, List.filter_cons, hp]; simp
theorem sel_le {α : Type} {p : α → Bool} {f : α → Int × Int} (l : List α) (k : Nat) : (sel p f (l.take k)).length ≤ k := by
  unfold sel; rw [List.length_map]; exact Nat.le_trans (List.length_filter_le _ _) (by simp; omega)

/-- The sum of those that are meant, if there is one of the name; else there is none. -/
def sumIf (is : Bool) (l : List (Int × Int)) : Int × Int × Int := if is then sumGo 0 0 false l else (0, 0, 5)
def usedOf (n : Sn) (s : ByteArray) : Int × Int × Int := sumIf (n.cs.any fun c => c.name.toList == s.toList) (sel (fun p => p.on.toList == s.toList) (fun p => (p.x, p.y)) n.ps)
def poolOf (n : Sn) (s : ByteArray) : Int × Int × Int := sumIf (n.qs.any fun c => c.name.toList == s.toList) (sel (fun c => c.pool.toList == s.toList) (fun c => (c.x, c.y)) n.cs)
def tri (r : Int × Int × Int) : Value := .tuple #[.agg #[.int .i64 r.1, .int .i64 r.2.1], .int .i64 r.2.2]

theorem old3 {w w1 : World} {c1 c2 c3 : Array Value} {t1 t2 t3 : TypeId} (hb : Below (((w.alloc (.cells c1 t1)).alloc (.cells c2 t2)).alloc (.cells c3 t3)).heap.size (((w.alloc (.cells c1 t1)).alloc (.cells c2 t2)).alloc (.cells c3 t3)) w1) :
    (∀ i, w1.cell? ⟨w.heap.size, i, none⟩ = c1[i]?) ∧ (∀ i, w1.cell? ⟨w.heap.size + 1, i, none⟩ = c2[i]?) ∧ (∀ i, w1.cell? ⟨w.heap.size + 1 + 1, i, none⟩ = c3[i]?) ∧ (∀ i, w1.frozen? ⟨w.heap.size + 1 + 1, i, none⟩ = false) ∧ w.heap.size + 1 + 1 < w1.heap.size := by
  obtain ⟨hc, hf⟩ := bcell hb
  have hz := hb.size
  simp only [World.size_alloc] at hc hf hz
  have e1 : w.heap.size + 1 = (w.alloc (.cells c1 t1)).heap.size := by simp
  have e2 : w.heap.size + 1 + 1 = ((w.alloc (.cells c1 t1)).alloc (.cells c2 t2)).heap.size := by simp
  refine ⟨fun i => ?_, fun i => ?_, fun i => ?_, fun i => ?_, by omega⟩
  · rw [hc _ _ (by omega), World.cell?_alloc_lt _ _ _ (by simp; omega), World.cell?_alloc_lt _ _ _ (by simp), World.cell?_alloc_new]
  · rw [hc _ _ (by omega), World.cell?_alloc_lt _ _ _ (by simp), e1, World.cell?_alloc_new]
  · rw [hc _ _ (by omega), e2, World.cell?_alloc_new]
  · rw [hf _ _ (by omega), e2, World.frozen?_alloc_new]
theorem bel3 {w w1 : World} {o1 o2 o3 : Obj} (hb : Below (((w.alloc o1).alloc o2).alloc o3).heap.size (((w.alloc o1).alloc o2).alloc o3) w1) : Below w.heap.size w w1 :=
  ((((Below.refl _ _).alloc (Nat.le_refl _) _).alloc (by simp) _).alloc (by simp; omega) _).trans (hb.mono (by simp; omega))
theorem new3 {w : World} {o1 o2 o3 : Obj} : Below w.heap.size w (((w.alloc o1).alloc o2).alloc o3) :=
  (((Below.refl _ _).alloc (Nat.le_refl _) _).alloc (by simp) _).alloc (by simp; omega) _
theorem new2 {w : World} {o1 o2 : Obj} : Below w.heap.size w ((w.alloc o1).alloc o2) :=
  ((Below.refl _ _).alloc (Nat.le_refl _) _).alloc (by simp) _
theorem new1 {w : World} {o1 : Obj} : Below w.heap.size w (w.alloc o1) := (Below.refl _ _).alloc (Nat.le_refl _) _
theorem two_at (w : World) (x y : Value) (t : TypeId) {B : Nat} (h : B = w.heap.size) : ∀ j u, [x, y][j]? = some u → (w.alloc (.cells #[x, y] t)).cell? ((⟨B, 0, none⟩ : Addr).add j) = some u := by
  subst h; exact two_new w x y t
theorem mid3 {w : World} {c1 c2 c3 : Array Value} {t1 t2 t3 : TypeId} (i : Nat) : (((w.alloc (.cells c1 t1)).alloc (.cells c2 t2)).alloc (.cells c3 t3)).cell? ⟨w.heap.size + 1, i, none⟩ = c2[i]? := by
  have e1 : w.heap.size + 1 = (w.alloc (.cells c1 t1)).heap.size := by simp
  rw [World.cell?_alloc_lt _ _ _ (by simp), e1, World.cell?_alloc_new]


set_option maxRecDepth 100000 in
set_option maxHeartbeats 4000000 in
theorem used_any (n : Sn) (s : ByteArray) (w : World) (hA : n.Ok w) :
    Calls Try.prog 34 #[n.val, .string s] w fun e w' => e = .returned (tri (usedOf n s)) ∧ Below w.heap.size w w' := by
  obtain ⟨s0, s1, s2, s3, s4, s5, s6, pa, ps, pcap, qa, qs, qcap, ca, cs, ccap, s10, s11, s12, s13, k0, k1, k2, k3, k4, k5, k6, k10, k11, k12, k13⟩ := n
  have HA := Lib.hid hA
  clear hA
  show Calls Try.prog 34 #[.agg #[s0, s1, s2, s3, s4, s5, s6, .slice pa ps.length pcap, .slice qa qs.length qcap, .slice ca cs.length ccap, s10, s11, s12, s13], .string s] w _
  obtain ⟨L, hL⟩ : ∃ L, L = sel (fun c : Pd => c.on.toList == s.toList) (fun c => (c.x, c.y)) ps := ⟨_, rfl⟩
  have hR : usedOf ⟨s0, s1, s2, s3, s4, s5, s6, pa, ps, pcap, qa, qs, qcap, ca, cs, ccap, s10, s11, s12, s13, k0, k1, k2, k3, k4, k5, k6, k10, k11, k12, k13⟩ s = sumIf (cs.any fun c => c.name.toList == s.toList) L := by rw [hL]; rfl
  rw [hR]
  have HL := Lib.hid hL
  clear hR hL
  have hl1 : cs.length ≤ 9223372036854775807 := by have := HA.out.lc; dsimp only at this; omega
  have hl2 : ps.length * 16 ≤ 140737488355328 := HA.out.lp
  have hcon := fun (w : World) (hA : Rw w ca 15 (cs.map Cl.cells)) (B : Nat) (hB : B < w.heap.size) (hc : w.cell? ⟨B, 0, none⟩ = some (.string s)) => contains43 cs ca ccap B s w hA hl1 hB hc
  obtain ⟨i0, hi, hz0, hz1, hz2⟩ := info_parts info26
  have HI := Lib.hid hi
  have HZ0 := Lib.hid hz0
  have HZ1 := Lib.hid hz1
  have HZ2 := Lib.hid hz2
  clear hi hz0 hz1 hz2
  rcases hn : (cs.any fun c => c.name.toList == s.toList) with _ | _
  · rw [hn] at hcon
    have HC := Lib.hid hcon
    clear hcon hn
    go_enter Try.func34, Try.ntmps34
    go_wp2_with fail
    refine (HC.out _ (HA.out.claims.below (Nat.le_refl _) new3) _ (by simp) (mid3 0)).mono ?_
    rintro e w1 ⟨rfl, hb⟩
    obtain ⟨d1, d2, d3, d4, d5⟩ := old3 hb
    have hB2 : Below w.heap.size w w1 := bel3 hb
    have c1 : w1.cell? ⟨w.heap.size + 1 + 1, 0, none⟩ = some (.int .i64 0) := d3 0
    have c2 : w1.cell? ⟨w.heap.size + 1 + 1, 1, none⟩ = some (.int .i64 0) := d3 1
    clear hb d1 d2 d3
    go_wp2
    refine bodyPost_ret (v := tri (0, 0, 5)) (by simp [tri, results, Try.results34, go_sem, c1, c2]) rfl ⟨rfl, ?_⟩
    repeat (first | exact hB2 | (refine Below.setCell ?_ (by first | (simp; done) | (simp; omega)) _) | (refine Below.alloc ?_ (by first | (simp; done) | (simp; omega)) _) | (refine Below.drew ?_) | (refine below_drewN ?_ _))
  · rw [hn] at hcon
    have HC := Lib.hid hcon
    clear hcon hn
    go_enter Try.func34, Try.ntmps34
    go_wp2_with fail
    refine (HC.out _ (HA.out.claims.below (Nat.le_refl _) new3) _ (by simp) (mid3 0)).mono ?_
    rintro e w1 ⟨rfl, hb⟩
    obtain ⟨d1, d2, d3, d4, d5⟩ := old3 hb
    have hB1 : Below w.heap.size w w1 := bel3 hb
    have hP : w1.cell? ⟨w.heap.size, 7, none⟩ = some (.slice pa ps.length pcap) := d1 7
    have hS : w1.cell? ⟨w.heap.size + 1, 0, none⟩ = some (.string s) := d2 0
    have c1 : w1.cell? ⟨w.heap.size + 1 + 1, 0, none⟩ = some (.int .i64 0) := d3 0
    have c2 : w1.cell? ⟨w.heap.size + 1 + 1, 1, none⟩ = some (.int .i64 0) := d3 1
    clear hb d1 d2 d3
    go_wp2_with fail
    go_loopw [6, 18] (fun v i wr => ∃ k : Nat, k ≤ ps.length ∧ i = .int .i64 k ∧ Below w1.heap.size w1 wr ∧
        Hid (wr.ownsRow w1.heap.size 26 2 v (sel (fun c : Pd => c.on.toList == s.toList) (fun c => (c.x, c.y)) (ps.take k)).length (pairCells (sel (fun c : Pd => c.on.toList == s.toList) (fun c => (c.x, c.y)) (ps.take k)))))
      (fun _ i _ => ps.length - (intOf i).toNat)
    case atStart => exact ⟨0, Nat.zero_le _, rfl, Below.refl _ _, World.ownsRow_nil _ _ _ _⟩
    case round =>
      obtain ⟨k, hk, rfl, hb, HO⟩ := hrel
      have hsz : w1.heap.size ≤ wr.heap.size := hb.size
      have hS2 : wr.cell? ⟨w.heap.size + 1, 0, none⟩ = some (.string s) := (hb.cell (p := ⟨w.heap.size + 1, 0, none⟩) (by show w.heap.size + 1 < _; omega)).trans hS
      have hz3 : w.heap.size + 1 < wr.heap.size := by omega
      have hz4 : w.heap.size < wr.heap.size := by omega
      by_cases hlt : k < ps.length
      · have hle := sel_le (p := fun c : Pd => c.on.toList == s.toList) (f := fun c => (c.x, c.y)) ps k
        obtain ⟨b, off, rfl, hl1, hq, hc⟩ := ((HA.out.pods.below (Nat.le_refl _) hB1).below (Nat.le_refl _) hb).pd hlt
        have hh := fun h => sel_hit (p := fun c : Pd => c.on.toList == s.toList) (f := fun c => (c.x, c.y)) hlt h
        have hm := fun h => sel_miss (p := fun c : Pd => c.on.toList == s.toList) (f := fun c => (c.x, c.y)) hlt h
        rcases hp : ps.getD k default with ⟨c0, c1, x, y, c4, c5, c6, c7, c8, c9, c10, on, h0, h1, h4, h5, h6, h7, h8, h9, h10⟩
        rw [hp] at hc hh hm
        clear hp hq
        have hc0 : wr.cell? ⟨b, off + k * 12, none⟩ = some (c0) := hc 0 _ rfl
        have hc1 : wr.cell? ⟨b, off + k * 12 + 1, none⟩ = some (c1) := hc 1 _ rfl
        have hc2 : wr.cell? ⟨b, off + k * 12 + 2, none⟩ = some (.int .i64 x) := hc 2 _ rfl
        have hc3 : wr.cell? ⟨b, off + k * 12 + 3, none⟩ = some (.int .i64 y) := hc 3 _ rfl
        have hc4 : wr.cell? ⟨b, off + k * 12 + 4, none⟩ = some (c4) := hc 4 _ rfl
        have hc5 : wr.cell? ⟨b, off + k * 12 + 5, none⟩ = some (c5) := hc 5 _ rfl
        have hc6 : wr.cell? ⟨b, off + k * 12 + 6, none⟩ = some (c6) := hc 6 _ rfl
        have hc7 : wr.cell? ⟨b, off + k * 12 + 7, none⟩ = some (c7) := hc 7 _ rfl
        have hc8 : wr.cell? ⟨b, off + k * 12 + 8, none⟩ = some (c8) := hc 8 _ rfl
        have hc9 : wr.cell? ⟨b, off + k * 12 + 9, none⟩ = some (c9) := hc 9 _ rfl
        have hc10 : wr.cell? ⟨b, off + k * 12 + 10, none⟩ = some (c10) := hc 10 _ rfl
        have hc11 : wr.cell? ⟨b, off + k * 12 + 11, none⟩ = some (.string on) := hc 11 _ rfl
        clear hc
        dsimp only at hh hm
        rcases hne : (on.toList == s.toList) with _ | _
        · have hm2 := hm hne
          rw [← hm2] at HO
          clear hh hm hm2
          go_wp2_with fail
          go_roundw
          case rel => exact ⟨k + 1, by omega, by go_num, hb.alloc hsz _, HO.out.alloc _⟩
          case measure => simp [intOf]; omega
        · have HT := Lib.hid (hh hne)
          clear hh hm
          go_wp2_with (at_builtin; refine wpList_append_own _ rfl _ _ 31 rfl w1.heap.size 26 i0 (.agg #[.int .i64 0, .int .i64 0]) 2 16 Try.underlying31 HI.out HZ0.out HZ1.out HZ2.out rfl (by decide) _ _ _ rfl ((HO.out.alloc _).alloc _) ⟨wr.heap.size + 1, 0, none⟩ 1 1 [.int .i64 x, .int .i64 y] rfl rfl ?c1 ?c2 ?c3 ?c4 ?c5 ?_)
          case c1 => exact two_at _ _ _ _ (by simp)
          case c2 => simp [Value.oneCell']
          case c3 => unfold maxLen; omega
          case c4 => omega
          case c5 => simp; omega
          intro v' wn hown' hgrow _
          rw [← pairCells_snoc _ (x, y), ← HT.out] at hown'
          have hbn : Below w1.heap.size w1 wn := ((hb.alloc hsz _).alloc (by simp; omega) _).grown hgrow (by simp; omega) (fun g hg => (HO.out.lt g hg).1)
          have HO2 : Hid (wn.ownsRow w1.heap.size 26 2 v' (sel (fun c : Pd => c.on.toList == s.toList) (fun c => (c.x, c.y)) (ps.take (k + 1))).length (pairCells (sel (fun c : Pd => c.on.toList == s.toList) (fun c => (c.x, c.y)) (ps.take (k + 1))))) := Lib.hid (by
            have e : (sel (fun c : Pd => c.on.toList == s.toList) (fun c => (c.x, c.y)) (ps.take (k + 1))).length = (sel (fun c : Pd => c.on.toList == s.toList) (fun c => (c.x, c.y)) (ps.take k)).length + 1 := by rw [HT.out, List.length_append]; rfl
            rw [e]; exact hown')
          clear hown' hgrow hb HO
          go_wp2
          go_roundw
          case rel => exact ⟨k + 1, by omega, by go_num, hbn, HO2⟩
          case measure => simp [intOf]; omega
      · have hkl : k = ps.length := by omega
        subst hkl
        have ho := HO.out
        rw [List.take_of_length_le (Nat.le_refl _), ← HL.out] at ho
        have hle := sel_le (p := fun c : Pd => c.on.toList == s.toList) (f := fun c => (c.x, c.y)) ps ps.length
        rw [List.take_of_length_le (Nat.le_refl _), ← HL.out] at hle
        obtain ⟨v2, cap2, hv, hAm⟩ := own_am (ps := L) ho
        have hsum := sum_any L v2 cap2 wr hAm (by omega)
        rw [hv]
        have HS := Lib.hid hsum
        clear hsum ho hv hAm HO hk hlt
        have c3 := (hb.cell (p := ⟨w.heap.size + 1 + 1, 0, none⟩) d5).trans c1
        have c4 := (hb.cell (p := ⟨w.heap.size + 1 + 1, 1, none⟩) d5).trans c2
        have c5 := fun i => (hb.frozen (p := ⟨w.heap.size + 1 + 1, i, none⟩) d5).trans (d4 i)
        have hBr : Below w.heap.size w wr := hB1.trans (hb.mono hB1.size)
        clear hb
        go_wp2_with fail
        refine HS.out.mono ?_
        rintro e w2 ⟨rfl, hb2⟩
        have hz : w.heap.size + 1 + 1 < wr.heap.size := by omega
        obtain ⟨c6, c7, c8⟩ := carry2 hb2 hz c3 c4 c5
        have hB2 : Below w.heap.size w w2 := hBr.trans (hb2.mono hBr.size)
        have hz2 : w.heap.size + 1 + 1 < w2.heap.size := by have := hb2.size; omega
        clear hb2 c3 c4 c5 hBr
        go_wp2
        refine bodyPost_ret (v := tri (sumIf true L)) (by simp [sumIf, tri, results, Try.results34, go_sem, c6, c7]) rfl ⟨rfl, ?_⟩
        repeat (first | exact hB2 | (refine Below.setCell ?_ (by first | (simp; done) | (simp; omega)) _) | (refine Below.alloc ?_ (by first | (simp; done) | (simp; omega)) _) | (refine Below.drew ?_) | (refine below_drewN ?_ _))

set_option maxRecDepth 100000 in
set_option maxHeartbeats 4000000 in
theorem pool_any (n : Sn) (s : ByteArray) (w : World) (hA : n.Ok w) :
    Calls Try.prog 38 #[n.val, .string s] w fun e w' => e = .returned (tri (poolOf n s)) ∧ Below w.heap.size w w' := by
  obtain ⟨s0, s1, s2, s3, s4, s5, s6, pa, ps, pcap, qa, qs, qcap, ca, cs, ccap, s10, s11, s12, s13, k0, k1, k2, k3, k4, k5, k6, k10, k11, k12, k13⟩ := n
  have HA := Lib.hid hA
  clear hA
  show Calls Try.prog 38 #[.agg #[s0, s1, s2, s3, s4, s5, s6, .slice pa ps.length pcap, .slice qa qs.length qcap, .slice ca cs.length ccap, s10, s11, s12, s13], .string s] w _
  obtain ⟨L, hL⟩ : ∃ L, L = sel (fun c : Cl => c.pool.toList == s.toList) (fun c => (c.x, c.y)) cs := ⟨_, rfl⟩
  have hR : poolOf ⟨s0, s1, s2, s3, s4, s5, s6, pa, ps, pcap, qa, qs, qcap, ca, cs, ccap, s10, s11, s12, s13, k0, k1, k2, k3, k4, k5, k6, k10, k11, k12, k13⟩ s = sumIf (qs.any fun c => c.name.toList == s.toList) L := by rw [hL]; rfl
  rw [hR]
  have HL := Lib.hid hL
  clear hR hL
  have hl1 : qs.length ≤ 9223372036854775807 := by have := HA.out.lq; dsimp only at this; omega
  have hl2 : cs.length * 16 ≤ 140737488355328 := HA.out.lc
  have hcon := fun (w : World) (hA : Rw w qa 10 (qs.map Pl.cells)) (B : Nat) (hB : B < w.heap.size) (hc : w.cell? ⟨B, 0, none⟩ = some (.string s)) => contains47 qs qa qcap B s w hA hl1 hB hc
  obtain ⟨i0, hi, hz0, hz1, hz2⟩ := info_parts info26
  have HI := Lib.hid hi
  have HZ0 := Lib.hid hz0
  have HZ1 := Lib.hid hz1
  have HZ2 := Lib.hid hz2
  clear hi hz0 hz1 hz2
  rcases hn : (qs.any fun c => c.name.toList == s.toList) with _ | _
  · rw [hn] at hcon
    have HC := Lib.hid hcon
    clear hcon hn
    go_enter Try.func38, Try.ntmps38
    go_wp2_with fail
    refine (HC.out _ (HA.out.pools.below (Nat.le_refl _) new3) _ (by simp) (mid3 0)).mono ?_
    rintro e w1 ⟨rfl, hb⟩
    obtain ⟨d1, d2, d3, d4, d5⟩ := old3 hb
    have hB2 : Below w.heap.size w w1 := bel3 hb
    have c1 : w1.cell? ⟨w.heap.size + 1 + 1, 0, none⟩ = some (.int .i64 0) := d3 0
    have c2 : w1.cell? ⟨w.heap.size + 1 + 1, 1, none⟩ = some (.int .i64 0) := d3 1
    clear hb d1 d2 d3
    go_wp2
    refine bodyPost_ret (v := tri (0, 0, 5)) (by simp [tri, results, Try.results38, go_sem, c1, c2]) rfl ⟨rfl, ?_⟩
    repeat (first | exact hB2 | (refine Below.setCell ?_ (by first | (simp; done) | (simp; omega)) _) | (refine Below.alloc ?_ (by first | (simp; done) | (simp; omega)) _) | (refine Below.drew ?_) | (refine below_drewN ?_ _))
  · rw [hn] at hcon
    have HC := Lib.hid hcon
    clear hcon hn
    go_enter Try.func38, Try.ntmps38
    go_wp2_with fail
    refine (HC.out _ (HA.out.pools.below (Nat.le_refl _) new3) _ (by simp) (mid3 0)).mono ?_
    rintro e w1 ⟨rfl, hb⟩
    obtain ⟨d1, d2, d3, d4, d5⟩ := old3 hb
    have hB1 : Below w.heap.size w w1 := bel3 hb
    have hP : w1.cell? ⟨w.heap.size, 9, none⟩ = some (.slice ca cs.length ccap) := d1 9
    have hS : w1.cell? ⟨w.heap.size + 1, 0, none⟩ = some (.string s) := d2 0
    have c1 : w1.cell? ⟨w.heap.size + 1 + 1, 0, none⟩ = some (.int .i64 0) := d3 0
    have c2 : w1.cell? ⟨w.heap.size + 1 + 1, 1, none⟩ = some (.int .i64 0) := d3 1
    clear hb d1 d2 d3
    go_wp2_with fail
    go_loopw [6, 18] (fun v i wr => ∃ k : Nat, k ≤ cs.length ∧ i = .int .i64 k ∧ Below w1.heap.size w1 wr ∧
        Hid (wr.ownsRow w1.heap.size 26 2 v (sel (fun c : Cl => c.pool.toList == s.toList) (fun c => (c.x, c.y)) (cs.take k)).length (pairCells (sel (fun c : Cl => c.pool.toList == s.toList) (fun c => (c.x, c.y)) (cs.take k)))))
      (fun _ i _ => cs.length - (intOf i).toNat)
    case atStart => exact ⟨0, Nat.zero_le _, rfl, Below.refl _ _, World.ownsRow_nil _ _ _ _⟩
    case round =>
      obtain ⟨k, hk, rfl, hb, HO⟩ := hrel
      have hsz : w1.heap.size ≤ wr.heap.size := hb.size
      have hS2 : wr.cell? ⟨w.heap.size + 1, 0, none⟩ = some (.string s) := (hb.cell (p := ⟨w.heap.size + 1, 0, none⟩) (by show w.heap.size + 1 < _; omega)).trans hS
      have hz3 : w.heap.size + 1 < wr.heap.size := by omega
      have hz4 : w.heap.size < wr.heap.size := by omega
      by_cases hlt : k < cs.length
      · have hle := sel_le (p := fun c : Cl => c.pool.toList == s.toList) (f := fun c => (c.x, c.y)) cs k
        obtain ⟨b, off, rfl, hl1, hq, hc⟩ := ((HA.out.claims.below (Nat.le_refl _) hB1).below (Nat.le_refl _) hb).cl hlt
        have hh := fun h => sel_hit (p := fun c : Cl => c.pool.toList == s.toList) (f := fun c => (c.x, c.y)) hlt h
        have hm := fun h => sel_miss (p := fun c : Cl => c.pool.toList == s.toList) (f := fun c => (c.x, c.y)) hlt h
        rcases hp : cs.getD k default with ⟨name, pool, c2, c3, c4, c5, c6, x, y, c9, c10, c11, c12, c13, c14, h2, h3, h4, h5, h6, h9, h10, h11, h12, h13, h14⟩
        rw [hp] at hc hh hm
        clear hp hq
        have hc0 : wr.cell? ⟨b, off + k * 15, none⟩ = some (.string name) := hc 0 _ rfl
        have hc1 : wr.cell? ⟨b, off + k * 15 + 1, none⟩ = some (.string pool) := hc 1 _ rfl
        have hc2 : wr.cell? ⟨b, off + k * 15 + 2, none⟩ = some (c2) := hc 2 _ rfl
        have hc3 : wr.cell? ⟨b, off + k * 15 + 3, none⟩ = some (c3) := hc 3 _ rfl
        have hc4 : wr.cell? ⟨b, off + k * 15 + 4, none⟩ = some (c4) := hc 4 _ rfl
        have hc5 : wr.cell? ⟨b, off + k * 15 + 5, none⟩ = some (c5) := hc 5 _ rfl
        have hc6 : wr.cell? ⟨b, off + k * 15 + 6, none⟩ = some (c6) := hc 6 _ rfl
        have hc7 : wr.cell? ⟨b, off + k * 15 + 7, none⟩ = some (.int .i64 x) := hc 7 _ rfl
        have hc8 : wr.cell? ⟨b, off + k * 15 + 8, none⟩ = some (.int .i64 y) := hc 8 _ rfl
        have hc9 : wr.cell? ⟨b, off + k * 15 + 9, none⟩ = some (c9) := hc 9 _ rfl
        have hc10 : wr.cell? ⟨b, off + k * 15 + 10, none⟩ = some (c10) := hc 10 _ rfl
        have hc11 : wr.cell? ⟨b, off + k * 15 + 11, none⟩ = some (c11) := hc 11 _ rfl
        have hc12 : wr.cell? ⟨b, off + k * 15 + 12, none⟩ = some (c12) := hc 12 _ rfl
        have hc13 : wr.cell? ⟨b, off + k * 15 + 13, none⟩ = some (c13) := hc 13 _ rfl
        have hc14 : wr.cell? ⟨b, off + k * 15 + 14, none⟩ = some (c14) := hc 14 _ rfl
        clear hc
        dsimp only at hh hm
        rcases hne : (pool.toList == s.toList) with _ | _
        · have hm2 := hm hne
          rw [← hm2] at HO
          clear hh hm hm2
          go_wp2_with fail
          go_roundw
          case rel => exact ⟨k + 1, by omega, by go_num, hb.alloc hsz _, HO.out.alloc _⟩
          case measure => simp [intOf]; omega
        · have HT := Lib.hid (hh hne)
          clear hh hm
          go_wp2_with (at_builtin; refine wpList_append_own _ rfl _ _ 31 rfl w1.heap.size 26 i0 (.agg #[.int .i64 0, .int .i64 0]) 2 16 Try.underlying31 HI.out HZ0.out HZ1.out HZ2.out rfl (by decide) _ _ _ rfl ((HO.out.alloc _).alloc _) ⟨wr.heap.size + 1, 0, none⟩ 1 1 [.int .i64 x, .int .i64 y] rfl rfl ?c1 ?c2 ?c3 ?c4 ?c5 ?_)
          case c1 => exact two_at _ _ _ _ (by simp)
          case c2 => simp [Value.oneCell']
          case c3 => unfold maxLen; omega
          case c4 => omega
          case c5 => simp; omega
          intro v' wn hown' hgrow _
          rw [← pairCells_snoc _ (x, y), ← HT.out] at hown'
          have hbn : Below w1.heap.size w1 wn := ((hb.alloc hsz _).alloc (by simp; omega) _).grown hgrow (by simp; omega) (fun g hg => (HO.out.lt g hg).1)
          have HO2 : Hid (wn.ownsRow w1.heap.size 26 2 v' (sel (fun c : Cl => c.pool.toList == s.toList) (fun c => (c.x, c.y)) (cs.take (k + 1))).length (pairCells (sel (fun c : Cl => c.pool.toList == s.toList) (fun c => (c.x, c.y)) (cs.take (k + 1))))) := Lib.hid (by
            have e : (sel (fun c : Cl => c.pool.toList == s.toList) (fun c => (c.x, c.y)) (cs.take (k + 1))).length = (sel (fun c : Cl => c.pool.toList == s.toList) (fun c => (c.x, c.y)) (cs.take k)).length + 1 := by rw [HT.out, List.length_append]; rfl
            rw [e]; exact hown')
          clear hown' hgrow hb HO
          go_wp2
          go_roundw
          case rel => exact ⟨k + 1, by omega, by go_num, hbn, HO2⟩
          case measure => simp [intOf]; omega
      · have hkl : k = cs.length := by omega
        subst hkl
        have ho := HO.out
        rw [List.take_of_length_le (Nat.le_refl _), ← HL.out] at ho
        have hle := sel_le (p := fun c : Cl => c.pool.toList == s.toList) (f := fun c => (c.x, c.y)) cs cs.length
        rw [List.take_of_length_le (Nat.le_refl _), ← HL.out] at hle
        obtain ⟨v2, cap2, hv, hAm⟩ := own_am (ps := L) ho
        have hsum := sum_any L v2 cap2 wr hAm (by omega)
        rw [hv]
        have HS := Lib.hid hsum
        clear hsum ho hv hAm HO hk hlt
        have c3 := (hb.cell (p := ⟨w.heap.size + 1 + 1, 0, none⟩) d5).trans c1
        have c4 := (hb.cell (p := ⟨w.heap.size + 1 + 1, 1, none⟩) d5).trans c2
        have c5 := fun i => (hb.frozen (p := ⟨w.heap.size + 1 + 1, i, none⟩) d5).trans (d4 i)
        have hBr : Below w.heap.size w wr := hB1.trans (hb.mono hB1.size)
        clear hb
        go_wp2_with fail
        refine HS.out.mono ?_
        rintro e w2 ⟨rfl, hb2⟩
        have hz : w.heap.size + 1 + 1 < wr.heap.size := by omega
        obtain ⟨c6, c7, c8⟩ := carry2 hb2 hz c3 c4 c5
        have hB2 : Below w.heap.size w w2 := hBr.trans (hb2.mono hBr.size)
        have hz2 : w.heap.size + 1 + 1 < w2.heap.size := by have := hb2.size; omega
        clear hb2 c3 c4 c5 hBr
        go_wp2
        refine bodyPost_ret (v := tri (sumIf true L)) (by simp [sumIf, tri, results, Try.results38, go_sem, c6, c7]) rfl ⟨rfl, ?_⟩
        repeat (first | exact hB2 | (refine Below.setCell ?_ (by first | (simp; done) | (simp; omega)) _) | (refine Below.alloc ?_ (by first | (simp; done) | (simp; omega)) _) | (refine Below.drew ?_) | (refine below_drewN ?_ _))

end Go.Proofs.Ytnaphpgbmjpicaa
