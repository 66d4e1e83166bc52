/- Contracts: Fits, twice. -/
import Derived.Test.YtnaphpgbmjpicaaF
import Derived.Deep.RegionWith
namespace Go.Proofs.Ytnaphpgbmjpicaa
open Go.RowKit

def fitsB (x y z u : Int) : Bool := both x y z u == 0 && (decide (x ≤ z) && decide (y ≤ u))
theorem fits_bad {x y z u : Int} (h : (both x y z u == 0) = false) : fitsB x y z u = false := by unfold fitsB; rw [h]; rfl
theorem fits_no {x y z u : Int} (h : ¬ (x ≤ z ∧ y ≤ u)) : fitsB x y z u = false := by
  unfold fitsB
  rcases (both x y z u == 0) with _ | _
  · rfl
  · simp; omega
theorem fits_yes {x y z u : Int} (h0 : (both x y z u == 0) = true) (h : x ≤ z ∧ y ≤ u) : fitsB x y z u = true := by
  unfold fitsB; rw [h0]; simp; omega
theorem ret_bool {a b : Bool} (h : a = b) : Ending.returned (.bool a) = .returned (.bool b) := by rw [h]

theorem boxes2 {w w1 : World} {a0 a1 b0 b1 : Value} {t1 t2 : TypeId} {B : Nat} (hb : Below B ((w.alloc (.cells #[a0, a1] t1)).alloc (.cells #[b0, b1] t2)) w1) (hB : B = ((w.alloc (.cells #[a0, a1] t1)).alloc (.cells #[b0, b1] t2)).heap.size := by rfl) :
    (w1.cell? ⟨w.heap.size, 0, none⟩ = some a0 ∧ w1.cell? ⟨w.heap.size, 1, none⟩ = some a1 ∧ ∀ i, w1.frozen? ⟨w.heap.size, i, none⟩ = false) ∧
    (w1.cell? ⟨w.heap.size + 1, 0, none⟩ = some b0 ∧ w1.cell? ⟨w.heap.size + 1, 1, none⟩ = some b1 ∧ ∀ i, w1.frozen? ⟨w.heap.size + 1, i, none⟩ = false) ∧ w.heap.size + 1 < w1.heap.size := by
  subst hB
  obtain ⟨hc, hf⟩ := bcell hb
  have hz := hb.size
  simp only [World.size_alloc] at hc hf hz
  have e1 : w.heap.size + 1 = (w.alloc (.cells #[a0, a1] t1)).heap.size := by simp
  refine ⟨⟨?_, ?_, fun i => ?_⟩, ⟨?_, ?_, fun i => ?_⟩, by omega⟩
  · rw [hc _ _ (by omega), World.cell?_alloc_lt _ _ _ (by simp), World.cell?_alloc_new]; rfl
  · rw [hc _ _ (by omega), World.cell?_alloc_lt _ _ _ (by simp), World.cell?_alloc_new]; rfl
  · rw [hf _ _ (by omega), World.frozen?_alloc_old _ _ _ (by simp), World.frozen?_alloc_new]
  · rw [hc _ _ (by omega), e1, World.cell?_alloc_new]; rfl
  · rw [hc _ _ (by omega), e1, World.cell?_alloc_new]; rfl
  · rw [hf _ _ (by omega), e1, World.frozen?_alloc_new]
theorem base2 {w w1 : World} {o1 o2 : Obj} {B : Nat} (hb : Below B ((w.alloc o1).alloc o2) w1) (hB : B = ((w.alloc o1).alloc o2).heap.size := by rfl) : Below w.heap.size w w1 :=
  (((Below.refl _ _).alloc (Nat.le_refl _) _).alloc (by simp) _).trans (hb.mono (by rw [hB]; simp; omega))

attribute [local go_sem] eqIn26 eqG26

set_option maxRecDepth 100000 in
set_option maxHeartbeats 1000000 in
theorem rfits_any (x y z u : Int) (w : World) : Calls Try.prog 18 #[.agg #[.int .i64 x, .int .i64 y], .agg #[.int .i64 z, .int .i64 u]] w fun e w' => e = .returned (.bool (fitsB x y z u)) ∧ Below w.heap.size w w' := by
  rcases h : (both x y z u == 0) with _ | _
  · go_enter Try.func18, Try.ntmps18
    go_wp2_with fail
    refine (rboth_any _ _ _ _ _).mono ?_
    rintro e w1 ⟨rfl, hb⟩
    have hB : Below w.heap.size w w1 := base2 hb
    go_wp2_with fail
    go_ret
    exact ⟨ret_bool (fits_bad h).symm, hB⟩
  · rcases h1 : decide (x ≤ z) with _ | _
    · go_enter Try.func18, Try.ntmps18
      go_wp2_with fail
      refine (rboth_any _ _ _ _ _).mono ?_
      rintro e w1 ⟨rfl, hb⟩
      have hB : Below w.heap.size w w1 := base2 hb
      obtain ⟨⟨c1, c2, c3⟩, ⟨c4, c5, c6⟩, c10⟩ := boxes2 hb
      go_wp2_with fail
      go_ret
      exact ⟨ret_bool (fits_no (by simp at h1; omega)).symm, hB⟩
    · rcases h2 : decide (y ≤ u) with _ | _
      · go_enter Try.func18, Try.ntmps18
        go_wp2_with fail
        refine (rboth_any _ _ _ _ _).mono ?_
        rintro e w1 ⟨rfl, hb⟩
        have hB : Below w.heap.size w w1 := base2 hb
        obtain ⟨⟨c1, c2, c3⟩, ⟨c4, c5, c6⟩, c10⟩ := boxes2 hb
        go_wp2_with fail
        go_ret
        exact ⟨ret_bool (fits_no (by simp at h2; omega)).symm, hB⟩
      · go_enter Try.func18, Try.ntmps18
        go_wp2_with fail
        refine (rboth_any _ _ _ _ _).mono ?_
        rintro e w1 ⟨rfl, hb⟩
        have hB : Below w.heap.size w w1 := base2 hb
        obtain ⟨⟨c1, c2, c3⟩, ⟨c4, c5, c6⟩, c10⟩ := boxes2 hb
        go_wp2_with fail
        go_ret
        exact ⟨ret_bool (fits_yes h (by simp at h1 h2; omega)).symm, hB⟩

/-! ### A region that draws: reads of old cells, and calls that make memory: walked once, each value named -/
section
variable {ops : Array Oper} {C : World → Prop} {Q : Act → Prop} {a : Act} {o : Oper} {rest : List Oper}
theorem wpQuiet_do (v : Value) (hw : Region.wanted o (yielded ops a.tmps) = true) (h : ∀ w, C w → o.quietAt Try.prog a C w v)
    (k : ∀ K : Act → Prop, (∀ a, wpQuiet Try.prog ops C Q rest a → K a) → K (a.put o.dst v)) : wpQuiet Try.prog ops C Q (o :: rest) a := by
  unfold wpQuiet; rw [if_pos hw]; exact ⟨v, h, k _ fun _ h => h⟩
theorem wpQuiet_pass (hw : Region.wanted o (yielded ops a.tmps) = false)
    (k : ∀ K : Act → Prop, (∀ a, wpQuiet Try.prog ops C Q rest a → K a) → K (a.put o.dst undef)) : wpQuiet Try.prog ops C Q (o :: rest) a := by
  unfold wpQuiet; rw [if_neg (by rw [hw]; simp)]; exact k _ fun _ h => h
end
theorem wp_region_below {B : Nat} {id : Nat} {Q : Exit → Act → World → Prop} {a : Act} {w W : World} {l : List Oper} (hm : Try.prog.follows .mixedOrders = true) (hB : Region.lexB .any l.toArray = true) (hW : Below B W w)
    (h : wpQuiet Try.prog l.toArray (fun w' => Below B W w') (fun a' => ∀ w', Below B W w' → Q .normal a' w') l a) : (Code.region id l.toArray true).wp Try.prog Q a w :=
  wp_region_quiet (C := fun w' => Below B W w') hm hB hW.drew (by simpa using h)

set_option maxRecDepth 100000 in
set_option maxHeartbeats 1000000 in
theorem fits_any (x y z u : Int) (w : World) : Calls Try.prog 20 #[.agg #[.int .i64 x, .int .i64 y], .agg #[.int .i64 z, .int .i64 u]] w fun e w' => e = .returned (.bool (fitsB x y z u)) ∧ Below w.heap.size w w' := by
  rcases h : (both x y z u == 0) with _ | _
  · go_enter Try.func20, Try.ntmps20
    go_wp2_with fail
    refine wp_region_below (B := w.heap.size + 2) (W := (w.alloc (.cells #[.int .i64 x, .int .i64 y] 26)).alloc (.cells #[.int .i64 z, .int .i64 u] 26)) (by kernel_rfl) (by kernel_rfl) (Below.refl _ _) ?_
    refine wpQuiet_do (.agg #[.int .i64 x, .int .i64 y]) rfl (fun w' hw' => ?_) ?_
    · obtain ⟨⟨c1, c2, c3⟩, ⟨c4, c5, c6⟩, c10⟩ := boxes2 hw' (by simp)
      go_simp
    intro K hK; go_simp; refine hK _ ?_; clear hK K
    refine wpQuiet_do (.agg #[.int .i64 z, .int .i64 u]) rfl (fun w' hw' => ?_) ?_
    · obtain ⟨⟨c1, c2, c3⟩, ⟨c4, c5, c6⟩, c10⟩ := boxes2 hw' (by simp)
      go_simp
    intro K hK; go_simp; refine hK _ ?_; clear hK K
    refine wpQuiet_do (.int .i64 (both x y z u)) rfl (fun w' hw' => ?_) ?_
    · go_simp
      exact (both_any _ _ _ _ _).mono fun e w'' ⟨he, hb⟩ => ⟨he, hw'.trans (hb.mono (by have := hw'.size; simp at this; omega))⟩
    intro K hK; go_simp; refine hK _ ?_; clear hK K
    refine wpQuiet_do (.bool false) rfl (fun w' hw' => ?_) ?_
    · go_simp
    intro K hK; go_simp; refine hK _ ?_; clear hK K
    refine wpQuiet_do (.bool false) rfl (fun w' hw' => ?_) ?_
    · go_simp
    intro K hK; go_simp; refine hK _ ?_; clear hK K
    refine wpQuiet_pass rfl ?_
    intro K hK; go_simp; refine hK _ ?_; clear hK K
    refine wpQuiet_pass rfl ?_
    intro K hK; go_simp; refine hK _ ?_; clear hK K
    refine wpQuiet_pass rfl ?_
    intro K hK; go_simp; refine hK _ ?_; clear hK K
    refine wpQuiet_pass rfl ?_
    intro K hK; go_simp; refine hK _ ?_; clear hK K
    refine wpQuiet_pass rfl ?_
    intro K hK; go_simp; refine hK _ ?_; clear hK K
    refine wpQuiet_do (.bool false) rfl (fun w' hw' => ?_) ?_
    · go_simp
    intro K hK; go_simp; refine hK _ ?_; clear hK K
    refine wpQuiet_do (.bool false) rfl (fun w' hw' => ?_) ?_
    · go_simp
    intro K hK; go_simp; refine hK _ ?_; clear hK K
    refine wpQuiet_nil ?_
    intro w' hw'
    have hB : Below w.heap.size w w' := base2 hw' (by simp)
    go_wp2
    go_ret
    exact ⟨ret_bool (fits_bad h).symm, hB⟩
  · by_cases h1 : x ≤ z
    · have k1 : (min x z == x) = true := by rw [beq_iff_eq]; omega
      by_cases h2 : y ≤ u
      · have k2 : (min y u == y) = true := by rw [beq_iff_eq]; omega
        go_enter Try.func20, Try.ntmps20
        go_wp2_with fail
        refine wp_region_below (B := w.heap.size + 2) (W := (w.alloc (.cells #[.int .i64 x, .int .i64 y] 26)).alloc (.cells #[.int .i64 z, .int .i64 u] 26)) (by kernel_rfl) (by kernel_rfl) (Below.refl _ _) ?_
        refine wpQuiet_do (.agg #[.int .i64 x, .int .i64 y]) rfl (fun w' hw' => ?_) ?_
        · obtain ⟨⟨c1, c2, c3⟩, ⟨c4, c5, c6⟩, c10⟩ := boxes2 hw' (by simp)
          go_simp
        intro K hK; go_simp; refine hK _ ?_; clear hK K
        refine wpQuiet_do (.agg #[.int .i64 z, .int .i64 u]) rfl (fun w' hw' => ?_) ?_
        · obtain ⟨⟨c1, c2, c3⟩, ⟨c4, c5, c6⟩, c10⟩ := boxes2 hw' (by simp)
          go_simp
        intro K hK; go_simp; refine hK _ ?_; clear hK K
        refine wpQuiet_do (.int .i64 (both x y z u)) rfl (fun w' hw' => ?_) ?_
        · go_simp
          exact (both_any _ _ _ _ _).mono fun e w'' ⟨he, hb⟩ => ⟨he, hw'.trans (hb.mono (by have := hw'.size; simp at this; omega))⟩
        intro K hK; go_simp; refine hK _ ?_; clear hK K
        refine wpQuiet_do (.bool true) rfl (fun w' hw' => ?_) ?_
        · go_simp
        intro K hK; go_simp; refine hK _ ?_; clear hK K
        refine wpQuiet_do (.bool true) rfl (fun w' hw' => ?_) ?_
        · go_simp
        intro K hK; go_simp; refine hK _ ?_; clear hK K
        refine wpQuiet_do (.agg #[.int .i64 x, .int .i64 y]) rfl (fun w' hw' => ?_) ?_
        · obtain ⟨⟨c1, c2, c3⟩, ⟨c4, c5, c6⟩, c10⟩ := boxes2 hw' (by simp)
          go_simp
        intro K hK; go_simp; refine hK _ ?_; clear hK K
        refine wpQuiet_do (.agg #[.int .i64 z, .int .i64 u]) rfl (fun w' hw' => ?_) ?_
        · obtain ⟨⟨c1, c2, c3⟩, ⟨c4, c5, c6⟩, c10⟩ := boxes2 hw' (by simp)
          go_simp
        intro K hK; go_simp; refine hK _ ?_; clear hK K
        refine wpQuiet_do (.agg #[.int .i64 (min x z), .int .i64 (min y u)]) rfl (fun w' hw' => ?_) ?_
        · go_simp
          exact (least_any _ _ _ _ _).mono fun e w'' ⟨he, hb⟩ => ⟨he, hw'.trans (hb.mono (by have := hw'.size; simp at this; omega))⟩
        intro K hK; go_simp; refine hK _ ?_; clear hK K
        refine wpQuiet_do (.agg #[.int .i64 x, .int .i64 y]) rfl (fun w' hw' => ?_) ?_
        · obtain ⟨⟨c1, c2, c3⟩, ⟨c4, c5, c6⟩, c10⟩ := boxes2 hw' (by simp)
          go_simp
        intro K hK; go_simp; refine hK _ ?_; clear hK K
        refine wpQuiet_do (.bool true) rfl (fun w' hw' => ?_) ?_
        · go_simp
        intro K hK; go_simp; refine hK _ ?_; clear hK K
        refine wpQuiet_do (.bool true) rfl (fun w' hw' => ?_) ?_
        · go_simp
        intro K hK; go_simp; refine hK _ ?_; clear hK K
        refine wpQuiet_do (.bool true) rfl (fun w' hw' => ?_) ?_
        · go_simp
        intro K hK; go_simp; refine hK _ ?_; clear hK K
        refine wpQuiet_nil ?_
        intro w' hw'
        have hB : Below w.heap.size w w' := base2 hw' (by simp)
        go_wp2
        go_ret
        exact ⟨ret_bool (fits_yes h ⟨h1, h2⟩).symm, hB⟩
      · have k2 : (min y u == y) = false := by rw [beq_eq_false_iff_ne]; omega
        go_enter Try.func20, Try.ntmps20
        go_wp2_with fail
        refine wp_region_below (B := w.heap.size + 2) (W := (w.alloc (.cells #[.int .i64 x, .int .i64 y] 26)).alloc (.cells #[.int .i64 z, .int .i64 u] 26)) (by kernel_rfl) (by kernel_rfl) (Below.refl _ _) ?_
        refine wpQuiet_do (.agg #[.int .i64 x, .int .i64 y]) rfl (fun w' hw' => ?_) ?_
        · obtain ⟨⟨c1, c2, c3⟩, ⟨c4, c5, c6⟩, c10⟩ := boxes2 hw' (by simp)
          go_simp
        intro K hK; go_simp; refine hK _ ?_; clear hK K
        refine wpQuiet_do (.agg #[.int .i64 z, .int .i64 u]) rfl (fun w' hw' => ?_) ?_
        · obtain ⟨⟨c1, c2, c3⟩, ⟨c4, c5, c6⟩, c10⟩ := boxes2 hw' (by simp)
          go_simp
        intro K hK; go_simp; refine hK _ ?_; clear hK K
        refine wpQuiet_do (.int .i64 (both x y z u)) rfl (fun w' hw' => ?_) ?_
        · go_simp
          exact (both_any _ _ _ _ _).mono fun e w'' ⟨he, hb⟩ => ⟨he, hw'.trans (hb.mono (by have := hw'.size; simp at this; omega))⟩
        intro K hK; go_simp; refine hK _ ?_; clear hK K
        refine wpQuiet_do (.bool true) rfl (fun w' hw' => ?_) ?_
        · go_simp
        intro K hK; go_simp; refine hK _ ?_; clear hK K
        refine wpQuiet_do (.bool true) rfl (fun w' hw' => ?_) ?_
        · go_simp
        intro K hK; go_simp; refine hK _ ?_; clear hK K
        refine wpQuiet_do (.agg #[.int .i64 x, .int .i64 y]) rfl (fun w' hw' => ?_) ?_
        · obtain ⟨⟨c1, c2, c3⟩, ⟨c4, c5, c6⟩, c10⟩ := boxes2 hw' (by simp)
          go_simp
        intro K hK; go_simp; refine hK _ ?_; clear hK K
        refine wpQuiet_do (.agg #[.int .i64 z, .int .i64 u]) rfl (fun w' hw' => ?_) ?_
        · obtain ⟨⟨c1, c2, c3⟩, ⟨c4, c5, c6⟩, c10⟩ := boxes2 hw' (by simp)
          go_simp
        intro K hK; go_simp; refine hK _ ?_; clear hK K
        refine wpQuiet_do (.agg #[.int .i64 (min x z), .int .i64 (min y u)]) rfl (fun w' hw' => ?_) ?_
        · go_simp
          exact (least_any _ _ _ _ _).mono fun e w'' ⟨he, hb⟩ => ⟨he, hw'.trans (hb.mono (by have := hw'.size; simp at this; omega))⟩
        intro K hK; go_simp; refine hK _ ?_; clear hK K
        refine wpQuiet_do (.agg #[.int .i64 x, .int .i64 y]) rfl (fun w' hw' => ?_) ?_
        · obtain ⟨⟨c1, c2, c3⟩, ⟨c4, c5, c6⟩, c10⟩ := boxes2 hw' (by simp)
          go_simp
        intro K hK; go_simp; refine hK _ ?_; clear hK K
        refine wpQuiet_do (.bool false) rfl (fun w' hw' => ?_) ?_
        · go_simp
        intro K hK; go_simp; refine hK _ ?_; clear hK K
        refine wpQuiet_do (.bool false) rfl (fun w' hw' => ?_) ?_
        · go_simp
        intro K hK; go_simp; refine hK _ ?_; clear hK K
        refine wpQuiet_do (.bool false) rfl (fun w' hw' => ?_) ?_
        · go_simp
        intro K hK; go_simp; refine hK _ ?_; clear hK K
        refine wpQuiet_nil ?_
        intro w' hw'
        have hB : Below w.heap.size w w' := base2 hw' (by simp)
        go_wp2
        go_ret
        exact ⟨ret_bool (fits_no (by omega)).symm, hB⟩
    · have k1 : (min x z == x) = false := by rw [beq_eq_false_iff_ne]; omega
      go_enter Try.func20, Try.ntmps20
      go_wp2_with fail
      refine wp_region_below (B := w.heap.size + 2) (W := (w.alloc (.cells #[.int .i64 x, .int .i64 y] 26)).alloc (.cells #[.int .i64 z, .int .i64 u] 26)) (by kernel_rfl) (by kernel_rfl) (Below.refl _ _) ?_
      refine wpQuiet_do (.agg #[.int .i64 x, .int .i64 y]) rfl (fun w' hw' => ?_) ?_
      · obtain ⟨⟨c1, c2, c3⟩, ⟨c4, c5, c6⟩, c10⟩ := boxes2 hw' (by simp)
        go_simp
      intro K hK; go_simp; refine hK _ ?_; clear hK K
      refine wpQuiet_do (.agg #[.int .i64 z, .int .i64 u]) rfl (fun w' hw' => ?_) ?_
      · obtain ⟨⟨c1, c2, c3⟩, ⟨c4, c5, c6⟩, c10⟩ := boxes2 hw' (by simp)
        go_simp
      intro K hK; go_simp; refine hK _ ?_; clear hK K
      refine wpQuiet_do (.int .i64 (both x y z u)) rfl (fun w' hw' => ?_) ?_
      · go_simp
        exact (both_any _ _ _ _ _).mono fun e w'' ⟨he, hb⟩ => ⟨he, hw'.trans (hb.mono (by have := hw'.size; simp at this; omega))⟩
      intro K hK; go_simp; refine hK _ ?_; clear hK K
      refine wpQuiet_do (.bool true) rfl (fun w' hw' => ?_) ?_
      · go_simp
      intro K hK; go_simp; refine hK _ ?_; clear hK K
      refine wpQuiet_do (.bool true) rfl (fun w' hw' => ?_) ?_
      · go_simp
      intro K hK; go_simp; refine hK _ ?_; clear hK K
      refine wpQuiet_do (.agg #[.int .i64 x, .int .i64 y]) rfl (fun w' hw' => ?_) ?_
      · obtain ⟨⟨c1, c2, c3⟩, ⟨c4, c5, c6⟩, c10⟩ := boxes2 hw' (by simp)
        go_simp
      intro K hK; go_simp; refine hK _ ?_; clear hK K
      refine wpQuiet_do (.agg #[.int .i64 z, .int .i64 u]) rfl (fun w' hw' => ?_) ?_
      · obtain ⟨⟨c1, c2, c3⟩, ⟨c4, c5, c6⟩, c10⟩ := boxes2 hw' (by simp)
        go_simp
      intro K hK; go_simp; refine hK _ ?_; clear hK K
      refine wpQuiet_do (.agg #[.int .i64 (min x z), .int .i64 (min y u)]) rfl (fun w' hw' => ?_) ?_
      · go_simp
        exact (least_any _ _ _ _ _).mono fun e w'' ⟨he, hb⟩ => ⟨he, hw'.trans (hb.mono (by have := hw'.size; simp at this; omega))⟩
      intro K hK; go_simp; refine hK _ ?_; clear hK K
      refine wpQuiet_do (.agg #[.int .i64 x, .int .i64 y]) rfl (fun w' hw' => ?_) ?_
      · obtain ⟨⟨c1, c2, c3⟩, ⟨c4, c5, c6⟩, c10⟩ := boxes2 hw' (by simp)
        go_simp
      intro K hK; go_simp; refine hK _ ?_; clear hK K
      refine wpQuiet_do (.bool false) rfl (fun w' hw' => ?_) ?_
      · go_simp
      intro K hK; go_simp; refine hK _ ?_; clear hK K
      refine wpQuiet_do (.bool false) rfl (fun w' hw' => ?_) ?_
      · go_simp
      intro K hK; go_simp; refine hK _ ?_; clear hK K
      refine wpQuiet_do (.bool false) rfl (fun w' hw' => ?_) ?_
      · go_simp
      intro K hK; go_simp; refine hK _ ?_; clear hK K
      refine wpQuiet_nil ?_
      intro w' hw'
      have hB : Below w.heap.size w w' := base2 hw' (by simp)
      go_wp2
      go_ret
      exact ⟨ret_bool (fits_no (by omega)).symm, hB⟩

end Go.Proofs.Ytnaphpgbmjpicaa
