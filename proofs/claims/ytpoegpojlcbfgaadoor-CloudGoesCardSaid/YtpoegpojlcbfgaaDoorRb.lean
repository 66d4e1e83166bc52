/- The reference's New, named, SetDelay, Take, Notify. -/
import Derived.Test.YtpoegpojlcbfgaaDoorRa
import Derived.Test.YtpoegpojlcbfgaaDoorR2
namespace Go.Proofs.YtpoegpojlcbfgaaDoor
open Go.RowKit
attribute [local go_sem] RegRel.relUpon RegRel.opOk

section
variable {w w' : World} {e : TypeId} {size n : Nat} {o : Option Nat} {v : Value} {xs : List Value}
/-- The same row, with no room behind it. -/
theorem Rowed.cut {a : Option Addr} {cap : Nat} (h : Rowed w e size o (.slice a n cap) n xs) : Rowed w e size o (.slice a n n) n xs := by
  refine ⟨h.1, h.2.imp ?_ ?_⟩
  · rintro ⟨⟨a', e⟩, rfl, rfl⟩
    cases e
    exact ⟨⟨_, rfl⟩, rfl, rfl⟩
  · rintro ⟨g, off, cap', cur, rfl, e, hh, hn, hm, hs, hx⟩
    cases e
    exact ⟨g, off, n, cur, rfl, rfl, hh, Nat.le_refl _, Nat.le_trans hn hm, Nat.le_trans (Nat.add_le_add_left (Nat.mul_le_mul_right _ hn) _) hs, hx⟩
theorem noRow {B : Nat} : ∀ r, (none : Option Nat) = some r → r < B := fun _ h => by cases h
theorem grown_of {w w' : World} {o : Option Nat} (h : Below w.heap.size w w') : w.grownBy w' o := ⟨h.os, h.tape, h.output, h.size, fun k hk _ => h.block k hk⟩
theorem below_of (h : w.grownBy w' none) : Below w.heap.size w w' := ⟨h.os, h.tape, h.output, h.size, fun k hk => h.block k hk (fun e => by cases e)⟩
/-- An append onto a row with no room: a new block. -/
theorem run_append_full {P : Program} (w : World) (t ty e : TypeId) (i : TypeInfo) (z : Value) (size bytes : Nat) (ht : P.underlying t = some (.slice e)) (hi : P.info? e = some i) (hz : i.zero = some z)
    (hsize : i.size = size) (hby : i.bytes = bytes) (hzs : z.cells.size = size)
    (o : Option Nat) (a0 : Option Addr) (n : Nat) (xs : List Value) (hown : Rowed w e size o (.slice a0 n n) n xs)
    (a : Addr) (m c : Nat) (news : List Value) (hl : news.length = m * size) (hnews : ∀ j u, news[j]? = some u → w.cell? (a.add j) = some u) (h1 : ∀ u ∈ news, u.oneCell' = true) (hm0 : 0 < m)
    (h63 : n + m ≤ maxLen) (hbytes : (n + m) * bytes ≤ 140737488355328) :
    ∃ v' w' o', (Builtin.append_ #[t, t] ty #[.slice a0 n n, .slice (some a) m c]).run P w = .ok v' w' ∧ Rowed w' e size o' v' (n + m) (xs ++ news) ∧ Below w.heap.size w w' ∧ Fresh w w' o o' ∧ True := by
  rcases hown.2 with ⟨⟨a1, e1⟩, rfl, rfl⟩ | ⟨g, off, cap, cur, rfl, e1, hg, hnc, hcm, hcs, htake⟩
  · obtain ⟨v', w', o', hr, h2, h3, h4, -⟩ := run_append_rowed (P := P) w t ty e i z size bytes ht hi hz hsize hby hzs none (.slice a0 0 0) 0 xs hown a m c news hl hnews h1 hm0 h63 hbytes
    exact ⟨v', w', o', hr, h2, below_of h3, h4, trivial⟩
  · cases e1
    subst hsize
    subst hby
    have hsmall : n + m ≤ 9223372036854775807 := by simp only [maxLen] at h63; omega
    have hlen : (xs ++ news).length = (n + m) * i.size := by rw [List.length_append, hown.1, hl, Nat.add_mul]
    have hge := grownCap_ge w (n + m) n e
    have hcm' : grownCap w (n + m) n e ≤ maxLen := grownCap_le_maxLen w (n + m) n e h63
    have hr := run_append_grow (P := P) w t ty e i z ht hi hz ⟨g, off, none⟩ n n xs hown.1 hown.news a m c news hl hnews (by omega) (by omega) (growslice_fits (by omega) hbytes)
    refine ⟨_, _, some w.heap.size, hr, ⟨hlen, .inr ⟨w.heap.size, 0, _, _, rfl, rfl, heap_alloc_new w.drew _, hge, hcm', ?_, ?_⟩⟩, ⟨rfl, rfl, rfl, by simp, fun k hk => Below.heap_alloc w.drew _ k hk⟩, .inr ⟨_, rfl, Nat.le_refl _, by simp⟩, trivial⟩
    · simp only [Array.size_append, List.size_toArray, size_zeroCells, hzs, hown.1, hl, ← Nat.add_mul, Nat.zero_add]
      exact Nat.mul_le_mul_right _ (by omega)
    · simp only [Array.toList_append, List.append_assoc, List.drop_zero]
      rw [← List.append_assoc, ← hlen]
      exact List.take_left
end

set_option maxRecDepth 100000 in
theorem rnamed_any (o : Of) (w : World) :
    Calls Tryd.prog 33 #[o.val] w fun e w' => e = .returned (.bool (namedB o)) ∧ Below w.heap.size w w' := by
  obtain ⟨t, z, k⟩ := o
  show Calls Tryd.prog 33 #[.agg #[.string t, .string z, .string k]] w _
  have hB : ∀ o : Obj, Below w.heap.size w (w.alloc o) := fun o => below_new w o
  rcases h1 : t.toList.isEmpty with _ | _
  · have l1 : ¬ t.toList = [] := fun e => by rw [e] at h1; cases h1
    rcases h2 : z.toList.isEmpty with _ | _
    · have l2 : ¬ z.toList = [] := fun e => by rw [e] at h2; cases h2
      rcases h3 : k.toList.isEmpty with _ | _
      · have l3 : ¬ k.toList = [] := fun e => by rw [e] at h3; cases h3
        have e1 : namedB ⟨t, z, k⟩ = true := by simp [namedB, emp, h1, h2, h3]
        rw [e1]
        clear e1
        go_enter Tryd.func33, Tryd.ntmps33
        go_wp2_with fail
        go_ret
        exact ⟨rfl, hB _⟩
      · have l3 : k.toList = [] := by simpa using h3
        have e1 : namedB ⟨t, z, k⟩ = false := by simp [namedB, emp, h3]
        rw [e1]
        clear e1
        go_enter Tryd.func33, Tryd.ntmps33
        go_wp2_with fail
        go_ret
        exact ⟨rfl, hB _⟩
    · have l2 : z.toList = [] := by simpa using h2
      have e1 : namedB ⟨t, z, k⟩ = false := by simp [namedB, emp, h2]
      rw [e1]
      clear e1
      go_enter Tryd.func33, Tryd.ntmps33
      go_wp2_with fail
      go_ret
      exact ⟨rfl, hB _⟩
  · have l1 : t.toList = [] := by simpa using h1
    have e1 : namedB ⟨t, z, k⟩ = false := by simp [namedB, emp, h1]
    rw [e1]
    clear e1
    go_enter Tryd.func33, Tryd.ntmps33
    go_wp2_with fail
    go_ret
    exact ⟨rfl, hB _⟩

set_option maxRecDepth 100000 in
theorem rnew_any (w : World) :
    Calls Tryd.prog 17 #[] w fun e w' => ∃ p F, e = .returned (.pointer (some ⟨p, 0, none⟩)) ∧ Rown w' p Cd.new F ∧ Step [] F w w' := by
  go_enter Tryd.func17, Tryd.ntmps17
  go_wp2_with fail
  go_ret
  refine ⟨w.heap.size, rfoot w.heap.size none none none, rfl, ⟨none, none, none, _, _, _, ⟨?_, Rowed.nil _ _ _, Rowed.nil _ _ _, Rowed.nil _ _ _⟩, rfl⟩, ?_⟩
  · show (w.heap.push _)[w.heap.size]? = _
    simp [Cd.new]
  · refine ⟨rfl, rfl, rfl, by simp, fun k hk _ => Below.heap_alloc _ _ _ hk, fun k hk => .inr ?_⟩
    rcases mem_rfoot.1 hk with rfl | e | e | e
    · exact Nat.le_refl _
    · cases e
    · cases e
    · cases e
set_option maxRecDepth 100000 in
theorem rdelay_any (c : Cd) (p : Nat) (F : List Nat) (w : World) (n : Int) (h : Rown w p c F) :
    Calls Tryd.prog 23 #[.pointer (some ⟨p, 0, none⟩), .int .i64 n] w fun e w' => e = .returned (.int .i64 (delayE n)) ∧ Rown w' p (c.delay n) F ∧ Step F F w w' := by
  by_cases hn : n < 0 ∨ 1073741824 < n
  · have e1 : delayE n = 1 := by unfold delayE; rw [if_pos hn]
    have e2 : c.delay n = c := by unfold Cd.delay; rw [if_pos hn]
    rw [e1, e2]
    clear e1 e2
    by_cases h1 : n < 0
    · go_enter Tryd.func23, Tryd.ntmps23
      go_wp2_with fail
      go_ret
      exact ⟨rfl, h, Step.of_below (Below.refl _ _)⟩
    · have h2 : 1073741824 < n := by omega
      go_enter Tryd.func23, Tryd.ntmps23
      go_wp2_with fail
      go_ret
      exact ⟨rfl, h, Step.of_below (Below.refl _ _)⟩
  · have e1 : delayE n = 0 := by unfold delayE; rw [if_neg hn]
    have e2 : c.delay n = { c with dl := n } := by unfold Cd.delay; rw [if_neg hn]
    rw [e1, e2]
    clear e1 e2
    have h1 : ¬ n < 0 := by omega
    have h2 : ¬ 1073741824 < n := by omega
    obtain ⟨oi, os, on, vi, vs, vn, h, rfl⟩ := h
    have H := Lib.hid h
    have f3 := h.free 2
    obtain ⟨c0, c1, c2, c3, c4⟩ := h.cells
    clear h
    go_enter Tryd.func23, Tryd.ntmps23
    go_wp2_with fail
    go_ret
    exact ⟨rfl, ⟨oi, os, on, vi, vs, vn, H.out.set_dl n, rfl⟩, step_set w _ (mem_rfoot.2 (.inl rfl))⟩

set_option maxRecDepth 100000 in
theorem rtake_any (c : Cd) (p : Nat) (F : List Nat) (w : World) (h : Rown w p c F) :
    Calls Tryd.prog 20 #[.pointer (some ⟨p, 0, none⟩)] w fun e w' => e = .returned (.tuple #[.string (takeE c).1, .int .i64 (takeE c).2]) ∧ Rown w' p c.take F ∧ Step F F w w' := by
  obtain ⟨oi, os, on, vi, vs, vn, h, rfl⟩ := h
  have H := Lib.hid h
  have f3 := h.free 3
  have f5 := h.free 4 
  obtain ⟨c0, c1, c2, c4, c5⟩ := h.cells
  have hmax : c.ns.length ≤ 9223372036854775807 := by have := h.ns.max; unfold maxLen at this; omega
  rcases hns : c.ns with _ | ⟨id, r⟩
  · have e1 : takeE c = (⟨#[]⟩, 5) := by unfold takeE; rw [hns]
    have e2 : c.take = c := by unfold Cd.take; rw [hns]
    obtain ⟨a, cap, rfl, -⟩ := h.ns.shape
    rw [e1, e2]
    clear e1 e2 h
    have hl : c.ns.length = 0 := by rw [hns]; rfl
    rw [hl] at c4
    clear hns hl
    go_enter Tryd.func20, Tryd.ntmps20
    go_wp2_with fail
    go_ret2
    exact ⟨rfl, ⟨oi, os, on, vi, vs, _, H.out, rfl⟩, step_refl _ _⟩
  · have e1 : takeE c = (id, 0) := by unfold takeE; rw [hns]
    have e2 : c.take = { c with ns := r, n := wrap64 (c.n + 1) } := by unfold Cd.take; rw [hns]
    have hr := h.ns
    rw [hns] at hr
    obtain ⟨a, cap, rfl, hle, h0, hs⟩ := hr.shape
    rw [List.length_cons] at hle h0 hs c4
    obtain ⟨ad, rfl⟩ : ∃ ad, a = some ad := by
      cases a with
      | none => have := (h0 rfl).1; omega
      | some ad => exact ⟨ad, rfl⟩
    obtain ⟨g, off, hon, rfl, hg, hc, -⟩ := hs ad rfl (by omega)
    have c6 : w.cell? ⟨g, off, none⟩ = some (.string id) := by
      have := hc 0 (by omega)
      simpa [strs] using this
    have ht := Rowed.tail hr
    rw [e1, e2]
    rw [hns] at hmax
    rw [List.length_cons] at hmax
    obtain ⟨q1, q2⟩ := h.set_ns (grown_refl w on) (ns := r) (by simpa [strs] using ht) (.inl rfl)
    clear e1 e2 h hr h0 hs hc ht hns H hon
    by_cases hc1 : cap = 1
    · subst hc1
      obtain rfl : r = [] := List.eq_nil_of_length_eq_zero (by omega)
      rw [if_pos rfl] at q1 q2
      have Q1 := Lib.hid q1
      have Q2 := Lib.hid q2
      clear q1 q2
      go_enter Tryd.func20, Tryd.ntmps20
      go_wp2_with fail
      go_ret2
      exact ⟨rfl, ⟨oi, os, _, vi, vs, _, Q1.out.set_n _, rfl⟩, Q2.out.trans (step_set _ _ (mem_rfoot.2 (.inl rfl)))⟩
    · rw [if_neg hc1] at q1 q2
      have Q1 := Lib.hid q1
      have Q2 := Lib.hid q2
      clear q1 q2
      go_enter Tryd.func20, Tryd.ntmps20
      go_wp2_with fail
      go_ret2
      exact ⟨rfl, ⟨oi, os, _, vi, vs, _, Q1.out.set_n _, rfl⟩, Q2.out.trans (step_set _ _ (mem_rfoot.2 (.inl rfl)))⟩
set_option maxRecDepth 100000 in
theorem rnotify_any (c : Cd) (p : Nat) (F : List Nat) (w : World) (s : ByteArray) (hs : s.size ≤ 9223372036854775807) (h : Rown w p c F) :
    Calls Tryd.prog 24 #[.pointer (some ⟨p, 0, none⟩), .string s] w fun e w' => e = .returned (.int .i64 (notifyE c s)) ∧ ∃ F', Rown w' p (c.notify s) F' ∧ Step F F' w w' := by
  by_cases h1 : s.size = 0 ∨ 16 < s.size
  · have e1 : notifyE c s = 1 := by unfold notifyE; rw [if_pos h1]
    have e2 : c.notify s = c := by unfold Cd.notify; rw [if_pos h1]
    rw [e1, e2]
    clear e1 e2
    rcases he : s.toList.isEmpty with _ | _
    · have h3 : 16 < s.size := by
        rcases h1 with h1 | h1
        · rw [emp_iff.2 h1] at he; cases he
        · exact h1
      have hl : ¬ s.toList = [] := fun e => by rw [e] at he; cases he
      clear h1
      go_enter Tryd.func24, Tryd.ntmps24
      go_wp2_with fail
      go_ret
      exact ⟨rfl, F, h, step_refl _ _⟩
    · have hl : s.toList = [] := by simpa using he
      clear h1
      go_enter Tryd.func24, Tryd.ntmps24
      go_wp2_with fail
      go_ret
      exact ⟨rfl, F, h, step_refl _ _⟩
  · have he : s.toList.isEmpty = false := by rw [← Bool.not_eq_true, emp_iff]; omega
    have hl : ¬ s.toList = [] := fun e => by rw [e] at he; cases he
    have h3 : ¬ 16 < s.size := by omega
    obtain ⟨oi, os, on, vi, vs, vn, h, rfl⟩ := h
    have hmax : c.ns.length ≤ 9223372036854775807 := by
      obtain ⟨a, cap, hv, hle, _⟩ := h.ns.shape
      have := h.ns.max; unfold maxLen at this; omega
    obtain ⟨a, cap, rfl, _⟩ := h.ns.shape
    have H := Lib.hid h
    have f4 := h.free 3
    obtain ⟨c0, c1, c2, c4, c5⟩ := h.cells
    clear h
    by_cases h2 : 32 ≤ c.ns.length
    · have e1 : notifyE c s = 3 := by unfold notifyE; rw [if_neg h1, if_pos h2]
      have e2 : c.notify s = c := by unfold Cd.notify; rw [if_neg h1, if_pos h2]
      rw [e1, e2]
      clear e1 e2 h1
      go_enter Tryd.func24, Tryd.ntmps24
      go_wp2_with fail
      go_ret
      exact ⟨rfl, _, ⟨oi, os, on, vi, vs, _, H.out, rfl⟩, step_refl _ _⟩
    · have e1 : notifyE c s = 0 := by unfold notifyE; rw [if_neg h1, if_neg h2]
      have e2 : c.notify s = { c with ns := c.ns ++ [s] } := by unfold Cd.notify; rw [if_neg h1, if_neg h2]
      rw [e1, e2]
      clear e1 e2 h1
      obtain ⟨i0, hi, hz0, hz1, hz2⟩ := info_parts info9
      have HI := Lib.hid hi
      have HZ0 := Lib.hid hz0
      have HZ1 := Lib.hid hz1
      have HZ2 := Lib.hid hz2
      clear hi hz0 hz1 hz2
      have HRW := Lib.hid H.out.ns
      have hoi' : ∀ r, on = some r → r < w.heap.size := fun r hr => H.out.lt (mem_rfoot.2 (.inr (.inr (.inr hr))))
      have hp : p < w.heap.size := H.out.lt (mem_rfoot.2 (.inl rfl))
      have hpn : some p ≠ on := fun e => (H.out.ne_n e.symm).1 rfl
      go_enter Tryd.func24, Tryd.ntmps24
      go_wp2_with fail
      refine RegRel.wp_region_grow 19 18 none (fun w' => Rowed w' 9 1 on (.slice a c.ns.length cap) c.ns.length (strs c.ns)) (by kernel_rfl) (by kernel_rfl)
        [RegRel.is (.pointer (some ⟨p, 0, none⟩)), RegRel.is (.pointer (some ⟨p, 0, none⟩)), RegRel.is (.pointer (some ⟨p, 0, none⟩)), RegRel.is (.pointer (some ⟨p, 3, none⟩)), RegRel.is (.slice a c.ns.length cap), RegRel.is (.pointer (some ⟨p, 0, none⟩)), RegRel.is (.pointer (some ⟨p, 0, none⟩)), RegRel.is (.pointer (some ⟨p, 3, none⟩)), RegRel.is (.slice a c.ns.length cap), RegRel.is (.int .i64 c.ns.length), RegRel.is (.pointer (some ⟨p, 0, none⟩)), RegRel.is (.pointer (some ⟨p, 0, none⟩)), RegRel.is (.pointer (some ⟨p, 3, none⟩)), RegRel.is (.slice a c.ns.length cap), RegRel.is (.int .i64 c.ns.length), RegRel.is (.slice a c.ns.length c.ns.length), RegRel.is (.string s), ⟨none, fun v _ w' => ∃ g, v = .slice (some ⟨g, 0, none⟩) 1 1 ∧ w.heap.size ≤ g ∧ g < w'.heap.size ∧ ∀ j u, ([.string s] : List Value)[j]? = some u → w'.cell? ⟨g, j, none⟩ = some u⟩,
         ⟨none, fun v _ w' => ∃ o' a' cap', v = .slice a' (c.ns.length + 1) cap' ∧ Rowed w' 9 1 o' v (c.ns.length + 1) ((strs c.ns) ++ [.string s]) ∧ (o' = on ∨ ∃ g, o' = some g ∧ w.heap.size ≤ g)⟩]
        rfl ?hst rfl HRW.out (fun _ h => h) (fun _ _ h hb => h.below hb) ?_ ?_
      case hst =>
        intro j e hj
        rcases j with _ | _ | _ | _ | _ | _ | _ | _ | _ | _ | _ | _ | _ | _ | _ | _ | _ | _ | _ | j
        all_goals first | (have e1 := Option.some.inj hj; subst e1) | (simp at hj; done)
        · exact ⟨RegRel.stable_is _, .inr (RegRel.toughG_is _ _ _)⟩
        · exact ⟨RegRel.stable_is _, .inr (RegRel.toughG_is _ _ _)⟩
        · exact ⟨RegRel.stable_is _, .inr (RegRel.toughG_is _ _ _)⟩
        · exact ⟨RegRel.stable_is _, .inr (RegRel.toughG_is _ _ _)⟩
        · exact ⟨RegRel.stable_is _, .inr (RegRel.toughG_is _ _ _)⟩
        · exact ⟨RegRel.stable_is _, .inr (RegRel.toughG_is _ _ _)⟩
        · exact ⟨RegRel.stable_is _, .inr (RegRel.toughG_is _ _ _)⟩
        · exact ⟨RegRel.stable_is _, .inr (RegRel.toughG_is _ _ _)⟩
        · exact ⟨RegRel.stable_is _, .inr (RegRel.toughG_is _ _ _)⟩
        · exact ⟨RegRel.stable_is _, .inr (RegRel.toughG_is _ _ _)⟩
        · exact ⟨RegRel.stable_is _, .inr (RegRel.toughG_is _ _ _)⟩
        · exact ⟨RegRel.stable_is _, .inr (RegRel.toughG_is _ _ _)⟩
        · exact ⟨RegRel.stable_is _, .inr (RegRel.toughG_is _ _ _)⟩
        · exact ⟨RegRel.stable_is _, .inr (RegRel.toughG_is _ _ _)⟩
        · exact ⟨RegRel.stable_is _, .inr (RegRel.toughG_is _ _ _)⟩
        · exact ⟨RegRel.stable_is _, .inr (RegRel.toughG_is _ _ _)⟩
        · exact ⟨RegRel.stable_is _, .inr (RegRel.toughG_is _ _ _)⟩
        · refine ⟨?_, .inr ?_⟩
          · rintro v v' w1 w2 hb ⟨g, rfl, h1, h2, h3⟩
            exact ⟨g, rfl, h1, Nat.lt_of_lt_of_le h2 hb.size, fun j u hj => (hb.cell (p := ⟨g, j, none⟩) h2).trans (h3 j u hj)⟩
          · rintro v v' w1 w2 _ hg ⟨g, rfl, h1, h2, h3⟩
            exact ⟨g, rfl, h1, Nat.lt_of_lt_of_le h2 hg.size, fun j u hj => hg.cell (h3 j u hj) (fun e => by have := (noRow (B := 0)) g e.symm; omega)⟩
        · refine ⟨?_, .inl rfl⟩
          rintro v v' w1 w2 hb ⟨o', a', cap', rfl, h1, h2⟩
          exact ⟨o', a', cap', rfl, h1.below hb, h2⟩
      · simp only [List.take_succ_cons, List.take_zero, RegRel.OpsOk, RegRel.puts]
        refine ⟨?_, ?_, ?_, ?_, ?_, ?_, ?_, ?_, ?_, ?_, ?_, ?_, ?_, ?_, ?_, ?_, ?_, ?_, ?_, trivial⟩
        rotate_left 18
        · intro u w' hC hD
          simp [RegRel.DepsOk, Region.binds, RegRel.ent, RegRel.is] at hD
          obtain ⟨d4, g, d6, i1, i2, i3⟩ := hD
          obtain ⟨v', wA, o', hr, hrow, hgr, hfr, hold⟩ := run_append_full (P := Tryd.prog) w' 26 26 9 i0 _ 1 16 Tryd.underlying26 HI.out HZ0.out HZ1.out HZ2.out rfl on a c.ns.length _ hC.2.cut ⟨g, 0, none⟩ 1 1 [.string s] rfl (fun j u hj => by rw [Addr.add_lit, Nat.zero_add]; exact i3 j u hj) (by simp [Value.oneCell']) (by decide) (by unfold maxLen; omega) (by omega)
          obtain ⟨a', cap', rfl, -⟩ := hrow.shape
          have hW : w.heap.size ≤ w'.heap.size := hC.1.size
          have hfr' : o' = on ∨ ∃ g, o' = some g ∧ w.heap.size ≤ g := by
            rcases hfr with e | ⟨g', e, h1, _⟩
            · exact .inl e
            · exact .inr ⟨g', e, by omega⟩
          have hk2 : Rowed wA 9 1 on (.slice a c.ns.length cap) c.ns.length (strs c.ns) := hC.2.below hgr
          unfold RegRel.opOk
          rw [if_pos (by simp [Region.wanted])]
          unfold execOp
          simp [resolve, invoke, builtin, d4, d6, hr, Act.eval, Act.put, RegRel.relUpon, Result.andThen, RegRel.ent, RegRel.growSt, RegRel.upd]
          exact ⟨⟨o', hrow, hfr'⟩, grown_of hgr, hk2⟩
        all_goals
          intro u w' hC hD
          try simp [RegRel.DepsOk, Region.binds, RegRel.ent, RegRel.is] at hD
          have e1 : w'.cell? ⟨p, 3, none⟩ = _ := (World.cell?_of_block (a := ⟨p, 3, none⟩) (hC.1.block p hp (by simp))).trans c4
          go_simp
        all_goals (try simp [RegRel.ent, RegRel.is, RegRel.growSt, RegRel.upd, Below.refl])
        · have h : w.heap.size ≤ w'.heap.size := hC.1.size
          exact ⟨by omega, below_new _ _⟩
      · intro u w6 hC hv
        simp only [List.take_succ_cons, List.take_zero, List.drop_succ_cons, List.drop_zero, RegRel.puts]
        simp [RegRel.allV, RegRel.is] at hv
        obtain ⟨g0, g1, g2, g3, g4, g5, g6, g7, g8, g9, g10, g11, g12, g13, g14, g15, g16, g17, ⟨⟨a', cap', g18⟩, o', hr, hfr⟩⟩ := hv
        rw [g18] at hr
        have hb6 : Below w.heap.size w w6 := ⟨hC.1.os, hC.1.tape, hC.1.output, hC.1.size, fun k hk => hC.1.block k hk (by simp)⟩
        have hf : Fresh w w6 on o' := by
          rcases hfr with e | ⟨g, e, h1⟩
          · exact .inl e
          · exact .inr ⟨g, e, h1, hr.lt e⟩
        have hr' : Rowed w6 9 1 o' (.slice a' (c.ns.length + 1) cap') (c.ns ++ [s]).length (strs (c.ns ++ [s])) := by
          simp only [strs, List.map_append, List.length_append, List.map_cons, List.map_nil, List.length_cons, List.length_nil]
          exact hr
        obtain ⟨q1, q2⟩ := H.out.set_ns (grown_of hb6) hr' hf
        have Q1 := Lib.hid q1
        have Q2 := Lib.hid q2
        have f5 : w6.frozen? ⟨p, 3, none⟩ = false := (World.frozen?_of_block (a := ⟨p, 3, none⟩) (hb6.block p hp)).trans f4
        have f6 : w6.cell? ⟨p, 3, none⟩ = some (.slice a c.ns.length cap) := (World.cell?_of_block (a := ⟨p, 3, none⟩) (hb6.block p hp)).trans c4
        clear q1 q2 hr hr' hf hfr hb6 hC
        go_wp2_with fail
        go_ret
        exact ⟨rfl, _, ⟨oi, os, o', vi, vs, _, by first | exact Q1.out | simpa using Q1.out, rfl⟩, Q2.out⟩
end Go.Proofs.YtpoegpojlcbfgaaDoor
