/- Insts. -/
import Derived.Test.YtpoegpojlcbfgaaDoorG
namespace Go.Proofs.YtpoegpojlcbfgaaDoor
open Go.RowKit

def stAt (en : List ByteArray) (now : Int) (x : In) : Int := if has en x.id then 3 else if x.rd ≤ now then 2 else 1
def In.at (en : List ByteArray) (now : Int) (x : In) : In := { x with st := stAt en now x }
def Cd.insts (c : Cd) (now : Int) : List In := c.is.map (In.at c.en now)
theorem info41 : (Tryd.prog.info? 41).map (fun i => (i.zero, i.size, i.bytes)) = some (some (.agg #[.string .empty, .string .empty, .string .empty, .string .empty, .string .empty, .int .i64 0, .int .i64 0]), 7, 96) := by kernel_rfl
theorem take_next {α : Type} {l : List α} {k : Nat} {x : α} (h : l[k]? = some x) : l.take (k + 1) = l.take k ++ [x] := by
  obtain ⟨hlt, rfl⟩ := List.getElem?_eq_some_iff.1 h
  rw [List.take_add_one, h]; rfl

set_option maxRecDepth 100000 in
set_option maxHeartbeats 4000000 in
theorem insts_any (c : Cd) (p : Nat) (F : List Nat) (w : World) (now : Int) (h : Own w p c F) (h64 : c.is.length ≤ 64) :
    Calls Tryd.prog 12 #[.pointer (some ⟨p, 0, none⟩), .int .i64 now] w fun e w' => ∃ o v, e = .returned v ∧ Rowed w' 41 7 o v (c.insts now).length ((c.insts now).flatMap In.cells) ∧ Below w.heap.size w w' ∧ ∀ g, o = some g → w.heap.size ≤ g := by
  obtain ⟨be, bs, oi, on, vi, vn, h, rfl⟩ := h
  obtain ⟨c0, c1, c2, c3, c4, c5⟩ := h.cells
  have hp : p < w.heap.size := h.lt (mem_foot.2 (.inl rfl))
  have H := Lib.hid h
  obtain ⟨a, cap, rfl, -⟩ := h.is.shape
  clear h
  have hlen : (c.insts now).length = c.is.length := by simp [Cd.insts]
  obtain ⟨i0, hi, hz0, hz1, hz2⟩ := info_parts info41
  have HI := Lib.hid hi
  have HZ0 := Lib.hid hz0
  have HZ1 := Lib.hid hz1
  have HZ2 := Lib.hid hz2
  have HLEN := Lib.hid hlen
  clear hi hz0 hz1 hz2 hlen
  go_enter Tryd.func12, Tryd.ntmps12
  go_wp2_with fail
  go_loopw [5, 13] (fun v i wr => ∃ k : Nat, ∃ o, k ≤ c.is.length ∧ i = .int .i64 k ∧ Below w.heap.size w wr ∧ Hid (Rowed wr 41 7 o v k (((c.insts now).take k).flatMap In.cells)) ∧ Hid (∀ g, o = some g → w.heap.size ≤ g))
    (fun _ i _ => c.is.length - (intOf i).toNat)
  case atStart => exact ⟨0, none, Nat.zero_le _, rfl, Below.refl _ _, Rowed.nil _ _ _, fun _ h => by cases h⟩
  case round =>
    obtain ⟨k, o, hk, rfl, hb, HR, HG⟩ := hrel
    by_cases hlt : k < c.is.length
    · obtain ⟨x, hx⟩ : ∃ x, c.is[k]? = some x := ⟨_, List.getElem?_eq_getElem hlt⟩
      have HR2 := H.out.below hb
      obtain ⟨g, off, cap', hv, ho, hg, -, hc, -⟩ := HR2.is.elt in_len hx
      cases hv
      obtain ⟨d0, d1, d2, d3, d4, d5⟩ := HR2.cells
      have hc0 := hc 0 _ rfl
      have hc1 := hc 1 _ rfl
      have hc2 := hc 2 _ rfl
      have hc3 := hc 3 _ rfl
      have hc4 := hc 4 _ rfl
      have hc5 := hc 5 _ rfl
      have hc6 := hc 6 _ rfl
      simp only [Nat.add_zero] at hc0
      have hpr : p < wr.heap.size := HR2.lt (mem_foot.2 (.inl rfl))
      have hnext : (c.insts now).take (k + 1) = (c.insts now).take k ++ [x.at c.en now] := take_next (by simp [Cd.insts, hx])
      have hl : ∀ n, (Instr.lookup 51 (.map (some be)) (.string x.id) false).run Tryd.prog ((wr.alloc (.cells #[.string x.id, .string x.tok, .string x.o.t, .string x.o.z, .string x.o.k, .int .i64 x.st, .int .i64 x.rd] 41)).drewN n) = .ok (.bool (has c.en x.id)) ((wr.alloc (.cells #[.string x.id, .string x.tok, .string x.o.t, .string x.o.z, .string x.o.k, .int .i64 x.st, .int .i64 x.rd] 41)).drewN n) := by
        intro n
        exact look_end (w := (wr.alloc _).drewN n) (b := be) (l := c.en) (HR2.below (below_new wr _)).ends x.id
      have HN := Lib.hid hnext
      have hbn := hb.size
      clear hc hx ho HR2 hnext
      rcases he : has c.en x.id with _ | _
      · rw [he] at hl
        by_cases hrd : x.rd ≤ now
        · have hst : x.at c.en now = { x with st := 2 } := by unfold In.at stAt; rw [he, if_neg (by simp), if_pos hrd]
          have HST := Lib.hid hst
          clear hst he
          go_wp2_with fail
          go_quiet (fail)
          go_wp2_with (at_builtin; refine wpList_append_rowed rfl _ _ 35 rfl 41 i0 (.agg #[.string .empty, .string .empty, .string .empty, .string .empty, .string .empty, .int .i64 0, .int .i64 0]) 7 96 Tryd.underlying35 HI.out HZ0.out HZ1.out HZ2.out rfl o _ k _ rfl (HR.out.below ?cb) ⟨wr.heap.size + 1, 0, none⟩ 1 1 (In.cells { x with st := 2 }) rfl rfl ?c1 ?c2 (by decide) ?c3 ?c4 ?_)
          case cb => exact (((below_drewN (below_new wr _) _).setCell (by simp) _).alloc (by simp) _)
          case c1 => exact row_at _ #[_, _, _, _, _, _, _] _ (by simp)
          case c2 => simp [In.cells, Value.oneCell']
          case c3 => unfold maxLen; omega
          case c4 => omega
          intro v' w' o' hr hgr hf
          have e1 : ((c.insts now).take k).flatMap In.cells ++ In.cells { x with st := 2 } = ((c.insts now).take (k + 1)).flatMap In.cells := by rw [HN.out, HST.out]; simp
          rw [e1] at hr
          have hbw : Below w.heap.size w w' := (hb.trans ((((below_drewN (below_new wr _) _).setCell (by simp) _).alloc (by simp) _).mono hb.size)).grown hgr (by simp; omega) HG.out
          have HG' : Hid (∀ g, o' = some g → w.heap.size ≤ g) := by
            rcases hf with rfl | ⟨g', rfl, h1, _⟩
            · exact HG
            · exact fun g hg => by cases hg; simp at h1; omega
          obtain ⟨a', cap', rfl, -⟩ := hr.shape
          have HR' := Lib.hid hr
          clear hr hgr hf e1 hb HR HG hl
          go_wp2_with fail
          go_roundw
          case rel => exact ⟨k + 1, o', by omega, by go_num, hbw, HR', HG'⟩
          case measure => simp [intOf]; omega
        · have hst : x.at c.en now = { x with st := 1 } := by unfold In.at stAt; rw [he, if_neg (by simp), if_neg hrd]
          have HST := Lib.hid hst
          clear hst he
          go_wp2_with fail
          go_quiet (fail)
          go_wp2_with (at_builtin; refine wpList_append_rowed rfl _ _ 35 rfl 41 i0 (.agg #[.string .empty, .string .empty, .string .empty, .string .empty, .string .empty, .int .i64 0, .int .i64 0]) 7 96 Tryd.underlying35 HI.out HZ0.out HZ1.out HZ2.out rfl o _ k _ rfl (HR.out.below ?cb) ⟨wr.heap.size + 1, 0, none⟩ 1 1 (In.cells { x with st := 1 }) rfl rfl ?c1 ?c2 (by decide) ?c3 ?c4 ?_)
          case cb => exact (((below_drewN (below_new wr _) _).setCell (by simp) _).alloc (by simp) _)
          case c1 => exact row_at _ #[_, _, _, _, _, _, _] _ (by simp)
          case c2 => simp [In.cells, Value.oneCell']
          case c3 => unfold maxLen; omega
          case c4 => omega
          intro v' w' o' hr hgr hf
          have e1 : ((c.insts now).take k).flatMap In.cells ++ In.cells { x with st := 1 } = ((c.insts now).take (k + 1)).flatMap In.cells := by rw [HN.out, HST.out]; simp
          rw [e1] at hr
          have hbw : Below w.heap.size w w' := (hb.trans ((((below_drewN (below_new wr _) _).setCell (by simp) _).alloc (by simp) _).mono hb.size)).grown hgr (by simp; omega) HG.out
          have HG' : Hid (∀ g, o' = some g → w.heap.size ≤ g) := by
            rcases hf with rfl | ⟨g', rfl, h1, _⟩
            · exact HG
            · exact fun g hg => by cases hg; simp at h1; omega
          obtain ⟨a', cap', rfl, -⟩ := hr.shape
          have HR' := Lib.hid hr
          clear hr hgr hf e1 hb HR HG hl
          go_wp2_with fail
          go_roundw
          case rel => exact ⟨k + 1, o', by omega, by go_num, hbw, HR', HG'⟩
          case measure => simp [intOf]; omega
      · rw [he] at hl
        have hst : x.at c.en now = { x with st := 3 } := by unfold In.at stAt; rw [he]; rfl
        have HST := Lib.hid hst
        clear hst he
        go_wp2_with fail
        go_quiet (fail)
        go_wp2_with (at_builtin; refine wpList_append_rowed rfl _ _ 35 rfl 41 i0 (.agg #[.string .empty, .string .empty, .string .empty, .string .empty, .string .empty, .int .i64 0, .int .i64 0]) 7 96 Tryd.underlying35 HI.out HZ0.out HZ1.out HZ2.out rfl o _ k _ rfl (HR.out.below ?cb) ⟨wr.heap.size + 1, 0, none⟩ 1 1 (In.cells { x with st := 3 }) rfl rfl ?c1 ?c2 (by decide) ?c3 ?c4 ?_)
        case cb => exact (((below_drewN (below_new wr _) _).setCell (by simp) _).alloc (by simp) _)
        case c1 => exact row_at _ #[_, _, _, _, _, _, _] _ (by simp)
        case c2 => simp [In.cells, Value.oneCell']
        case c3 => unfold maxLen; omega
        case c4 => omega
        intro v' w' o' hr hgr hf
        have e1 : ((c.insts now).take k).flatMap In.cells ++ In.cells { x with st := 3 } = ((c.insts now).take (k + 1)).flatMap In.cells := by rw [HN.out, HST.out]; simp
        rw [e1] at hr
        have hbw : Below w.heap.size w w' := (hb.trans ((((below_drewN (below_new wr _) _).setCell (by simp) _).alloc (by simp) _).mono hb.size)).grown hgr (by simp; omega) HG.out
        have HG' : Hid (∀ g, o' = some g → w.heap.size ≤ g) := by
          rcases hf with rfl | ⟨g', rfl, h1, _⟩
          · exact HG
          · exact fun g hg => by cases hg; simp at h1; omega
        obtain ⟨a', cap', rfl, -⟩ := hr.shape
        have HR' := Lib.hid hr
        clear hr hgr hf e1 hb HR HG hl
        go_wp2_with fail
        go_roundw
        case rel => exact ⟨k + 1, o', by omega, by go_num, hbw, HR', HG'⟩
        case measure => simp [intOf]; omega
    · have hkl : k = c.is.length := by omega
      subst hkl
      have hr := HR.out
      rw [show (c.insts now).take c.is.length = c.insts now from List.take_of_length_le (by rw [HLEN.out]; omega)] at hr
      clear HR
      obtain ⟨a', cap', rfl, -⟩ := hr.shape
      have HR := Lib.hid hr
      clear hr
      go_wp2_with fail
      go_ret
      exact ⟨o, _, rfl, by rw [HLEN.out]; exact HR.out, hb, HG.out⟩
end Go.Proofs.YtpoegpojlcbfgaaDoor
