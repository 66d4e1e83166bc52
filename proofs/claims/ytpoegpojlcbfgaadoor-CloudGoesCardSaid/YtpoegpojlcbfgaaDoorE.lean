/- named, SetStock, the stocks' take. -/
import Derived.Test.YtpoegpojlcbfgaaDoorD
namespace Go.Proofs.YtpoegpojlcbfgaaDoor
open Go.RowKit

theorem assert53 (b : Nat) (w : World) : (Instr.typeAssert (.iface 53 (.map (some b))) 55 53 true).run Tryd.prog w = .ok (.tuple #[.map (some b), .bool true]) w := by kernel_rfl
attribute [local go_sem] assert53

def emp (s : ByteArray) : Bool := s.toList.isEmpty
def namedB (o : Of) : Bool := !emp o.t && (!emp o.z && !emp o.k)
set_option maxRecDepth 100000 in
theorem named_any (o : Of) (w : World) :
    Calls Tryd.prog 29 #[o.val] w fun e w' => e = .returned (.bool (namedB o)) ∧ Below w.heap.size w w' := by
  obtain ⟨t, z, k⟩ := o
  show Calls Tryd.prog 29 #[.agg #[.string t, .string z, .string k]] w _
  have hB : ∀ o : Obj, Below w.heap.size w (w.alloc o) := fun o => below_new w o
  rcases h1 : t.toList.isEmpty with _ | _
  · have l1 : ¬ t.toList = [] := fun e => by rw [e] at h1; cases h1
    rcases h2 : z.toList.isEmpty with _ | _
    · have l2 : ¬ z.toList = [] := fun e => by rw [e] at h2; cases h2
      rcases h3 : k.toList.isEmpty with _ | _
      · have l3 : ¬ k.toList = [] := fun e => by rw [e] at h3; cases h3
        have e1 : namedB ⟨t, z, k⟩ = true := by simp [namedB, emp, h1, h2, h3]
        rw [e1]
        clear e1
        go_enter Tryd.func29, Tryd.ntmps29
        go_wp2_with fail
        go_ret
        exact ⟨rfl, hB _⟩
      · have l3 : k.toList = [] := by simpa using h3
        have e1 : namedB ⟨t, z, k⟩ = false := by simp [namedB, emp, h3]
        rw [e1]
        clear e1
        go_enter Tryd.func29, Tryd.ntmps29
        go_wp2_with fail
        go_ret
        exact ⟨rfl, hB _⟩
    · have l2 : z.toList = [] := by simpa using h2
      have e1 : namedB ⟨t, z, k⟩ = false := by simp [namedB, emp, h2]
      rw [e1]
      clear e1
      go_enter Tryd.func29, Tryd.ntmps29
      go_wp2_with fail
      go_ret
      exact ⟨rfl, hB _⟩
  · have l1 : t.toList = [] := by simpa using h1
    have e1 : namedB ⟨t, z, k⟩ = false := by simp [namedB, emp, h1]
    rw [e1]
    clear e1
    go_enter Tryd.func29, Tryd.ntmps29
    go_wp2_with fail
    go_ret
    exact ⟨rfl, hB _⟩

def setE (o : Of) (n : Int) : Int := if n < -1 ∨ namedB o = false then 1 else 0
def Cd.set (c : Cd) (o : Of) (n : Int) : Cd := if n < -1 ∨ namedB o = false then c else { c with sk := setStock o n c.sk }
set_option maxRecDepth 100000 in
theorem set_any (c : Cd) (p : Nat) (F : List Nat) (w : World) (o : Of) (n : Int) (h : Own w p c F) :
    Calls Tryd.prog 13 #[.pointer (some ⟨p, 0, none⟩), o.val, .int .i64 n] w fun e w' => e = .returned (.int .i64 (setE o n)) ∧ Own w' p (c.set o n) F ∧ Step F F w w' := by
  have HN := Lib.hid (named_any o)
  have hB := Lib.hid (fun o : Obj => below_new w o)
  have HO := Lib.hid h
  obtain ⟨be, bs, oi, on, vi, vn, h, rfl⟩ := h
  have H := Lib.hid h
  obtain ⟨c0, c1, c2, c3, c4, c5⟩ := h.cells
  have hp : p < w.heap.size := h.lt (mem_foot.2 (.inl rfl))
  clear h
  by_cases h1 : n < -1
  · have e1 : setE o n = 1 := by unfold setE; rw [if_pos (.inl h1)]
    have e2 : c.set o n = c := by unfold Cd.set; rw [if_pos (.inl h1)]
    rw [e1, e2]
    clear e1 e2
    go_enter Tryd.func13, Tryd.ntmps13
    go_wp2_with fail
    go_ret
    exact ⟨rfl, HO.out.below (hB.out _), Step.of_below (hB.out _)⟩
  · rcases hn : namedB o with _ | _
    · have e1 : setE o n = 1 := by unfold setE; rw [if_pos (.inr hn)]
      have e2 : c.set o n = c := by unfold Cd.set; rw [if_pos (.inr hn)]
      rw [e1, e2]
      rw [hn] at HN
      clear e1 e2
      obtain ⟨t, z, k⟩ := o
      show Calls Tryd.prog 13 #[.pointer (some ⟨p, 0, none⟩), .agg #[.string t, .string z, .string k], .int .i64 n] w _
      clear hn
      go_enter Tryd.func13, Tryd.ntmps13
      go_wp2_with fail
      refine (HN.out _).mono ?_
      rintro er w1 ⟨rfl, hb⟩
      go_wp2_with fail
      go_ret
      have q := (hB.out _).trans (hb.mono (by simp))
      exact ⟨rfl, HO.out.below q, Step.of_below q⟩
    · have e1 : setE o n = 0 := by unfold setE; rw [if_neg (fun h => h.elim (fun h => h1 h) (fun h => by rw [hn] at h; cases h))]
      have e2 : c.set o n = { c with sk := setStock o n c.sk } := by unfold Cd.set; rw [if_neg (fun h => h.elim (fun h => h1 h) (fun h => by rw [hn] at h; cases h))]
      rw [e1, e2]
      rw [hn] at HN
      clear e1 e2 hn
      obtain ⟨t, z, k⟩ := o
      show Calls Tryd.prog 13 #[.pointer (some ⟨p, 0, none⟩), .agg #[.string t, .string z, .string k], .int .i64 n] w _
      go_enter Tryd.func13, Tryd.ntmps13
      go_wp2_with fail
      refine (HN.out _).mono ?_
      rintro er w1 ⟨rfl, hb⟩
      obtain ⟨d0, d1, d2⟩ : w1.cell? ⟨w.heap.size, 0, none⟩ = some (.string t) ∧ w1.cell? ⟨w.heap.size, 1, none⟩ = some (.string z) ∧ w1.cell? ⟨w.heap.size, 2, none⟩ = some (.string k) := by
        refine ⟨?_, ?_, ?_⟩ <;> (rw [hb.cell (by simp), World.cell?_alloc_new]; rfl)
      have q := (hB.out _).trans (hb.mono (by simp))
      have H1 := H.out.below q
      have hput := put_stock H1.stks ⟨t, z, k⟩ n
      have hput' : (Instr.mapUpdate 53 (.map (some bs)) (.agg #[.string t, .string z, .string k]) (.int .i64 n)).run Tryd.prog w1 = _ := hput
      have Q1 := Lib.hid (H1.put_stks (setStock ⟨t, z, k⟩ n c.sk))
      have Q2 := Lib.hid (Step.of_below (F := foot p be bs oi on) q)
      clear hb q H1 hput
      go_wp2_with fail
      go_ret
      exact ⟨rfl, ⟨be, bs, oi, on, vi, vn, Q1.out, rfl⟩, Q2.out.trans (step_put _ _ (mem_foot.2 (.inr (.inr (.inl rfl)))))⟩

def takeOk (l : List (Of × Int)) (o : Of) : Bool := match stockOf o l with | none => true | some n => n != 0
def takeSk (l : List (Of × Int)) (o : Of) : List (Of × Int) := match stockOf o l with | none => l | some n => if 0 < n then setStock o (wrap64 (n - 1)) l else l
set_option maxRecDepth 100000 in
theorem stocks_take (c : Cd) (p be bs : Nat) (oi on : Option Nat) (vi vn : Value) (w : World) (o : Of) (h : Cl w p c be bs oi on vi vn) :
    Calls Tryd.prog 71 #[.map (some bs), o.val] w fun e w' => e = .returned (.bool (takeOk c.sk o)) ∧ Cl w' p { c with sk := takeSk c.sk o } be bs oi on vi vn ∧ Step (foot p be bs oi on) (foot p be bs oi on) w w' := by
  have hB := Lib.hid (fun o : Obj => below_new w o)
  obtain ⟨t, z, k⟩ := o
  have hl1 := fun (w1 : World) (h1 : StockMap w1 bs c.sk) => look_stock h1 ⟨t, z, k⟩
  have H := Lib.hid h
  clear h
  show Calls Tryd.prog 71 #[.map (some bs), .agg #[.string t, .string z, .string k]] w _
  have HS := (H.out.below (below_new w (.cells #[.string t, .string z, .string k] 28))).stks
  have hl2 := hl1 _ HS
  have hput := fun (n : Int) => put_stock HS ⟨t, z, k⟩ n
  have H1 := Lib.hid (H.out.below (below_new w (.cells #[.string t, .string z, .string k] 28)))
  clear hl1 HS
  rcases hs : stockOf ⟨t, z, k⟩ c.sk with _ | n
  · have e1 : takeOk c.sk ⟨t, z, k⟩ = true := by unfold takeOk; rw [hs]
    have e2 : takeSk c.sk ⟨t, z, k⟩ = c.sk := by unfold takeSk; rw [hs]
    rw [e1, e2]
    rw [hs] at hl2
    have hl3 : (Instr.lookup 53 (.map (some bs)) (.agg #[.string t, .string z, .string k]) true).run Tryd.prog (w.alloc (.cells #[.string t, .string z, .string k] 28)) = .ok (.tuple #[.int .i64 0, .bool false]) (w.alloc (.cells #[.string t, .string z, .string k] 28)) := hl2
    clear e1 e2 hl2 hs hput
    go_enter Tryd.func71, Tryd.ntmps71
    go_wp2_with fail
    go_ret
    exact ⟨rfl, H1.out, Step.of_below (hB.out _)⟩
  · have hl3 : (Instr.lookup 53 (.map (some bs)) (.agg #[.string t, .string z, .string k]) true).run Tryd.prog (w.alloc (.cells #[.string t, .string z, .string k] 28)) = .ok (.tuple #[.int .i64 n, .bool true]) (w.alloc (.cells #[.string t, .string z, .string k] 28)) := by
      rw [hs] at hl2; exact hl2
    clear hl2
    by_cases hn : n < 0
    · have e1 : takeOk c.sk ⟨t, z, k⟩ = true := by unfold takeOk; rw [hs]; simp; omega
      have e2 : takeSk c.sk ⟨t, z, k⟩ = c.sk := by unfold takeSk; rw [hs]; simp only; rw [if_neg (by omega)]
      rw [e1, e2]
      clear e1 e2 hs hput
      go_enter Tryd.func71, Tryd.ntmps71
      go_wp2_with fail
      go_ret
      exact ⟨rfl, H1.out, Step.of_below (hB.out _)⟩
    · rcases h0 : (n == 0) with _ | _
      · have hne : n ≠ 0 := by simpa using h0
        have e1 : takeOk c.sk ⟨t, z, k⟩ = true := by unfold takeOk; rw [hs]; simpa using hne
        have e2 : takeSk c.sk ⟨t, z, k⟩ = setStock ⟨t, z, k⟩ (wrap64 (n - 1)) c.sk := by unfold takeSk; rw [hs]; simp only; rw [if_pos (by omega)]
        rw [e1, e2]
        have hp2 : (Instr.mapUpdate 53 (.map (some bs)) (.agg #[.string t, .string z, .string k]) (.int .i64 (wrap64 (n - 1)))).run Tryd.prog (w.alloc (.cells #[.string t, .string z, .string k] 28)) = _ := hput (wrap64 (n - 1))
        clear e1 e2 hs hput hne
        go_enter Tryd.func71, Tryd.ntmps71
        go_wp2_with fail
        go_ret
        exact ⟨rfl, H1.out.put_stks _, (Step.of_below (hB.out _)).trans (step_put _ _ (mem_foot.2 (.inr (.inr (.inl rfl)))))⟩
      · have hne : n = 0 := by simpa using h0
        have e1 : takeOk c.sk ⟨t, z, k⟩ = false := by unfold takeOk; rw [hs]; simp [hne]
        have e2 : takeSk c.sk ⟨t, z, k⟩ = c.sk := by unfold takeSk; rw [hs]; simp only; rw [if_neg (by omega)]
        rw [e1, e2]
        clear e1 e2 hs hput hne
        go_enter Tryd.func71, Tryd.ntmps71
        go_wp2_with fail
        go_ret
        exact ⟨rfl, H1.out, Step.of_below (hB.out _)⟩

set_option maxRecDepth 100000 in
theorem closure31 (x : In) (B : Nat) (s : ByteArray) (w : World) (hB : B < w.heap.size) (hs : w.cell? ⟨B, 0, none⟩ = some (.string s)) :
    Calls Tryd.prog 31 #[.agg #[.string x.id, .string x.tok, .string x.o.t, .string x.o.z, .string x.o.k, .int .i64 x.st, .int .i64 x.rd], .pointer (some ⟨B, 0, none⟩)] w fun e w' => e = .returned (.bool (sq x.tok s)) ∧ Below w.heap.size w w' := by
  go_enter Tryd.func31, Tryd.ntmps31
  go_wp2_with fail
  go_ret
  exact ⟨rfl, below_new w _⟩
set_option maxRecDepth 100000 in
theorem closure28 (x : In) (B : Nat) (s : ByteArray) (w : World) (hB : B < w.heap.size) (hs : w.cell? ⟨B, 0, none⟩ = some (.string s)) :
    Calls Tryd.prog 28 #[.agg #[.string x.id, .string x.tok, .string x.o.t, .string x.o.z, .string x.o.k, .int .i64 x.st, .int .i64 x.rd], .pointer (some ⟨B, 0, none⟩)] w fun e w' => e = .returned (.bool (sq x.id s)) ∧ Below w.heap.size w w' := by
  go_enter Tryd.func28, Tryd.ntmps28
  go_wp2_with fail
  go_ret
  exact ⟨rfl, below_new w _⟩
end Go.Proofs.YtpoegpojlcbfgaaDoor
