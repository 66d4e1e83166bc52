/- Rows of structs in memory; the closures that look at a name; slices.IndexFunc and slices.ContainsFunc over claims and pools. -/
import Derived.Test.YtnaphpgbmjpicaaZ
import Derived.Test.YtnaphpgbmjpicaaO
namespace Go.Proofs.Ytnaphpgbmjpicaa
open Go.RowKit

/-- A claim, as it lies in memory: fifteen cells. -/
structure Cl where
  name : ByteArray
  pool : ByteArray
  c2 : Value
  c3 : Value
  c4 : Value
  c5 : Value
  c6 : Value
  x : Int
  y : Int
  c9 : Value
  c10 : Value
  c11 : Value
  c12 : Value
  c13 : Value
  c14 : Value
  h2 : c2.oneCell' = true
  h3 : c3.oneCell' = true
  h4 : c4.oneCell' = true
  h5 : c5.oneCell' = true
  h6 : c6.oneCell' = true
  h9 : c9.oneCell' = true
  h10 : c10.oneCell' = true
  h11 : c11.oneCell' = true
  h12 : c12.oneCell' = true
  h13 : c13.oneCell' = true
  h14 : c14.oneCell' = true
instance : Inhabited Cl := ⟨⟨default, default, default, default, default, default, default, 0, 0, default, default, default, default, default, default, rfl, rfl, rfl, rfl, rfl, rfl, rfl, rfl, rfl, rfl, rfl⟩⟩
def Cl.cells (c : Cl) : List Value := [.string c.name, .string c.pool, c.c2, c.c3, c.c4, c.c5, c.c6, .int .i64 c.x, .int .i64 c.y, c.c9, c.c10, c.c11, c.c12, c.c13, c.c14]
/-- A pod: twelve cells. -/
structure Pd where
  c0 : Value
  c1 : Value
  x : Int
  y : Int
  c4 : Value
  c5 : Value
  c6 : Value
  c7 : Value
  c8 : Value
  c9 : Value
  c10 : Value
  on : ByteArray
  h0 : c0.oneCell' = true
  h1 : c1.oneCell' = true
  h4 : c4.oneCell' = true
  h5 : c5.oneCell' = true
  h6 : c6.oneCell' = true
  h7 : c7.oneCell' = true
  h8 : c8.oneCell' = true
  h9 : c9.oneCell' = true
  h10 : c10.oneCell' = true
instance : Inhabited Pd := ⟨⟨default, default, 0, 0, default, default, default, default, default, default, default, default, rfl, rfl, rfl, rfl, rfl, rfl, rfl, rfl, rfl⟩⟩
def Pd.cells (c : Pd) : List Value := [c.c0, c.c1, .int .i64 c.x, .int .i64 c.y, c.c4, c.c5, c.c6, c.c7, c.c8, c.c9, c.c10, .string c.on]
/-- A pool: ten cells. -/
structure Pl where
  name : ByteArray
  c1 : Value
  c2 : Value
  c3 : Value
  c4 : Value
  c5 : Value
  c6 : Value
  c7 : Value
  c8 : Value
  c9 : Value
  h1 : c1.oneCell' = true
  h2 : c2.oneCell' = true
  h3 : c3.oneCell' = true
  h4 : c4.oneCell' = true
  h5 : c5.oneCell' = true
  h6 : c6.oneCell' = true
  h7 : c7.oneCell' = true
  h8 : c8.oneCell' = true
  h9 : c9.oneCell' = true
instance : Inhabited Pl := ⟨⟨default, default, default, default, default, default, default, default, default, default, rfl, rfl, rfl, rfl, rfl, rfl, rfl, rfl, rfl⟩⟩
def Pl.cells (c : Pl) : List Value := [.string c.name, c.c1, c.c2, c.c3, c.c4, c.c5, c.c6, c.c7, c.c8, c.c9]

theorem run_store_one {P : Program} {w : World} {a : Addr} {m : Mode} (v : Value) (h : v.oneCell' = true) : (store a v m).run P w = stored P w a v m := run_store P w a v m h

/-- Rows of k cells lie in memory. -/
def Rw (w : World) (a : Option Addr) (k : Nat) (rows : List (List Value)) : Prop :=
  ∀ i r, rows[i]? = some r → ∃ b off, a = some ⟨b, off, none⟩ ∧ b < w.heap.size ∧ r.length = k ∧ ∀ j v, r[j]? = some v → w.cell? ⟨b, off + i * k + j, none⟩ = some v
theorem Rw.below {w w' : World} {B : Nat} {a : Option Addr} {k : Nat} {rows : List (List Value)} (h : Rw w a k rows) (hB : w.heap.size ≤ B) (hb : Below B w w') : Rw w' a k rows := fun i r hr => by
  obtain ⟨b, off, e, l, n, c⟩ := h i r hr
  exact ⟨b, off, e, by have := hb.size; omega, n, fun j v hj => (hb.cell (p := ⟨b, _, none⟩) (by show b < _; omega)).trans (c j v hj)⟩
theorem Rw.cl {w : World} {a : Option Addr} {cs : List Cl} (h : Rw w a 15 (cs.map Cl.cells)) {k : Nat} (hk : k < cs.length) : ∃ b off, a = some ⟨b, off, none⟩ ∧ b < w.heap.size ∧ cs[k]? = some (cs.getD k default) ∧
    ∀ j v, (cs.getD k default).cells[j]? = some v → w.cell? ⟨b, off + k * 15 + j, none⟩ = some v := by
  obtain ⟨b, off, e, l, n, c⟩ := h k (cs.getD k default).cells (by simp [List.getD, hk])
  exact ⟨b, off, e, l, by simp [List.getD, hk], c⟩
theorem Rw.pd {w : World} {a : Option Addr} {cs : List Pd} (h : Rw w a 12 (cs.map Pd.cells)) {k : Nat} (hk : k < cs.length) : ∃ b off, a = some ⟨b, off, none⟩ ∧ b < w.heap.size ∧ cs[k]? = some (cs.getD k default) ∧
    ∀ j v, (cs.getD k default).cells[j]? = some v → w.cell? ⟨b, off + k * 12 + j, none⟩ = some v := by
  obtain ⟨b, off, e, l, n, c⟩ := h k (cs.getD k default).cells (by simp [List.getD, hk])
  exact ⟨b, off, e, l, by simp [List.getD, hk], c⟩
theorem Rw.pl {w : World} {a : Option Addr} {cs : List Pl} (h : Rw w a 10 (cs.map Pl.cells)) {k : Nat} (hk : k < cs.length) : ∃ b off, a = some ⟨b, off, none⟩ ∧ b < w.heap.size ∧ cs[k]? = some (cs.getD k default) ∧
    ∀ j v, (cs.getD k default).cells[j]? = some v → w.cell? ⟨b, off + k * 10 + j, none⟩ = some v := by
  obtain ⟨b, off, e, l, n, c⟩ := h k (cs.getD k default).cells (by simp [List.getD, hk])
  exact ⟨b, off, e, l, by simp [List.getD, hk], c⟩

set_option maxRecDepth 100000 in
/-- A closure: is this the name? -/
theorem look44 (c : Cl) (B : Nat) (s : ByteArray) (w : World) (hB : B < w.heap.size) (hcell : w.cell? ⟨B, 0, none⟩ = some (.string s)) :
    Calls Try.prog 44 #[.agg c.cells.toArray, .pointer (some ⟨B, 0, none⟩)] w fun e w' => e = .returned (.bool (c.name.toList == s.toList)) ∧ Below w.heap.size w w' := by
  obtain ⟨name, pool, c2, c3, c4, c5, c6, x, y, c9, c10, c11, c12, c13, c14, h2, h3, h4, h5, h6, h9, h10, h11, h12, h13, h14⟩ := c
  show Calls Try.prog 44 #[.agg #[.string name, .string pool, c2, c3, c4, c5, c6, .int .i64 x, .int .i64 y, c9, c10, c11, c12, c13, c14], .pointer (some ⟨B, 0, none⟩)] w _
  have hne : B ≠ w.heap.size := by omega
  go_enter Try.func44, Try.ntmps44
  go_wp2
  go_ret
  exact ⟨by first | rfl | simp_all, (Below.refl _ _).alloc (Nat.le_refl _) _⟩

set_option maxRecDepth 100000 in
/-- A closure: is this the name? -/
theorem look46 (c : Cl) (B : Nat) (s : ByteArray) (w : World) (hB : B < w.heap.size) (hcell : w.cell? ⟨B, 0, none⟩ = some (.string s)) :
    Calls Try.prog 46 #[.agg c.cells.toArray, .pointer (some ⟨B, 0, none⟩)] w fun e w' => e = .returned (.bool (c.name.toList == s.toList)) ∧ Below w.heap.size w w' := by
  obtain ⟨name, pool, c2, c3, c4, c5, c6, x, y, c9, c10, c11, c12, c13, c14, h2, h3, h4, h5, h6, h9, h10, h11, h12, h13, h14⟩ := c
  show Calls Try.prog 46 #[.agg #[.string name, .string pool, c2, c3, c4, c5, c6, .int .i64 x, .int .i64 y, c9, c10, c11, c12, c13, c14], .pointer (some ⟨B, 0, none⟩)] w _
  have hne : B ≠ w.heap.size := by omega
  go_enter Try.func46, Try.ntmps46
  go_wp2
  go_ret
  exact ⟨by first | rfl | simp_all, (Below.refl _ _).alloc (Nat.le_refl _) _⟩

set_option maxRecDepth 100000 in
/-- A closure: is this the name? -/
theorem look48 (c : Pl) (B : Nat) (s : ByteArray) (w : World) (hB : B < w.heap.size) (hcell : w.cell? ⟨B, 0, none⟩ = some (.string s)) :
    Calls Try.prog 48 #[.agg c.cells.toArray, .pointer (some ⟨B, 0, none⟩)] w fun e w' => e = .returned (.bool (c.name.toList == s.toList)) ∧ Below w.heap.size w w' := by
  obtain ⟨name, c1, c2, c3, c4, c5, c6, c7, c8, c9, h1, h2, h3, h4, h5, h6, h7, h8, h9⟩ := c
  show Calls Try.prog 48 #[.agg #[.string name, c1, c2, c3, c4, c5, c6, c7, c8, c9], .pointer (some ⟨B, 0, none⟩)] w _
  have hne : B ≠ w.heap.size := by omega
  go_enter Try.func48, Try.ntmps48
  go_wp2
  go_ret
  exact ⟨by first | rfl | simp_all, (Below.refl _ _).alloc (Nat.le_refl _) _⟩

/-- Where the first stands, or -1. -/
def idxGo {α : Type} (p : α → Bool) (k : Nat) : List α → Int
  | [] => -1
  | c :: r => if p c then (k : Int) else idxGo p (k + 1) r
theorem idxGo_at {α : Type} [Inhabited α] {p : α → Bool} {cs : List α} {k : Nat} (h : k < cs.length) : idxGo p k (cs.drop k) = if p (cs.getD k default) then (k : Int) else idxGo p (k + 1) (cs.drop (k + 1)) := by
  rw [drop_at (d := default) h rfl]; rfl
theorem idxGo_any {α : Type} (p : α → Bool) : ∀ (cs : List α) (k : Nat), (cs.any p = true ↔ 0 ≤ idxGo p k cs)
  | [], k => by simp [idxGo]
  | c :: r, k => by
    have ih := idxGo_any p r (k + 1)
    simp only [idxGo, List.any_cons, Bool.or_eq_true]
    by_cases h : p c = true
    · simp [h]
    · simp [h, ih]

end Go.Proofs.Ytnaphpgbmjpicaa
