/-
  No cell of these rows narrows 'for every input' (looked for: loops, veiled, ifaces, maps, wideKeys, modest, calm, conditions, laid).
  DERIVED. THE GIVEN ROWS OF THIS SEAT. 11 by the template 'for every input the law returns true; each argument reads behind the call as it read before'; 0 by the template 'total and deterministic' (their statements: YtnaphpgbmjpicaaTotals.lean).
  GIVEN WITH THE SEED: the statements are not yours to turn. If you find one false, say at which input.
  Laid BY PROGRAM, IN A SANDBOX (cutbox-rows.mjs): the forced cells as the released guide's own fill.sh prints them over the translation 060c2d63996e4f9b… (all of the seat's roots in one cut). By AI agents, Wed Nov 11 2026. No macro, syntax, notation, axiom, sorry.
-/
import Derived.Test.YtnaphpgbmjpicaaChecked
import GoSem.Claim
import GoSem.ClaimJoined
import GoSem.ClaimMapViews
import Derived.JoinedTies
import Derived.KernelRfl
namespace Go.Proofs.Ytnaphpgbmjpicaa
/- THE CELL 'sum', in the pinned program and in every row, IS THE sha256 OF THE DUMP (.gsa) THAT YtnaphpgbmjpicaaProg.lean LOADS. Nothing in Lean hashes anything: it is a label: what it is worth is what the hold of that sum in a sandbox is worth. -/
noncomputable def Try.pinned : Pinned := { name := "ytnaphpgbmjpicaa", sum := "060c2d63996e4f9b6f55fb6a9661e61057ed74c59d482c1cbefd536325837a78", checked := Try.checked }
namespace Rows
def none {H : Type} : Left H := { results := [], args := [] }

/-- 'sutlerlaw01.AmountNumbers': WHATEVER THE INPUT: true; the input reads as it did. -/
def amountNumbersSpec : ChangeSpec := { name := "amountNumbers", fn := fun _ => fun
  | [] => { results := [.lit (.bool true)], args := [] }
  | _ => none }
def amountNumbersRow : OpenClaim := { program := "ytnaphpgbmjpicaa", sum := "060c2d63996e4f9b6f55fb6a9661e61057ed74c59d482c1cbefd536325837a78", func := "sutler/sutlerlaw01.AmountNumbers", spec := "amountNumbers", apart := false }
def AmountNumbersSaid : Prop := amountNumbersRow.holds Try.pinned (OpenSpec.ofChange amountNumbersSpec)

/-- ITS FALSE NEIGHBOUR: 'it returns false'. Refute it at one input. -/
def amountNumbersWrong : ChangeSpec := { name := "amountNumbers", fn := fun _ => fun
  | [] => { results := [.lit (.bool false)], args := [] }
  | _ => none }
def AmountNumbersWrongFalsely : Prop := amountNumbersRow.holds Try.pinned (OpenSpec.ofChange amountNumbersWrong)

/-- 'sutlerlaw01.AmountChecks': WHATEVER THE INPUT: true; the input reads as it did. -/
def amountChecksSpec : ChangeSpec := { name := "amountChecks", fn := fun _ => fun
  | [d1, d2] => { results := [.lit (.bool true)], args := [d1, d2] }
  | _ => none }
def amountChecksRow : OpenClaim := { program := "ytnaphpgbmjpicaa", sum := "060c2d63996e4f9b6f55fb6a9661e61057ed74c59d482c1cbefd536325837a78", func := "sutler/sutlerlaw01.AmountChecks", spec := "amountChecks", apart := false }
def AmountChecksSaid : Prop := amountChecksRow.holds Try.pinned (OpenSpec.ofChange amountChecksSpec)

/-- ITS FALSE NEIGHBOUR: 'it returns false'. Refute it at one input. -/
def amountChecksWrong : ChangeSpec := { name := "amountChecks", fn := fun _ => fun
  | [d1, d2] => { results := [.lit (.bool false)], args := [d1, d2] }
  | _ => none }
def AmountChecksWrongFalsely : Prop := amountChecksRow.holds Try.pinned (OpenSpec.ofChange amountChecksWrong)

/-- 'sutlerlaw01.AmountSums': WHATEVER THE INPUT: true; the input reads as it did. -/
def amountSumsSpec : ChangeSpec := { name := "amountSums", fn := fun _ => fun
  | [d1, d2] => { results := [.lit (.bool true)], args := [d1, d2] }
  | _ => none }
def amountSumsRow : OpenClaim := { program := "ytnaphpgbmjpicaa", sum := "060c2d63996e4f9b6f55fb6a9661e61057ed74c59d482c1cbefd536325837a78", func := "sutler/sutlerlaw01.AmountSums", spec := "amountSums", apart := false }
def AmountSumsSaid : Prop := amountSumsRow.holds Try.pinned (OpenSpec.ofChange amountSumsSpec)

/-- ITS FALSE NEIGHBOUR: 'it returns false'. Refute it at one input. -/
def amountSumsWrong : ChangeSpec := { name := "amountSums", fn := fun _ => fun
  | [d1, d2] => { results := [.lit (.bool false)], args := [d1, d2] }
  | _ => none }
def AmountSumsWrongFalsely : Prop := amountSumsRow.holds Try.pinned (OpenSpec.ofChange amountSumsWrong)

/-- 'sutlerlaw01.AmountTotals': WHATEVER THE INPUT: true; the input reads as it did. -/
def amountTotalsSpec : ChangeSpec := { name := "amountTotals", fn := fun _ => fun
  | [d1, d2] => { results := [.lit (.bool true)], args := [d1, d2] }
  | _ => none }
def amountTotalsRow : OpenClaim := { program := "ytnaphpgbmjpicaa", sum := "060c2d63996e4f9b6f55fb6a9661e61057ed74c59d482c1cbefd536325837a78", func := "sutler/sutlerlaw01.AmountTotals", spec := "amountTotals", apart := false }
def AmountTotalsSaid : Prop := amountTotalsRow.holds Try.pinned (OpenSpec.ofChange amountTotalsSpec)

/-- ITS FALSE NEIGHBOUR: 'it returns false'. Refute it at one input. -/
def amountTotalsWrong : ChangeSpec := { name := "amountTotals", fn := fun _ => fun
  | [d1, d2] => { results := [.lit (.bool false)], args := [d1, d2] }
  | _ => none }
def AmountTotalsWrongFalsely : Prop := amountTotalsRow.holds Try.pinned (OpenSpec.ofChange amountTotalsWrong)

/-- 'sutlerlaw01.AmountOrder': WHATEVER THE INPUT: true; the input reads as it did. -/
def amountOrderSpec : ChangeSpec := { name := "amountOrder", fn := fun _ => fun
  | [d] => { results := [.lit (.bool true)], args := [d] }
  | _ => none }
def amountOrderRow : OpenClaim := { program := "ytnaphpgbmjpicaa", sum := "060c2d63996e4f9b6f55fb6a9661e61057ed74c59d482c1cbefd536325837a78", func := "sutler/sutlerlaw01.AmountOrder", spec := "amountOrder", apart := false }
def AmountOrderSaid : Prop := amountOrderRow.holds Try.pinned (OpenSpec.ofChange amountOrderSpec)

/-- ITS FALSE NEIGHBOUR: 'it returns false'. Refute it at one input. -/
def amountOrderWrong : ChangeSpec := { name := "amountOrder", fn := fun _ => fun
  | [d] => { results := [.lit (.bool false)], args := [d] }
  | _ => none }
def AmountOrderWrongFalsely : Prop := amountOrderRow.holds Try.pinned (OpenSpec.ofChange amountOrderWrong)

/-- 'sutlerlaw01.AmountPacks': WHATEVER THE INPUT: true; the input reads as it did. -/
def amountPacksSpec : ChangeSpec := { name := "amountPacks", fn := fun _ => fun
  | [d1, d2] => { results := [.lit (.bool true)], args := [d1, d2] }
  | _ => none }
def amountPacksRow : OpenClaim := { program := "ytnaphpgbmjpicaa", sum := "060c2d63996e4f9b6f55fb6a9661e61057ed74c59d482c1cbefd536325837a78", func := "sutler/sutlerlaw01.AmountPacks", spec := "amountPacks", apart := false }
def AmountPacksSaid : Prop := amountPacksRow.holds Try.pinned (OpenSpec.ofChange amountPacksSpec)

/-- ITS FALSE NEIGHBOUR: 'it returns false'. Refute it at one input. -/
def amountPacksWrong : ChangeSpec := { name := "amountPacks", fn := fun _ => fun
  | [d1, d2] => { results := [.lit (.bool false)], args := [d1, d2] }
  | _ => none }
def AmountPacksWrongFalsely : Prop := amountPacksRow.holds Try.pinned (OpenSpec.ofChange amountPacksWrong)

/-- 'sutlerlaw01.AmountBack': WHATEVER THE INPUT: true; the input reads as it did. -/
def amountBackSpec : ChangeSpec := { name := "amountBack", fn := fun _ => fun
  | [d1, d2, d3] => { results := [.lit (.bool true)], args := [d1, d2, d3] }
  | _ => none }
def amountBackRow : OpenClaim := { program := "ytnaphpgbmjpicaa", sum := "060c2d63996e4f9b6f55fb6a9661e61057ed74c59d482c1cbefd536325837a78", func := "sutler/sutlerlaw01.AmountBack", spec := "amountBack", apart := false }
def AmountBackSaid : Prop := amountBackRow.holds Try.pinned (OpenSpec.ofChange amountBackSpec)

/-- ITS FALSE NEIGHBOUR: 'it returns false'. Refute it at one input. -/
def amountBackWrong : ChangeSpec := { name := "amountBack", fn := fun _ => fun
  | [d1, d2, d3] => { results := [.lit (.bool false)], args := [d1, d2, d3] }
  | _ => none }
def AmountBackWrongFalsely : Prop := amountBackRow.holds Try.pinned (OpenSpec.ofChange amountBackWrong)

/-- 'sutlerlaw13.UsageTells': WHATEVER THE INPUT: true; the input reads as it did. -/
def usageTellsSpec : ChangeSpec := { name := "usageTells", fn := fun _ => fun
  | [d1, d2, d3] => { results := [.lit (.bool true)], args := [d1, d2, d3] }
  | _ => none }
def usageTellsRow : OpenClaim := { program := "ytnaphpgbmjpicaa", sum := "060c2d63996e4f9b6f55fb6a9661e61057ed74c59d482c1cbefd536325837a78", func := "sutler/sutlerlaw13.UsageTells", spec := "usageTells", unfollowed := true, recurses := true, apart := false }
def UsageTellsSaid : Prop := usageTellsRow.holds Try.pinned (OpenSpec.ofChange usageTellsSpec)

/-- ITS FALSE NEIGHBOUR: 'it returns false'. Refute it at one input. -/
def usageTellsWrong : ChangeSpec := { name := "usageTells", fn := fun _ => fun
  | [d1, d2, d3] => { results := [.lit (.bool false)], args := [d1, d2, d3] }
  | _ => none }
def UsageTellsWrongFalsely : Prop := usageTellsRow.holds Try.pinned (OpenSpec.ofChange usageTellsWrong)

/-- 'sutlerlaw13.UsagePools': WHATEVER THE INPUT: true; the input reads as it did. -/
def usagePoolsSpec : ChangeSpec := { name := "usagePools", fn := fun _ => fun
  | [d1, d2, d3] => { results := [.lit (.bool true)], args := [d1, d2, d3] }
  | _ => none }
def usagePoolsRow : OpenClaim := { program := "ytnaphpgbmjpicaa", sum := "060c2d63996e4f9b6f55fb6a9661e61057ed74c59d482c1cbefd536325837a78", func := "sutler/sutlerlaw13.UsagePools", spec := "usagePools", unfollowed := true, recurses := true, apart := false }
def UsagePoolsSaid : Prop := usagePoolsRow.holds Try.pinned (OpenSpec.ofChange usagePoolsSpec)

/-- ITS FALSE NEIGHBOUR: 'it returns false'. Refute it at one input. -/
def usagePoolsWrong : ChangeSpec := { name := "usagePools", fn := fun _ => fun
  | [d1, d2, d3] => { results := [.lit (.bool false)], args := [d1, d2, d3] }
  | _ => none }
def UsagePoolsWrongFalsely : Prop := usagePoolsRow.holds Try.pinned (OpenSpec.ofChange usagePoolsWrong)

/-- 'sutlerlaw13.UsageSums': WHATEVER THE INPUT: true; the input reads as it did. -/
def usageSumsSpec : ChangeSpec := { name := "usageSums", fn := fun _ => fun
  | [d1, d2] => { results := [.lit (.bool true)], args := [d1, d2] }
  | _ => none }
def usageSumsRow : OpenClaim := { program := "ytnaphpgbmjpicaa", sum := "060c2d63996e4f9b6f55fb6a9661e61057ed74c59d482c1cbefd536325837a78", func := "sutler/sutlerlaw13.UsageSums", spec := "usageSums", unfollowed := true, recurses := true, apart := false }
def UsageSumsSaid : Prop := usageSumsRow.holds Try.pinned (OpenSpec.ofChange usageSumsSpec)

/-- ITS FALSE NEIGHBOUR: 'it returns false'. Refute it at one input. -/
def usageSumsWrong : ChangeSpec := { name := "usageSums", fn := fun _ => fun
  | [d1, d2] => { results := [.lit (.bool false)], args := [d1, d2] }
  | _ => none }
def UsageSumsWrongFalsely : Prop := usageSumsRow.holds Try.pinned (OpenSpec.ofChange usageSumsWrong)

/-- 'sutlerlaw13.UsageLess': WHATEVER THE INPUT: true; the input reads as it did. -/
def usageLessSpec : ChangeSpec := { name := "usageLess", fn := fun _ => fun
  | [d1, d2, d3] => { results := [.lit (.bool true)], args := [d1, d2, d3] }
  | _ => none }
def usageLessRow : OpenClaim := { program := "ytnaphpgbmjpicaa", sum := "060c2d63996e4f9b6f55fb6a9661e61057ed74c59d482c1cbefd536325837a78", func := "sutler/sutlerlaw13.UsageLess", spec := "usageLess", unfollowed := true, recurses := true, apart := false }
def UsageLessSaid : Prop := usageLessRow.holds Try.pinned (OpenSpec.ofChange usageLessSpec)

/-- ITS FALSE NEIGHBOUR: 'it returns false'. Refute it at one input. -/
def usageLessWrong : ChangeSpec := { name := "usageLess", fn := fun _ => fun
  | [d1, d2, d3] => { results := [.lit (.bool false)], args := [d1, d2, d3] }
  | _ => none }
def UsageLessWrongFalsely : Prop := usageLessRow.holds Try.pinned (OpenSpec.ofChange usageLessWrong)

/- THE SECOND FORM. 'bulk': how many values and letters a reading holds, each counted each time it is reached (what is shared counts as often as it is met; a slice's spare places count too). A statement '..UptoSaid' is the law's where the arguments, and the package variables that the reading takes, are together of bulk at most 1048576: NARROWER than '..Said'. Prove '..Said' where nothing that the law and all that it calls make is longer than what came in: it says more and counts as full. Else prove '..UptoSaid'. A law counts once. -/
mutual
def uptoBulk {H : Type} : DataW H → Nat
  | .lit (.string bytes) => bytes.length + 1
  | .lit _ => 1
  | .nil => 1
  | .ptr d => uptoBulk d + 1
  | .slice elems spare => uptoBulkAll elems + uptoBulkAll spare + 1
  | .agg parts => uptoBulkAll parts + 1
  | .iface _ d => uptoBulk d + 1
  | .map entries => uptoBulkEntries entries + 1
  | .held _ => 1
def uptoBulkAll {H : Type} : List (DataW H) → Nat
  | [] => 0
  | d :: r => uptoBulk d + uptoBulkAll r
def uptoBulkEntries {H : Type} : List (Lit × DataW H) → Nat
  | [] => 0
  | x :: r => uptoBulkEntry x + uptoBulkEntries r
def uptoBulkEntry {H : Type} : Lit × DataW H → Nat
  | (.string bytes, d) => bytes.length + uptoBulk d + 1
  | (_, d) => uptoBulk d + 1
 end
def uptoSmall : (H : Type) → List (DataW H) → Bool := fun _ ds => decide (uptoBulkAll ds ≤ 1048576)
def OpenSpec.upto (s : _root_.Go.ChangeSpec) : _root_.Go.OpenSpec := { _root_.Go.OpenSpec.ofChange s with cond := some uptoSmall }

/-- 'sutlerlaw01.AmountNumbers', WHERE WHAT IT READS IS OF BULK AT MOST 1048576: true; the input reads as it did. -/
def amountNumbersUptoRow : OpenClaim := { program := "ytnaphpgbmjpicaa", sum := "060c2d63996e4f9b6f55fb6a9661e61057ed74c59d482c1cbefd536325837a78", func := "sutler/sutlerlaw01.AmountNumbers", spec := "amountNumbers", apart := false, narrowed := true }
def AmountNumbersUptoSaid : Prop := amountNumbersUptoRow.holds Try.pinned (OpenSpec.upto amountNumbersSpec)

/-- 'sutlerlaw01.AmountChecks', WHERE WHAT IT READS IS OF BULK AT MOST 1048576: true; the input reads as it did. -/
def amountChecksUptoRow : OpenClaim := { program := "ytnaphpgbmjpicaa", sum := "060c2d63996e4f9b6f55fb6a9661e61057ed74c59d482c1cbefd536325837a78", func := "sutler/sutlerlaw01.AmountChecks", spec := "amountChecks", apart := false, narrowed := true }
def AmountChecksUptoSaid : Prop := amountChecksUptoRow.holds Try.pinned (OpenSpec.upto amountChecksSpec)

/-- 'sutlerlaw01.AmountSums', WHERE WHAT IT READS IS OF BULK AT MOST 1048576: true; the input reads as it did. -/
def amountSumsUptoRow : OpenClaim := { program := "ytnaphpgbmjpicaa", sum := "060c2d63996e4f9b6f55fb6a9661e61057ed74c59d482c1cbefd536325837a78", func := "sutler/sutlerlaw01.AmountSums", spec := "amountSums", apart := false, narrowed := true }
def AmountSumsUptoSaid : Prop := amountSumsUptoRow.holds Try.pinned (OpenSpec.upto amountSumsSpec)

/-- 'sutlerlaw01.AmountTotals', WHERE WHAT IT READS IS OF BULK AT MOST 1048576: true; the input reads as it did. -/
def amountTotalsUptoRow : OpenClaim := { program := "ytnaphpgbmjpicaa", sum := "060c2d63996e4f9b6f55fb6a9661e61057ed74c59d482c1cbefd536325837a78", func := "sutler/sutlerlaw01.AmountTotals", spec := "amountTotals", apart := false, narrowed := true }
def AmountTotalsUptoSaid : Prop := amountTotalsUptoRow.holds Try.pinned (OpenSpec.upto amountTotalsSpec)

/-- 'sutlerlaw01.AmountOrder', WHERE WHAT IT READS IS OF BULK AT MOST 1048576: true; the input reads as it did. -/
def amountOrderUptoRow : OpenClaim := { program := "ytnaphpgbmjpicaa", sum := "060c2d63996e4f9b6f55fb6a9661e61057ed74c59d482c1cbefd536325837a78", func := "sutler/sutlerlaw01.AmountOrder", spec := "amountOrder", apart := false, narrowed := true }
def AmountOrderUptoSaid : Prop := amountOrderUptoRow.holds Try.pinned (OpenSpec.upto amountOrderSpec)

/-- 'sutlerlaw01.AmountPacks', WHERE WHAT IT READS IS OF BULK AT MOST 1048576: true; the input reads as it did. -/
def amountPacksUptoRow : OpenClaim := { program := "ytnaphpgbmjpicaa", sum := "060c2d63996e4f9b6f55fb6a9661e61057ed74c59d482c1cbefd536325837a78", func := "sutler/sutlerlaw01.AmountPacks", spec := "amountPacks", apart := false, narrowed := true }
def AmountPacksUptoSaid : Prop := amountPacksUptoRow.holds Try.pinned (OpenSpec.upto amountPacksSpec)

/-- 'sutlerlaw01.AmountBack', WHERE WHAT IT READS IS OF BULK AT MOST 1048576: true; the input reads as it did. -/
def amountBackUptoRow : OpenClaim := { program := "ytnaphpgbmjpicaa", sum := "060c2d63996e4f9b6f55fb6a9661e61057ed74c59d482c1cbefd536325837a78", func := "sutler/sutlerlaw01.AmountBack", spec := "amountBack", apart := false, narrowed := true }
def AmountBackUptoSaid : Prop := amountBackUptoRow.holds Try.pinned (OpenSpec.upto amountBackSpec)

/-- 'sutlerlaw13.UsageTells', WHERE WHAT IT READS IS OF BULK AT MOST 1048576: true; the input reads as it did. -/
def usageTellsUptoRow : OpenClaim := { program := "ytnaphpgbmjpicaa", sum := "060c2d63996e4f9b6f55fb6a9661e61057ed74c59d482c1cbefd536325837a78", func := "sutler/sutlerlaw13.UsageTells", spec := "usageTells", unfollowed := true, recurses := true, apart := false, narrowed := true }
def UsageTellsUptoSaid : Prop := usageTellsUptoRow.holds Try.pinned (OpenSpec.upto usageTellsSpec)

/-- 'sutlerlaw13.UsagePools', WHERE WHAT IT READS IS OF BULK AT MOST 1048576: true; the input reads as it did. -/
def usagePoolsUptoRow : OpenClaim := { program := "ytnaphpgbmjpicaa", sum := "060c2d63996e4f9b6f55fb6a9661e61057ed74c59d482c1cbefd536325837a78", func := "sutler/sutlerlaw13.UsagePools", spec := "usagePools", unfollowed := true, recurses := true, apart := false, narrowed := true }
def UsagePoolsUptoSaid : Prop := usagePoolsUptoRow.holds Try.pinned (OpenSpec.upto usagePoolsSpec)

/-- 'sutlerlaw13.UsageSums', WHERE WHAT IT READS IS OF BULK AT MOST 1048576: true; the input reads as it did. -/
def usageSumsUptoRow : OpenClaim := { program := "ytnaphpgbmjpicaa", sum := "060c2d63996e4f9b6f55fb6a9661e61057ed74c59d482c1cbefd536325837a78", func := "sutler/sutlerlaw13.UsageSums", spec := "usageSums", unfollowed := true, recurses := true, apart := false, narrowed := true }
def UsageSumsUptoSaid : Prop := usageSumsUptoRow.holds Try.pinned (OpenSpec.upto usageSumsSpec)

/-- 'sutlerlaw13.UsageLess', WHERE WHAT IT READS IS OF BULK AT MOST 1048576: true; the input reads as it did. -/
def usageLessUptoRow : OpenClaim := { program := "ytnaphpgbmjpicaa", sum := "060c2d63996e4f9b6f55fb6a9661e61057ed74c59d482c1cbefd536325837a78", func := "sutler/sutlerlaw13.UsageLess", spec := "usageLess", unfollowed := true, recurses := true, apart := false, narrowed := true }
def UsageLessUptoSaid : Prop := usageLessUptoRow.holds Try.pinned (OpenSpec.upto usageLessSpec)

end Rows
end Go.Proofs.Ytnaphpgbmjpicaa
