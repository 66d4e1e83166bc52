/-
  DERIVED. GIVEN WITH THE SEED: THE CARDS: each row of YtpoegpojlcbfgaaDoorRows.lean that lists a variable, with what it lists TIED to the program's text (the seventh form; the later family's looks); each row that meets fmt, with fmt's text TOLD by the authors' own Lean function (tested against real Go, not proved from fmt's source: count such statements apart). THE CARD IS WHAT COUNTS. Prove the row's statement (the work); the ties are given (YtpoegpojlcbfgaaDoorTie.lean); close each card by the builder's one call (the guide's Derived/Test/ToyasCard.lean, 'card_holds'). Laid BY PROGRAM, IN A SANDBOX (cutbox-door.mjs). By AI agents, Wed Nov 11 2026. No macro, syntax, notation, axiom, sorry.
-/
import Derived.Test.YtpoegpojlcbfgaaDoorRows
import GoSem.ClaimSeven
namespace Go.Proofs.YtpoegpojlcbfgaaDoor
namespace Rows

/-- THE TIED CARD OF 'sutlerlaw11.CloudOnce'. -/
def cloudOnceCard : Claim7 := { stood := { row := cloudOnceRow, standIns := [], harness := (true, "9ab230bd8584a4beab5968ce8733a60141c07befee2009e928a39f2198a4d249"), looks := true }, kinds := [], alts := [], laidByText := true, laidKinds := [.data, .data, .data], laidTests := true, laidLooks := .later }
def CloudOnceCardSaid : Prop := Claim7.holds Tryd.pinned (.plain (OpenSpec.ofChange cloudOnceSpec)) cloudOnceCard

/-- THE TIED CARD OF 'sutlerlaw11.CloudStocks'. -/
def cloudStocksCard : Claim7 := { stood := { row := cloudStocksRow, standIns := [], harness := (true, "9ab230bd8584a4beab5968ce8733a60141c07befee2009e928a39f2198a4d249"), looks := true }, kinds := [], alts := [], laidByText := true, laidKinds := [.data, .data, .data], laidTests := true, laidLooks := .later }
def CloudStocksCardSaid : Prop := Claim7.holds Tryd.pinned (.plain (OpenSpec.ofChange cloudStocksSpec)) cloudStocksCard

/-- THE TIED CARD OF 'sutlerlaw11.CloudEnds'. -/
def cloudEndsCard : Claim7 := { stood := { row := cloudEndsRow, standIns := [], harness := (true, "9ab230bd8584a4beab5968ce8733a60141c07befee2009e928a39f2198a4d249"), looks := true }, kinds := [], alts := [], laidByText := true, laidKinds := [.data, .data, .data], laidTests := true, laidLooks := .later }
def CloudEndsCardSaid : Prop := Claim7.holds Tryd.pinned (.plain (OpenSpec.ofChange cloudEndsSpec)) cloudEndsCard

/-- THE TIED CARD OF 'sutlerlaw11.CloudNotes'. -/
def cloudNotesCard : Claim7 := { stood := { row := cloudNotesRow, standIns := [], harness := (true, "9ab230bd8584a4beab5968ce8733a60141c07befee2009e928a39f2198a4d249"), looks := true }, kinds := [], alts := [], laidByText := true, laidKinds := [.data, .data, .data], laidTests := true, laidLooks := .later }
def CloudNotesCardSaid : Prop := Claim7.holds Tryd.pinned (.plain (OpenSpec.ofChange cloudNotesSpec)) cloudNotesCard

/-- THE TIED CARD OF 'sutlerlaw11.CloudGoes'. -/
def cloudGoesCard : Claim7 := { stood := { row := cloudGoesRow, standIns := [], harness := (true, "9ab230bd8584a4beab5968ce8733a60141c07befee2009e928a39f2198a4d249"), looks := true }, kinds := [], alts := [], laidByText := true, laidKinds := [.data, .data, .data], laidTests := true, laidLooks := .later }
def CloudGoesCardSaid : Prop := Claim7.holds Tryd.pinned (.plain (OpenSpec.ofChange cloudGoesSpec)) cloudGoesCard

/-- THE SECOND FORM's CARD OF 'sutlerlaw11.CloudOnce'. -/
def cloudOnceUptoCard : Claim7 := { stood := { row := cloudOnceUptoRow, standIns := [], harness := (true, "9ab230bd8584a4beab5968ce8733a60141c07befee2009e928a39f2198a4d249"), looks := true }, kinds := [], alts := [], laidByText := true, laidKinds := [.data, .data, .data], laidTests := true, laidLooks := .later }
def CloudOnceUptoCardSaid : Prop := Claim7.holds Tryd.pinned (.plain (OpenSpec.upto cloudOnceSpec)) cloudOnceUptoCard

/-- THE SECOND FORM's CARD OF 'sutlerlaw11.CloudStocks'. -/
def cloudStocksUptoCard : Claim7 := { stood := { row := cloudStocksUptoRow, standIns := [], harness := (true, "9ab230bd8584a4beab5968ce8733a60141c07befee2009e928a39f2198a4d249"), looks := true }, kinds := [], alts := [], laidByText := true, laidKinds := [.data, .data, .data], laidTests := true, laidLooks := .later }
def CloudStocksUptoCardSaid : Prop := Claim7.holds Tryd.pinned (.plain (OpenSpec.upto cloudStocksSpec)) cloudStocksUptoCard

/-- THE SECOND FORM's CARD OF 'sutlerlaw11.CloudEnds'. -/
def cloudEndsUptoCard : Claim7 := { stood := { row := cloudEndsUptoRow, standIns := [], harness := (true, "9ab230bd8584a4beab5968ce8733a60141c07befee2009e928a39f2198a4d249"), looks := true }, kinds := [], alts := [], laidByText := true, laidKinds := [.data, .data, .data], laidTests := true, laidLooks := .later }
def CloudEndsUptoCardSaid : Prop := Claim7.holds Tryd.pinned (.plain (OpenSpec.upto cloudEndsSpec)) cloudEndsUptoCard

/-- THE SECOND FORM's CARD OF 'sutlerlaw11.CloudNotes'. -/
def cloudNotesUptoCard : Claim7 := { stood := { row := cloudNotesUptoRow, standIns := [], harness := (true, "9ab230bd8584a4beab5968ce8733a60141c07befee2009e928a39f2198a4d249"), looks := true }, kinds := [], alts := [], laidByText := true, laidKinds := [.data, .data, .data], laidTests := true, laidLooks := .later }
def CloudNotesUptoCardSaid : Prop := Claim7.holds Tryd.pinned (.plain (OpenSpec.upto cloudNotesSpec)) cloudNotesUptoCard

/-- THE SECOND FORM's CARD OF 'sutlerlaw11.CloudGoes'. -/
def cloudGoesUptoCard : Claim7 := { stood := { row := cloudGoesUptoRow, standIns := [], harness := (true, "9ab230bd8584a4beab5968ce8733a60141c07befee2009e928a39f2198a4d249"), looks := true }, kinds := [], alts := [], laidByText := true, laidKinds := [.data, .data, .data], laidTests := true, laidLooks := .later }
def CloudGoesUptoCardSaid : Prop := Claim7.holds Tryd.pinned (.plain (OpenSpec.upto cloudGoesSpec)) cloudGoesUptoCard
end Rows
end Go.Proofs.YtpoegpojlcbfgaaDoor
