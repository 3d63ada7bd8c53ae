/-
  DERIVED. GIVEN WITH THE SEED: THE CARDS: each row of YtkfociekgeldnaaDoorRows.lean that lists a variable, with what it lists TIED to the program's text (the seventh form; the later family's looks); each row that meets fmt, with fmt's text TOLD by the authors' own Lean function (tested against real Go, not proved from fmt's source: count such statements apart). THE CARD IS WHAT COUNTS. Prove the row's statement (the work); the ties are given (YtkfociekgeldnaaDoorTie.lean); close each card by the builder's one call (the guide's Derived/Test/ToyasCard.lean, 'card_holds'). Laid BY PROGRAM, IN A SANDBOX (cutbox-door.mjs). By AI agents, Wed Nov 11 2026. No macro, syntax, notation, axiom, sorry.
-/
import Derived.Test.YtkfociekgeldnaaDoorRows
import GoSem.ClaimSeven
namespace Go.Proofs.YtkfociekgeldnaaDoor
namespace Rows

/-- THE TIED CARD OF 'lambrequinlaw19.IrParses'. -/
def irParsesCard : Claim7 := { stood := { row := irParsesRow, standIns := [], harness := (true, "851d05670a0de29db740f1eb2988f2ed4aa06f3f454078ef1a3b7861c7d127f3"), looks := true }, kinds := [], alts := [], laidByText := true, laidKinds := [.data, .data, .data, .data, .sentinel, .sentinel, .pinned], laidTests := true, laidLooks := .later }
def IrParsesCardSaid : Prop := Claim7.holds Tryd.pinned (.plain (OpenSpec.ofChange irParsesSpec)) irParsesCard

/-- THE TIED CARD OF 'lambrequinlaw19.IrChecks'. -/
def irChecksCard : Claim7 := { stood := { row := irChecksRow, standIns := [], harness := (true, "851d05670a0de29db740f1eb2988f2ed4aa06f3f454078ef1a3b7861c7d127f3"), looks := true }, kinds := [], alts := [], laidByText := true, laidKinds := [.data, .data, .data, .data, .sentinel, .sentinel, .pinned], laidTests := true, laidLooks := .later }
def IrChecksCardSaid : Prop := Claim7.holds Tryd.pinned (.plain (OpenSpec.ofChange irChecksSpec)) irChecksCard

/-- THE TIED CARD OF 'lambrequinlaw19.IrLeads'. -/
def irLeadsCard : Claim7 := { stood := { row := irLeadsRow, standIns := [], harness := (true, "851d05670a0de29db740f1eb2988f2ed4aa06f3f454078ef1a3b7861c7d127f3"), looks := true }, kinds := [], alts := [], laidByText := true, laidKinds := [.data, .data, .data, .data, .sentinel, .sentinel, .pinned], laidTests := true, laidLooks := .later }
def IrLeadsCardSaid : Prop := Claim7.holds Tryd.pinned (.plain (OpenSpec.ofChange irLeadsSpec)) irLeadsCard

/-- THE TIED CARD OF 'lambrequinlaw19.IrTexts'. -/
def irTextsCard : Claim7 := { stood := { row := irTextsRow, standIns := [], harness := (true, "851d05670a0de29db740f1eb2988f2ed4aa06f3f454078ef1a3b7861c7d127f3"), looks := true }, kinds := [], alts := [], laidByText := true, laidKinds := [.data, .data, .data, .data, .sentinel, .sentinel, .pinned], laidTests := true, laidLooks := .later }
def IrTextsCardSaid : Prop := Claim7.holds Tryd.pinned (.plain (OpenSpec.ofChange irTextsSpec)) irTextsCard

/-- THE TIED CARD OF 'lambrequinlaw19.IrBack'. -/
def irBackCard : Claim7 := { stood := { row := irBackRow, standIns := [], harness := (true, "851d05670a0de29db740f1eb2988f2ed4aa06f3f454078ef1a3b7861c7d127f3"), looks := true }, kinds := [], alts := [], laidByText := true, laidKinds := [.data, .data, .data, .data, .sentinel, .sentinel, .pinned], laidTests := true, laidLooks := .later }
def IrBackCardSaid : Prop := Claim7.holds Tryd.pinned (.plain (OpenSpec.ofChange irBackSpec)) irBackCard

/-- THE TIED CARD OF 'lambrequinlaw19.IrOnes'. -/
def irOnesCard : Claim7 := { stood := { row := irOnesRow, standIns := [], harness := (true, "851d05670a0de29db740f1eb2988f2ed4aa06f3f454078ef1a3b7861c7d127f3"), looks := true }, kinds := [], alts := [], laidByText := true, laidKinds := [.data, .data, .data, .data, .sentinel, .sentinel, .pinned], laidTests := true, laidLooks := .later }
def IrOnesCardSaid : Prop := Claim7.holds Tryd.pinned (.plain (OpenSpec.ofChange irOnesSpec)) irOnesCard

/-- THE TIED CARD OF 'lambrequinlaw19.IrLines'. -/
def irLinesCard : Claim7 := { stood := { row := irLinesRow, standIns := [], harness := (true, "851d05670a0de29db740f1eb2988f2ed4aa06f3f454078ef1a3b7861c7d127f3"), looks := true }, kinds := [], alts := [], laidByText := true, laidKinds := [.data, .data, .data, .data, .sentinel, .sentinel, .pinned], laidTests := true, laidLooks := .later }
def IrLinesCardSaid : Prop := Claim7.holds Tryd.pinned (.plain (OpenSpec.ofChange irLinesSpec)) irLinesCard

/-- THE SECOND FORM's CARD OF 'lambrequinlaw19.IrParses'. -/
def irParsesUptoCard : Claim7 := { stood := { row := irParsesUptoRow, standIns := [], harness := (true, "851d05670a0de29db740f1eb2988f2ed4aa06f3f454078ef1a3b7861c7d127f3"), looks := true }, kinds := [], alts := [], laidByText := true, laidKinds := [.data, .data, .data, .data, .sentinel, .sentinel, .pinned], laidTests := true, laidLooks := .later }
def IrParsesUptoCardSaid : Prop := Claim7.holds Tryd.pinned (.plain (OpenSpec.upto irParsesSpec)) irParsesUptoCard

/-- THE SECOND FORM's CARD OF 'lambrequinlaw19.IrChecks'. -/
def irChecksUptoCard : Claim7 := { stood := { row := irChecksUptoRow, standIns := [], harness := (true, "851d05670a0de29db740f1eb2988f2ed4aa06f3f454078ef1a3b7861c7d127f3"), looks := true }, kinds := [], alts := [], laidByText := true, laidKinds := [.data, .data, .data, .data, .sentinel, .sentinel, .pinned], laidTests := true, laidLooks := .later }
def IrChecksUptoCardSaid : Prop := Claim7.holds Tryd.pinned (.plain (OpenSpec.upto irChecksSpec)) irChecksUptoCard

/-- THE SECOND FORM's CARD OF 'lambrequinlaw19.IrLeads'. -/
def irLeadsUptoCard : Claim7 := { stood := { row := irLeadsUptoRow, standIns := [], harness := (true, "851d05670a0de29db740f1eb2988f2ed4aa06f3f454078ef1a3b7861c7d127f3"), looks := true }, kinds := [], alts := [], laidByText := true, laidKinds := [.data, .data, .data, .data, .sentinel, .sentinel, .pinned], laidTests := true, laidLooks := .later }
def IrLeadsUptoCardSaid : Prop := Claim7.holds Tryd.pinned (.plain (OpenSpec.upto irLeadsSpec)) irLeadsUptoCard

/-- THE SECOND FORM's CARD OF 'lambrequinlaw19.IrTexts'. -/
def irTextsUptoCard : Claim7 := { stood := { row := irTextsUptoRow, standIns := [], harness := (true, "851d05670a0de29db740f1eb2988f2ed4aa06f3f454078ef1a3b7861c7d127f3"), looks := true }, kinds := [], alts := [], laidByText := true, laidKinds := [.data, .data, .data, .data, .sentinel, .sentinel, .pinned], laidTests := true, laidLooks := .later }
def IrTextsUptoCardSaid : Prop := Claim7.holds Tryd.pinned (.plain (OpenSpec.upto irTextsSpec)) irTextsUptoCard

/-- THE SECOND FORM's CARD OF 'lambrequinlaw19.IrBack'. -/
def irBackUptoCard : Claim7 := { stood := { row := irBackUptoRow, standIns := [], harness := (true, "851d05670a0de29db740f1eb2988f2ed4aa06f3f454078ef1a3b7861c7d127f3"), looks := true }, kinds := [], alts := [], laidByText := true, laidKinds := [.data, .data, .data, .data, .sentinel, .sentinel, .pinned], laidTests := true, laidLooks := .later }
def IrBackUptoCardSaid : Prop := Claim7.holds Tryd.pinned (.plain (OpenSpec.upto irBackSpec)) irBackUptoCard

/-- THE SECOND FORM's CARD OF 'lambrequinlaw19.IrOnes'. -/
def irOnesUptoCard : Claim7 := { stood := { row := irOnesUptoRow, standIns := [], harness := (true, "851d05670a0de29db740f1eb2988f2ed4aa06f3f454078ef1a3b7861c7d127f3"), looks := true }, kinds := [], alts := [], laidByText := true, laidKinds := [.data, .data, .data, .data, .sentinel, .sentinel, .pinned], laidTests := true, laidLooks := .later }
def IrOnesUptoCardSaid : Prop := Claim7.holds Tryd.pinned (.plain (OpenSpec.upto irOnesSpec)) irOnesUptoCard

/-- THE SECOND FORM's CARD OF 'lambrequinlaw19.IrLines'. -/
def irLinesUptoCard : Claim7 := { stood := { row := irLinesUptoRow, standIns := [], harness := (true, "851d05670a0de29db740f1eb2988f2ed4aa06f3f454078ef1a3b7861c7d127f3"), looks := true }, kinds := [], alts := [], laidByText := true, laidKinds := [.data, .data, .data, .data, .sentinel, .sentinel, .pinned], laidTests := true, laidLooks := .later }
def IrLinesUptoCardSaid : Prop := Claim7.holds Tryd.pinned (.plain (OpenSpec.upto irLinesSpec)) irLinesUptoCard
end Rows
end Go.Proofs.YtkfociekgeldnaaDoor
