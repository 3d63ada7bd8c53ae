/-
  DERIVED. GIVEN WITH THE SEED: THE CARDS: each row of YtnpidlhooilddaaDoorRows.lean that lists a variable, with what it lists TIED to the program's text (the seventh form; the later family's looks); each row that meets fmt, with fmt's text TOLD by the authors' own Lean function (tested against real Go, not proved from fmt's source: count such statements apart). THE CARD IS WHAT COUNTS. Prove the row's statement (the work); the ties are given (YtnpidlhooilddaaDoorTie.lean); close each card by the builder's one call (the guide's Derived/Test/ToyasCard.lean, 'card_holds'). Laid BY PROGRAM, IN A SANDBOX (cutbox-door.mjs). By AI agents, Wed Nov 11 2026. No macro, syntax, notation, axiom, sorry.
-/
import Derived.Test.YtnpidlhooilddaaDoorRows
import GoSem.ClaimSeven
namespace Go.Proofs.YtnpidlhooilddaaDoor
namespace Rows

/-- THE TIED CARD OF 'lambrequinlaw03.TupleOrder'. -/
def tupleOrderCard : Claim7 := { stood := { row := tupleOrderRow, standIns := [], harness := (true, "27da01a2c11e86019ae23025687c473de2bacd293d75d8e5b00883402942a775"), looks := true }, kinds := [], alts := [], laidByText := true, laidKinds := [.data, .data, .data], laidTests := true, laidLooks := .later }
def TupleOrderCardSaid : Prop := Claim7.holds Tryd.pinned (.plain (OpenSpec.ofChange tupleOrderSpec)) tupleOrderCard

/-- THE TIED CARD OF 'lambrequinlaw03.TupleJoins'. -/
def tupleJoinsCard : Claim7 := { stood := { row := tupleJoinsRow, standIns := [], harness := (true, "27da01a2c11e86019ae23025687c473de2bacd293d75d8e5b00883402942a775"), looks := true }, kinds := [], alts := [], laidByText := true, laidKinds := [.data, .data, .data], laidTests := true, laidLooks := .later }
def TupleJoinsCardSaid : Prop := Claim7.holds Tryd.pinned (.plain (OpenSpec.ofChange tupleJoinsSpec)) tupleJoinsCard

/-- THE TIED CARD OF 'lambrequinlaw03.TupleProjects'. -/
def tupleProjectsCard : Claim7 := { stood := { row := tupleProjectsRow, standIns := [], harness := (true, "27da01a2c11e86019ae23025687c473de2bacd293d75d8e5b00883402942a775"), looks := true }, kinds := [], alts := [], laidByText := true, laidKinds := [.data, .data, .data], laidTests := true, laidLooks := .later }
def TupleProjectsCardSaid : Prop := Claim7.holds Tryd.pinned (.plain (OpenSpec.ofChange tupleProjectsSpec)) tupleProjectsCard

/-- THE TIED CARD OF 'lambrequinlaw03.TupleSorts'. -/
def tupleSortsCard : Claim7 := { stood := { row := tupleSortsRow, standIns := [], harness := (true, "27da01a2c11e86019ae23025687c473de2bacd293d75d8e5b00883402942a775"), looks := true }, kinds := [], alts := [], laidByText := true, laidKinds := [.data, .data, .data], laidTests := true, laidLooks := .later }
def TupleSortsCardSaid : Prop := Claim7.holds Tryd.pinned (.plain (OpenSpec.ofChange tupleSortsSpec)) tupleSortsCard

/-- THE TIED CARD OF 'lambrequinlaw03.TupleSorted'. -/
def tupleSortedCard : Claim7 := { stood := { row := tupleSortedRow, standIns := [], harness := (true, "27da01a2c11e86019ae23025687c473de2bacd293d75d8e5b00883402942a775"), looks := true }, kinds := [], alts := [], laidByText := true, laidKinds := [.data, .data, .data], laidTests := true, laidLooks := .later }
def TupleSortedCardSaid : Prop := Claim7.holds Tryd.pinned (.plain (OpenSpec.ofChange tupleSortedSpec)) tupleSortedCard

/-- THE TIED CARD OF 'lambrequinlaw03.TupleBack'. -/
def tupleBackCard : Claim7 := { stood := { row := tupleBackRow, standIns := [], harness := (true, "27da01a2c11e86019ae23025687c473de2bacd293d75d8e5b00883402942a775"), looks := true }, kinds := [], alts := [], laidByText := true, laidKinds := [.data, .data, .data, .sentinel, .sentinel], laidTests := true, laidLooks := .later }
def TupleBackCardSaid : Prop := Claim7.holds Tryd.pinned (.plain (OpenSpec.ofChange tupleBackSpec)) tupleBackCard

/-- THE TIED CARD OF 'lambrequinlaw03.TupleTells'. -/
def tupleTellsCard : Claim7 := { stood := { row := tupleTellsRow, standIns := [], harness := (true, "27da01a2c11e86019ae23025687c473de2bacd293d75d8e5b00883402942a775"), looks := true }, kinds := [], alts := [], laidByText := true, laidKinds := [.data, .data, .data, .sentinel, .sentinel], laidTests := true, laidLooks := .later }
def TupleTellsCardSaid : Prop := Claim7.holds Tryd.pinned (.plain (OpenSpec.ofChange tupleTellsSpec)) tupleTellsCard

/-- THE SECOND FORM's CARD OF 'lambrequinlaw03.TupleOrder'. -/
def tupleOrderUptoCard : Claim7 := { stood := { row := tupleOrderUptoRow, standIns := [], harness := (true, "27da01a2c11e86019ae23025687c473de2bacd293d75d8e5b00883402942a775"), looks := true }, kinds := [], alts := [], laidByText := true, laidKinds := [.data, .data, .data], laidTests := true, laidLooks := .later }
def TupleOrderUptoCardSaid : Prop := Claim7.holds Tryd.pinned (.plain (OpenSpec.upto tupleOrderSpec)) tupleOrderUptoCard

/-- THE SECOND FORM's CARD OF 'lambrequinlaw03.TupleJoins'. -/
def tupleJoinsUptoCard : Claim7 := { stood := { row := tupleJoinsUptoRow, standIns := [], harness := (true, "27da01a2c11e86019ae23025687c473de2bacd293d75d8e5b00883402942a775"), looks := true }, kinds := [], alts := [], laidByText := true, laidKinds := [.data, .data, .data], laidTests := true, laidLooks := .later }
def TupleJoinsUptoCardSaid : Prop := Claim7.holds Tryd.pinned (.plain (OpenSpec.upto tupleJoinsSpec)) tupleJoinsUptoCard

/-- THE SECOND FORM's CARD OF 'lambrequinlaw03.TupleProjects'. -/
def tupleProjectsUptoCard : Claim7 := { stood := { row := tupleProjectsUptoRow, standIns := [], harness := (true, "27da01a2c11e86019ae23025687c473de2bacd293d75d8e5b00883402942a775"), looks := true }, kinds := [], alts := [], laidByText := true, laidKinds := [.data, .data, .data], laidTests := true, laidLooks := .later }
def TupleProjectsUptoCardSaid : Prop := Claim7.holds Tryd.pinned (.plain (OpenSpec.upto tupleProjectsSpec)) tupleProjectsUptoCard

/-- THE SECOND FORM's CARD OF 'lambrequinlaw03.TupleSorts'. -/
def tupleSortsUptoCard : Claim7 := { stood := { row := tupleSortsUptoRow, standIns := [], harness := (true, "27da01a2c11e86019ae23025687c473de2bacd293d75d8e5b00883402942a775"), looks := true }, kinds := [], alts := [], laidByText := true, laidKinds := [.data, .data, .data], laidTests := true, laidLooks := .later }
def TupleSortsUptoCardSaid : Prop := Claim7.holds Tryd.pinned (.plain (OpenSpec.upto tupleSortsSpec)) tupleSortsUptoCard

/-- THE SECOND FORM's CARD OF 'lambrequinlaw03.TupleSorted'. -/
def tupleSortedUptoCard : Claim7 := { stood := { row := tupleSortedUptoRow, standIns := [], harness := (true, "27da01a2c11e86019ae23025687c473de2bacd293d75d8e5b00883402942a775"), looks := true }, kinds := [], alts := [], laidByText := true, laidKinds := [.data, .data, .data], laidTests := true, laidLooks := .later }
def TupleSortedUptoCardSaid : Prop := Claim7.holds Tryd.pinned (.plain (OpenSpec.upto tupleSortedSpec)) tupleSortedUptoCard

/-- THE SECOND FORM's CARD OF 'lambrequinlaw03.TupleBack'. -/
def tupleBackUptoCard : Claim7 := { stood := { row := tupleBackUptoRow, standIns := [], harness := (true, "27da01a2c11e86019ae23025687c473de2bacd293d75d8e5b00883402942a775"), looks := true }, kinds := [], alts := [], laidByText := true, laidKinds := [.data, .data, .data, .sentinel, .sentinel], laidTests := true, laidLooks := .later }
def TupleBackUptoCardSaid : Prop := Claim7.holds Tryd.pinned (.plain (OpenSpec.upto tupleBackSpec)) tupleBackUptoCard

/-- THE SECOND FORM's CARD OF 'lambrequinlaw03.TupleTells'. -/
def tupleTellsUptoCard : Claim7 := { stood := { row := tupleTellsUptoRow, standIns := [], harness := (true, "27da01a2c11e86019ae23025687c473de2bacd293d75d8e5b00883402942a775"), looks := true }, kinds := [], alts := [], laidByText := true, laidKinds := [.data, .data, .data, .sentinel, .sentinel], laidTests := true, laidLooks := .later }
def TupleTellsUptoCardSaid : Prop := Claim7.holds Tryd.pinned (.plain (OpenSpec.upto tupleTellsSpec)) tupleTellsUptoCard
end Rows
end Go.Proofs.YtnpidlhooilddaaDoor
