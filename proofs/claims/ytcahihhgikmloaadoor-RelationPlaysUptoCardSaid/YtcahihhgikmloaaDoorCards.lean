/-
  DERIVED. GIVEN WITH THE SEED: THE CARDS: each row of YtcahihhgikmloaaDoorRows.lean that lists a variable, with what it lists TIED to the program's text (the seventh form; the later family's looks); each row that meets fmt, with fmt's text TOLD by the authors' own Lean function (tested against real Go, not proved from fmt's source: count such statements apart). THE CARD IS WHAT COUNTS. Prove the row's statement (the work); the ties are given (YtcahihhgikmloaaDoorTie.lean); close each card by the builder's one call (the guide's Derived/Test/ToyasCard.lean, 'card_holds'). Laid BY PROGRAM, IN A SANDBOX (cutbox-door.mjs). By AI agents, Wed Nov 11 2026. No macro, syntax, notation, axiom, sorry.
-/
import Derived.Test.YtcahihhgikmloaaDoorRows
import GoSem.ClaimSeven
namespace Go.Proofs.YtcahihhgikmloaaDoor
namespace Rows

/-- THE TIED CARD OF 'lambrequinlaw04.RelationOrder'. -/
def relationOrderCard : Claim7 := { stood := { row := relationOrderRow, standIns := [], harness := (true, "fd3b32d8988314dd7fdcbc4a3957782dfae0a91177891e224dda4b4c75dc47ec"), looks := false }, kinds := [], alts := [], laidByText := true, laidKinds := [.data, .data, .data], laidTests := true, laidLooks := .later }
def RelationOrderCardSaid : Prop := Claim7.holds Tryd.pinned (.plain (OpenSpec.ofChange relationOrderSpec)) relationOrderCard

/-- THE TIED CARD OF 'lambrequinlaw04.RelationHas'. -/
def relationHasCard : Claim7 := { stood := { row := relationHasRow, standIns := [], harness := (true, "fd3b32d8988314dd7fdcbc4a3957782dfae0a91177891e224dda4b4c75dc47ec"), looks := false }, kinds := [], alts := [], laidByText := true, laidKinds := [.data, .data, .data], laidTests := true, laidLooks := .later }
def RelationHasCardSaid : Prop := Claim7.holds Tryd.pinned (.plain (OpenSpec.ofChange relationHasSpec)) relationHasCard

/-- THE TIED CARD OF 'lambrequinlaw04.RelationMatches'. -/
def relationMatchesCard : Claim7 := { stood := { row := relationMatchesRow, standIns := [], harness := (true, "fd3b32d8988314dd7fdcbc4a3957782dfae0a91177891e224dda4b4c75dc47ec"), looks := false }, kinds := [], alts := [], laidByText := true, laidKinds := [.data, .data, .data], laidTests := true, laidLooks := .later }
def RelationMatchesCardSaid : Prop := Claim7.holds Tryd.pinned (.plain (OpenSpec.ofChange relationMatchesSpec)) relationMatchesCard

/-- THE TIED CARD OF 'lambrequinlaw04.RelationPlays'. -/
def relationPlaysCard : Claim7 := { stood := { row := relationPlaysRow, standIns := [], harness := (true, "fd3b32d8988314dd7fdcbc4a3957782dfae0a91177891e224dda4b4c75dc47ec"), looks := false }, kinds := [], alts := [], laidByText := true, laidKinds := [.data, .data, .data], laidTests := true, laidLooks := .later }
def RelationPlaysCardSaid : Prop := Claim7.holds Tryd.pinned (.plain (OpenSpec.ofChange relationPlaysSpec)) relationPlaysCard

/-- THE TIED CARD OF 'lambrequinlaw04.RelationTurns'. -/
def relationTurnsCard : Claim7 := { stood := { row := relationTurnsRow, standIns := [], harness := (true, "fd3b32d8988314dd7fdcbc4a3957782dfae0a91177891e224dda4b4c75dc47ec"), looks := false }, kinds := [], alts := [], laidByText := true, laidKinds := [.data, .data, .data], laidTests := true, laidLooks := .later }
def RelationTurnsCardSaid : Prop := Claim7.holds Tryd.pinned (.plain (OpenSpec.ofChange relationTurnsSpec)) relationTurnsCard

/-- THE TIED CARD OF 'lambrequinlaw04.RelationArity'. -/
def relationArityCard : Claim7 := { stood := { row := relationArityRow, standIns := [], harness := (true, "fd3b32d8988314dd7fdcbc4a3957782dfae0a91177891e224dda4b4c75dc47ec"), looks := false }, kinds := [], alts := [], laidByText := true, laidKinds := [.data, .data, .data], laidTests := true, laidLooks := .later }
def RelationArityCardSaid : Prop := Claim7.holds Tryd.pinned (.plain (OpenSpec.ofChange relationAritySpec)) relationArityCard

/-- THE SECOND FORM's CARD OF 'lambrequinlaw04.RelationOrder'. -/
def relationOrderUptoCard : Claim7 := { stood := { row := relationOrderUptoRow, standIns := [], harness := (true, "fd3b32d8988314dd7fdcbc4a3957782dfae0a91177891e224dda4b4c75dc47ec"), looks := false }, kinds := [], alts := [], laidByText := true, laidKinds := [.data, .data, .data], laidTests := true, laidLooks := .later }
def RelationOrderUptoCardSaid : Prop := Claim7.holds Tryd.pinned (.plain (OpenSpec.upto relationOrderSpec)) relationOrderUptoCard

/-- THE SECOND FORM's CARD OF 'lambrequinlaw04.RelationHas'. -/
def relationHasUptoCard : Claim7 := { stood := { row := relationHasUptoRow, standIns := [], harness := (true, "fd3b32d8988314dd7fdcbc4a3957782dfae0a91177891e224dda4b4c75dc47ec"), looks := false }, kinds := [], alts := [], laidByText := true, laidKinds := [.data, .data, .data], laidTests := true, laidLooks := .later }
def RelationHasUptoCardSaid : Prop := Claim7.holds Tryd.pinned (.plain (OpenSpec.upto relationHasSpec)) relationHasUptoCard

/-- THE SECOND FORM's CARD OF 'lambrequinlaw04.RelationMatches'. -/
def relationMatchesUptoCard : Claim7 := { stood := { row := relationMatchesUptoRow, standIns := [], harness := (true, "fd3b32d8988314dd7fdcbc4a3957782dfae0a91177891e224dda4b4c75dc47ec"), looks := false }, kinds := [], alts := [], laidByText := true, laidKinds := [.data, .data, .data], laidTests := true, laidLooks := .later }
def RelationMatchesUptoCardSaid : Prop := Claim7.holds Tryd.pinned (.plain (OpenSpec.upto relationMatchesSpec)) relationMatchesUptoCard

/-- THE SECOND FORM's CARD OF 'lambrequinlaw04.RelationPlays'. -/
def relationPlaysUptoCard : Claim7 := { stood := { row := relationPlaysUptoRow, standIns := [], harness := (true, "fd3b32d8988314dd7fdcbc4a3957782dfae0a91177891e224dda4b4c75dc47ec"), looks := false }, kinds := [], alts := [], laidByText := true, laidKinds := [.data, .data, .data], laidTests := true, laidLooks := .later }
def RelationPlaysUptoCardSaid : Prop := Claim7.holds Tryd.pinned (.plain (OpenSpec.upto relationPlaysSpec)) relationPlaysUptoCard

/-- THE SECOND FORM's CARD OF 'lambrequinlaw04.RelationTurns'. -/
def relationTurnsUptoCard : Claim7 := { stood := { row := relationTurnsUptoRow, standIns := [], harness := (true, "fd3b32d8988314dd7fdcbc4a3957782dfae0a91177891e224dda4b4c75dc47ec"), looks := false }, kinds := [], alts := [], laidByText := true, laidKinds := [.data, .data, .data], laidTests := true, laidLooks := .later }
def RelationTurnsUptoCardSaid : Prop := Claim7.holds Tryd.pinned (.plain (OpenSpec.upto relationTurnsSpec)) relationTurnsUptoCard

/-- THE SECOND FORM's CARD OF 'lambrequinlaw04.RelationArity'. -/
def relationArityUptoCard : Claim7 := { stood := { row := relationArityUptoRow, standIns := [], harness := (true, "fd3b32d8988314dd7fdcbc4a3957782dfae0a91177891e224dda4b4c75dc47ec"), looks := false }, kinds := [], alts := [], laidByText := true, laidKinds := [.data, .data, .data], laidTests := true, laidLooks := .later }
def RelationArityUptoCardSaid : Prop := Claim7.holds Tryd.pinned (.plain (OpenSpec.upto relationAritySpec)) relationArityUptoCard
end Rows
end Go.Proofs.YtcahihhgikmloaaDoor
