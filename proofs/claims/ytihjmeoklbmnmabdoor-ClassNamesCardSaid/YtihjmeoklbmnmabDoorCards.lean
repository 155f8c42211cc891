/-
  DERIVED. GIVEN WITH THE SEED: THE CARDS: each row of YtihjmeoklbmnmabDoorRows.lean that lists a variable, with what it lists TIED to the program's text (the seventh form; the later family's looks); each row that meets fmt, with fmt's text TOLD by the authors' own Lean function (tested against real Go, not proved from fmt's source: count such statements apart). THE CARD IS WHAT COUNTS. Prove the row's statement (the work); the ties are given (YtihjmeoklbmnmabDoorTie.lean); close each card by the builder's one call (the guide's Derived/Test/ToyasCard.lean, 'card_holds'). Laid BY PROGRAM, IN A SANDBOX (cutbox-door.mjs). By AI agents, Wed Nov 11 2026. No macro, syntax, notation, axiom, sorry.
-/
import Derived.Test.YtihjmeoklbmnmabDoorRows
import GoSem.ClaimSeven
namespace Go.Proofs.YtihjmeoklbmnmabDoor
namespace Rows

/-- THE TIED CARD OF 'bolterlaw3.ClassUnquotes'. -/
def classUnquotesCard : Claim7 := { stood := { row := classUnquotesRow, standIns := [], harness := (true, "fe94e79f714c7c0241822935677736eb9622280a4e404eee829ccf4d4fac9a8a"), looks := true }, kinds := [], alts := [], laidByText := true, laidKinds := [.handle, .sentinel, .sentinel, .sentinel, .sentinel, .sentinel, .sentinel, .sentinel, .sentinel, .sentinel, .sentinel, .sentinel, .sentinel, .sentinel, .sentinel, .sentinel, .sentinel], laidTests := true, laidLooks := .later }
def ClassUnquotesCardSaid : Prop := Claim7.holds Tryd.pinned (.plain (OpenSpec.ofChange classUnquotesSpec)) classUnquotesCard

/-- THE TIED CARD OF 'bolterlaw3.ClassMoves'. -/
def classMovesCard : Claim7 := { stood := { row := classMovesRow, standIns := [], harness := (true, "fe94e79f714c7c0241822935677736eb9622280a4e404eee829ccf4d4fac9a8a"), looks := true }, kinds := [], alts := [], laidByText := true, laidKinds := [.handle, .sentinel, .sentinel, .sentinel, .sentinel, .sentinel, .sentinel, .sentinel, .sentinel, .sentinel, .sentinel, .sentinel, .sentinel, .sentinel, .sentinel, .sentinel, .sentinel], laidTests := true, laidLooks := .later }
def ClassMovesCardSaid : Prop := Claim7.holds Tryd.pinned (.plain (OpenSpec.ofChange classMovesSpec)) classMovesCard

/-- THE TIED CARD OF 'bolterlaw3.ClassNames'. -/
def classNamesCard : Claim7 := { stood := { row := classNamesRow, standIns := [], harness := (true, "fe94e79f714c7c0241822935677736eb9622280a4e404eee829ccf4d4fac9a8a"), looks := true }, kinds := [], alts := [], laidByText := true, laidKinds := [.handle, .sentinel, .sentinel, .sentinel, .sentinel, .sentinel, .sentinel, .sentinel, .sentinel, .sentinel, .sentinel, .sentinel, .sentinel, .sentinel, .sentinel, .sentinel, .sentinel], laidTests := true, laidLooks := .later }
def ClassNamesCardSaid : Prop := Claim7.holds Tryd.pinned (.plain (OpenSpec.ofChange classNamesSpec)) classNamesCard

/-- THE SECOND FORM's CARD OF 'bolterlaw3.ClassUnquotes'. -/
def classUnquotesUptoCard : Claim7 := { stood := { row := classUnquotesUptoRow, standIns := [], harness := (true, "fe94e79f714c7c0241822935677736eb9622280a4e404eee829ccf4d4fac9a8a"), looks := true }, kinds := [], alts := [], laidByText := true, laidKinds := [.handle, .sentinel, .sentinel, .sentinel, .sentinel, .sentinel, .sentinel, .sentinel, .sentinel, .sentinel, .sentinel, .sentinel, .sentinel, .sentinel, .sentinel, .sentinel, .sentinel], laidTests := true, laidLooks := .later }
def ClassUnquotesUptoCardSaid : Prop := Claim7.holds Tryd.pinned (.plain (OpenSpec.upto classUnquotesSpec)) classUnquotesUptoCard

/-- THE SECOND FORM's CARD OF 'bolterlaw3.ClassMoves'. -/
def classMovesUptoCard : Claim7 := { stood := { row := classMovesUptoRow, standIns := [], harness := (true, "fe94e79f714c7c0241822935677736eb9622280a4e404eee829ccf4d4fac9a8a"), looks := true }, kinds := [], alts := [], laidByText := true, laidKinds := [.handle, .sentinel, .sentinel, .sentinel, .sentinel, .sentinel, .sentinel, .sentinel, .sentinel, .sentinel, .sentinel, .sentinel, .sentinel, .sentinel, .sentinel, .sentinel, .sentinel], laidTests := true, laidLooks := .later }
def ClassMovesUptoCardSaid : Prop := Claim7.holds Tryd.pinned (.plain (OpenSpec.upto classMovesSpec)) classMovesUptoCard

/-- THE SECOND FORM's CARD OF 'bolterlaw3.ClassNames'. -/
def classNamesUptoCard : Claim7 := { stood := { row := classNamesUptoRow, standIns := [], harness := (true, "fe94e79f714c7c0241822935677736eb9622280a4e404eee829ccf4d4fac9a8a"), looks := true }, kinds := [], alts := [], laidByText := true, laidKinds := [.handle, .sentinel, .sentinel, .sentinel, .sentinel, .sentinel, .sentinel, .sentinel, .sentinel, .sentinel, .sentinel, .sentinel, .sentinel, .sentinel, .sentinel, .sentinel, .sentinel], laidTests := true, laidLooks := .later }
def ClassNamesUptoCardSaid : Prop := Claim7.holds Tryd.pinned (.plain (OpenSpec.upto classNamesSpec)) classNamesUptoCard
end Rows
end Go.Proofs.YtihjmeoklbmnmabDoor
