/-
  DERIVED. GIVEN WITH THE SEED: THE CARDS: each row of YtihjmeoklbmnmaaGreatDoorRows.lean that lists a variable, with what it lists TIED to the program's text (the seventh form; the later family's looks); each row that meets fmt, with fmt's text TOLD by the authors' own Lean function (tested against real Go, not proved from fmt's source: count such statements apart). THE CARD IS WHAT COUNTS. Prove the row's statement (the work); the ties are given (YtihjmeoklbmnmaaGreatDoorTie.lean); close each card by the builder's one call (the guide's Derived/Test/ToyasCard.lean, 'card_holds'). Laid BY PROGRAM, IN A SANDBOX (cutbox-door.mjs). By AI agents, Wed Nov 11 2026. No macro, syntax, notation, axiom, sorry.
-/
import Derived.Test.YtihjmeoklbmnmaaGreatDoorRows
import GoSem.ClaimSeven
namespace Go.Proofs.YtihjmeoklbmnmaaGreatDoor
namespace Rows

/-- THE TIED CARD OF 'bolterlaw3.ClassReads'. -/
def classReadsCard : Claim7 := { stood := { row := classReadsRow, standIns := [], harness := (true, "979e78d424c225c12a5a4452fec926caf2b0c1ce03eb5421f8f7ab47c4782ed4"), looks := true }, kinds := [], alts := [], laidByText := true, laidKinds := [.handle, .sentinel, .sentinel, .sentinel, .sentinel, .sentinel, .sentinel, .sentinel, .sentinel, .sentinel, .sentinel, .sentinel, .sentinel, .sentinel, .sentinel, .sentinel, .sentinel], laidTests := true, laidLooks := .later }
def ClassReadsCardSaid : Prop := Claim7.holds Tryz.pinned (.plain (OpenSpec.ofChange classReadsSpec)) classReadsCard

/-- THE SECOND FORM's CARD OF 'bolterlaw3.ClassReads'. -/
def classReadsUptoCard : Claim7 := { stood := { row := classReadsUptoRow, standIns := [], harness := (true, "979e78d424c225c12a5a4452fec926caf2b0c1ce03eb5421f8f7ab47c4782ed4"), looks := true }, kinds := [], alts := [], laidByText := true, laidKinds := [.handle, .sentinel, .sentinel, .sentinel, .sentinel, .sentinel, .sentinel, .sentinel, .sentinel, .sentinel, .sentinel, .sentinel, .sentinel, .sentinel, .sentinel, .sentinel, .sentinel], laidTests := true, laidLooks := .later }
def ClassReadsUptoCardSaid : Prop := Claim7.holds Tryz.pinned (.plain (OpenSpec.upto classReadsSpec)) classReadsUptoCard
end Rows
end Go.Proofs.YtihjmeoklbmnmaaGreatDoor
