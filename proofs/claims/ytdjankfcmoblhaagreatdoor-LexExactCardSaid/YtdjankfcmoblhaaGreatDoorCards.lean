/-
  DERIVED. GIVEN WITH THE SEED: THE CARDS: each row of YtdjankfcmoblhaaGreatDoorRows.lean that lists a variable, with what it lists TIED to the program's text (the seventh form; the later family's looks); each row that meets fmt, with fmt's text TOLD by the authors' own Lean function (tested against real Go, not proved from fmt's source: count such statements apart). THE CARD IS WHAT COUNTS. Prove the row's statement (the work); the ties are given (YtdjankfcmoblhaaGreatDoorTie.lean); close each card by the builder's one call (the guide's Derived/Test/ToyasCard.lean, 'card_holds'). Laid BY PROGRAM, IN A SANDBOX (cutbox-door.mjs). By AI agents, Wed Nov 11 2026. No macro, syntax, notation, axiom, sorry.
-/
import Derived.Test.YtdjankfcmoblhaaGreatDoorRows
import GoSem.ClaimSeven
namespace Go.Proofs.YtdjankfcmoblhaaGreatDoor
namespace Rows

/-- THE TIED CARD OF 'bolterlaw4.LexExact'. -/
def lexExactCard : Claim7 := { stood := { row := lexExactRow, standIns := [], harness := (true, "6c44e8005882dec58a1daed32ac1908b02b442db50850d460045fd43a17ec4cf"), looks := true }, kinds := [], alts := [], laidByText := true, laidKinds := [.handle, .sentinel, .sentinel, .sentinel, .sentinel, .sentinel, .sentinel, .sentinel, .sentinel, .sentinel, .sentinel, .sentinel, .sentinel, .sentinel, .sentinel, .sentinel, .sentinel], laidTests := true, laidLooks := .later }
def LexExactCardSaid : Prop := Claim7.holds Tryz.pinned (.plain (OpenSpec.ofChange lexExactSpec)) lexExactCard

/-- THE SECOND FORM's CARD OF 'bolterlaw4.LexExact'. -/
def lexExactUptoCard : Claim7 := { stood := { row := lexExactUptoRow, standIns := [], harness := (true, "6c44e8005882dec58a1daed32ac1908b02b442db50850d460045fd43a17ec4cf"), looks := true }, kinds := [], alts := [], laidByText := true, laidKinds := [.handle, .sentinel, .sentinel, .sentinel, .sentinel, .sentinel, .sentinel, .sentinel, .sentinel, .sentinel, .sentinel, .sentinel, .sentinel, .sentinel, .sentinel, .sentinel, .sentinel], laidTests := true, laidLooks := .later }
def LexExactUptoCardSaid : Prop := Claim7.holds Tryz.pinned (.plain (OpenSpec.upto lexExactSpec)) lexExactUptoCard
end Rows
end Go.Proofs.YtdjankfcmoblhaaGreatDoor
