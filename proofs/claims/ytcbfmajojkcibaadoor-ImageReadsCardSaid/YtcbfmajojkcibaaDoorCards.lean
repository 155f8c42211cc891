/-
  DERIVED. GIVEN WITH THE SEED: THE CARDS: each row of YtcbfmajojkcibaaDoorRows.lean that lists a variable, with what it lists TIED to the program's text (the seventh form; the later family's looks); each row that meets fmt, with fmt's text TOLD by the authors' own Lean function (tested against real Go, not proved from fmt's source: count such statements apart). THE CARD IS WHAT COUNTS. Prove the row's statement (the work); the ties are given (YtcbfmajojkcibaaDoorTie.lean); close each card by the builder's one call (the guide's Derived/Test/ToyasCard.lean, 'card_holds'). Laid BY PROGRAM, IN A SANDBOX (cutbox-door.mjs). By AI agents, Wed Nov 11 2026. No macro, syntax, notation, axiom, sorry.
-/
import Derived.Test.YtcbfmajojkcibaaDoorRows
import GoSem.ClaimSeven
namespace Go.Proofs.YtcbfmajojkcibaaDoor
namespace Rows

/-- THE TIED CARD OF 'bolterlaw17.ImageExact'. -/
def imageExactCard : Claim7 := { stood := { row := imageExactRow, standIns := [], harness := (true, "5f466ba544f3240a15b963410036a2291a44abec927ccc3f4dc22e73fc4d2955"), looks := true }, kinds := [], alts := [], laidByText := true, laidKinds := [.handle, .sentinel, .sentinel, .sentinel, .sentinel, .sentinel, .sentinel, .sentinel, .sentinel, .sentinel, .sentinel, .sentinel, .sentinel, .sentinel, .sentinel, .sentinel, .sentinel], laidTests := true, laidLooks := .later }
def ImageExactCardSaid : Prop := Claim7.holds Tryd.pinned (.plain (OpenSpec.ofChange imageExactSpec)) imageExactCard

/-- THE TIED CARD OF 'bolterlaw17.ImageReads'. -/
def imageReadsCard : Claim7 := { stood := { row := imageReadsRow, standIns := [], harness := (true, "5f466ba544f3240a15b963410036a2291a44abec927ccc3f4dc22e73fc4d2955"), looks := true }, kinds := [], alts := [], laidByText := true, laidKinds := [.handle, .sentinel, .sentinel, .sentinel, .sentinel, .sentinel, .sentinel, .sentinel, .sentinel, .sentinel, .sentinel, .sentinel, .sentinel, .sentinel, .sentinel, .sentinel, .sentinel], laidTests := true, laidLooks := .later }
def ImageReadsCardSaid : Prop := Claim7.holds Tryd.pinned (.plain (OpenSpec.ofChange imageReadsSpec)) imageReadsCard

/-- THE TIED CARD OF 'bolterlaw17.ImageBack'. -/
def imageBackCard : Claim7 := { stood := { row := imageBackRow, standIns := [], harness := (true, "5f466ba544f3240a15b963410036a2291a44abec927ccc3f4dc22e73fc4d2955"), looks := true }, kinds := [], alts := [], laidByText := true, laidKinds := [.handle, .sentinel, .sentinel, .sentinel, .sentinel, .sentinel, .sentinel, .sentinel, .sentinel, .sentinel, .sentinel, .sentinel, .sentinel, .sentinel, .sentinel, .sentinel, .sentinel], laidTests := true, laidLooks := .later }
def ImageBackCardSaid : Prop := Claim7.holds Tryd.pinned (.plain (OpenSpec.ofChange imageBackSpec)) imageBackCard

/-- THE TIED CARD OF 'bolterlaw17.ImageGreat'. -/
def imageGreatCard : Claim7 := { stood := { row := imageGreatRow, standIns := [], harness := (true, "5f466ba544f3240a15b963410036a2291a44abec927ccc3f4dc22e73fc4d2955"), looks := true }, kinds := [], alts := [], laidByText := true, laidKinds := [.handle, .sentinel, .sentinel, .sentinel, .sentinel, .sentinel, .sentinel, .sentinel, .sentinel, .sentinel, .sentinel, .sentinel, .sentinel, .sentinel, .sentinel, .sentinel, .sentinel], laidTests := true, laidLooks := .later }
def ImageGreatCardSaid : Prop := Claim7.holds Tryd.pinned (.plain (OpenSpec.ofChange imageGreatSpec)) imageGreatCard

/-- THE TIED CARD OF 'bolterlaw17.ImageHurt'. -/
def imageHurtCard : Claim7 := { stood := { row := imageHurtRow, standIns := [], harness := (true, "5f466ba544f3240a15b963410036a2291a44abec927ccc3f4dc22e73fc4d2955"), looks := true }, kinds := [], alts := [], laidByText := true, laidKinds := [.handle, .sentinel, .sentinel, .sentinel, .sentinel, .sentinel, .sentinel, .sentinel, .sentinel, .sentinel, .sentinel, .sentinel, .sentinel, .sentinel, .sentinel, .sentinel, .sentinel], laidTests := true, laidLooks := .later }
def ImageHurtCardSaid : Prop := Claim7.holds Tryd.pinned (.plain (OpenSpec.ofChange imageHurtSpec)) imageHurtCard

/-- THE SECOND FORM's CARD OF 'bolterlaw17.ImageExact'. -/
def imageExactUptoCard : Claim7 := { stood := { row := imageExactUptoRow, standIns := [], harness := (true, "5f466ba544f3240a15b963410036a2291a44abec927ccc3f4dc22e73fc4d2955"), looks := true }, kinds := [], alts := [], laidByText := true, laidKinds := [.handle, .sentinel, .sentinel, .sentinel, .sentinel, .sentinel, .sentinel, .sentinel, .sentinel, .sentinel, .sentinel, .sentinel, .sentinel, .sentinel, .sentinel, .sentinel, .sentinel], laidTests := true, laidLooks := .later }
def ImageExactUptoCardSaid : Prop := Claim7.holds Tryd.pinned (.plain (OpenSpec.upto imageExactSpec)) imageExactUptoCard

/-- THE SECOND FORM's CARD OF 'bolterlaw17.ImageReads'. -/
def imageReadsUptoCard : Claim7 := { stood := { row := imageReadsUptoRow, standIns := [], harness := (true, "5f466ba544f3240a15b963410036a2291a44abec927ccc3f4dc22e73fc4d2955"), looks := true }, kinds := [], alts := [], laidByText := true, laidKinds := [.handle, .sentinel, .sentinel, .sentinel, .sentinel, .sentinel, .sentinel, .sentinel, .sentinel, .sentinel, .sentinel, .sentinel, .sentinel, .sentinel, .sentinel, .sentinel, .sentinel], laidTests := true, laidLooks := .later }
def ImageReadsUptoCardSaid : Prop := Claim7.holds Tryd.pinned (.plain (OpenSpec.upto imageReadsSpec)) imageReadsUptoCard

/-- THE SECOND FORM's CARD OF 'bolterlaw17.ImageBack'. -/
def imageBackUptoCard : Claim7 := { stood := { row := imageBackUptoRow, standIns := [], harness := (true, "5f466ba544f3240a15b963410036a2291a44abec927ccc3f4dc22e73fc4d2955"), looks := true }, kinds := [], alts := [], laidByText := true, laidKinds := [.handle, .sentinel, .sentinel, .sentinel, .sentinel, .sentinel, .sentinel, .sentinel, .sentinel, .sentinel, .sentinel, .sentinel, .sentinel, .sentinel, .sentinel, .sentinel, .sentinel], laidTests := true, laidLooks := .later }
def ImageBackUptoCardSaid : Prop := Claim7.holds Tryd.pinned (.plain (OpenSpec.upto imageBackSpec)) imageBackUptoCard

/-- THE SECOND FORM's CARD OF 'bolterlaw17.ImageGreat'. -/
def imageGreatUptoCard : Claim7 := { stood := { row := imageGreatUptoRow, standIns := [], harness := (true, "5f466ba544f3240a15b963410036a2291a44abec927ccc3f4dc22e73fc4d2955"), looks := true }, kinds := [], alts := [], laidByText := true, laidKinds := [.handle, .sentinel, .sentinel, .sentinel, .sentinel, .sentinel, .sentinel, .sentinel, .sentinel, .sentinel, .sentinel, .sentinel, .sentinel, .sentinel, .sentinel, .sentinel, .sentinel], laidTests := true, laidLooks := .later }
def ImageGreatUptoCardSaid : Prop := Claim7.holds Tryd.pinned (.plain (OpenSpec.upto imageGreatSpec)) imageGreatUptoCard

/-- THE SECOND FORM's CARD OF 'bolterlaw17.ImageHurt'. -/
def imageHurtUptoCard : Claim7 := { stood := { row := imageHurtUptoRow, standIns := [], harness := (true, "5f466ba544f3240a15b963410036a2291a44abec927ccc3f4dc22e73fc4d2955"), looks := true }, kinds := [], alts := [], laidByText := true, laidKinds := [.handle, .sentinel, .sentinel, .sentinel, .sentinel, .sentinel, .sentinel, .sentinel, .sentinel, .sentinel, .sentinel, .sentinel, .sentinel, .sentinel, .sentinel, .sentinel, .sentinel], laidTests := true, laidLooks := .later }
def ImageHurtUptoCardSaid : Prop := Claim7.holds Tryd.pinned (.plain (OpenSpec.upto imageHurtSpec)) imageHurtUptoCard
end Rows
end Go.Proofs.YtcbfmajojkcibaaDoor
