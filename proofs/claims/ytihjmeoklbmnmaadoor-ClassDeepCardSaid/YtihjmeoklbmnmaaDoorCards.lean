/-
  DERIVED. GIVEN WITH THE SEED: THE CARDS: each row of YtihjmeoklbmnmaaDoorRows.lean that lists a variable, with what it lists TIED to the program's text (the seventh form; the later family's looks); each row that meets fmt, with fmt's text TOLD by the authors' own Lean function (tested against real Go, not proved from fmt's source: count such statements apart). THE CARD IS WHAT COUNTS. Prove the row's statement (the work); the ties are given (YtihjmeoklbmnmaaDoorTie.lean); close each card by the builder's one call (the guide's Derived/Test/ToyasCard.lean, 'card_holds'). Laid BY PROGRAM, IN A SANDBOX (cutbox-door.mjs). By AI agents, Wed Nov 11 2026. No macro, syntax, notation, axiom, sorry.
-/
import Derived.Test.YtihjmeoklbmnmaaDoorRows
import GoSem.ClaimSeven
namespace Go.Proofs.YtihjmeoklbmnmaaDoor
namespace Rows

/-- THE TIED CARD OF 'bolterlaw3.ClassWrites'. -/
def classWritesCard : Claim7 := { stood := { row := classWritesRow, standIns := [], harness := (true, "36e8447126bd260919520ee60773367d07e52232e04f2d453e9c45af1dc9f7d1"), looks := true }, kinds := [], alts := [], laidByText := true, laidKinds := [.sentinel, .sentinel], laidTests := true, laidLooks := .later }
def ClassWritesCardSaid : Prop := Claim7.holds Tryd.pinned (.plain (OpenSpec.ofChange classWritesSpec)) classWritesCard

/-- THE TIED CARD OF 'bolterlaw3.ClassAlgebra'. -/
def classAlgebraCard : Claim7 := { stood := { row := classAlgebraRow, standIns := [], harness := (true, "36e8447126bd260919520ee60773367d07e52232e04f2d453e9c45af1dc9f7d1"), looks := true }, kinds := [], alts := [], laidByText := true, laidKinds := [.sentinel, .sentinel], laidTests := true, laidLooks := .later }
def ClassAlgebraCardSaid : Prop := Claim7.holds Tryd.pinned (.plain (OpenSpec.ofChange classAlgebraSpec)) classAlgebraCard

/-- THE TIED CARD OF 'bolterlaw3.ClassBack'. -/
def classBackCard : Claim7 := { stood := { row := classBackRow, standIns := [], harness := (true, "36e8447126bd260919520ee60773367d07e52232e04f2d453e9c45af1dc9f7d1"), looks := true }, kinds := [], alts := [], laidByText := true, laidKinds := [.sentinel, .sentinel], laidTests := true, laidLooks := .later }
def ClassBackCardSaid : Prop := Claim7.holds Tryd.pinned (.plain (OpenSpec.ofChange classBackSpec)) classBackCard

/-- THE TIED CARD OF 'bolterlaw3.ClassEscapes'. -/
def classEscapesCard : Claim7 := { stood := { row := classEscapesRow, standIns := [], harness := (true, "36e8447126bd260919520ee60773367d07e52232e04f2d453e9c45af1dc9f7d1"), looks := true }, kinds := [], alts := [], laidByText := true, laidKinds := [.sentinel, .sentinel], laidTests := true, laidLooks := .later }
def ClassEscapesCardSaid : Prop := Claim7.holds Tryd.pinned (.plain (OpenSpec.ofChange classEscapesSpec)) classEscapesCard

/-- THE TIED CARD OF 'bolterlaw3.ClassDeep'. -/
def classDeepCard : Claim7 := { stood := { row := classDeepRow, standIns := [], harness := (true, "36e8447126bd260919520ee60773367d07e52232e04f2d453e9c45af1dc9f7d1"), looks := true }, kinds := [], alts := [], laidByText := true, laidKinds := [.handle, .sentinel, .sentinel, .sentinel, .sentinel, .sentinel, .sentinel, .sentinel, .sentinel, .sentinel, .sentinel, .sentinel, .sentinel, .sentinel, .sentinel, .sentinel, .sentinel], laidTests := true, laidLooks := .later }
def ClassDeepCardSaid : Prop := Claim7.holds Tryd.pinned (.plain (OpenSpec.ofChange classDeepSpec)) classDeepCard

/-- THE SECOND FORM's CARD OF 'bolterlaw3.ClassWrites'. -/
def classWritesUptoCard : Claim7 := { stood := { row := classWritesUptoRow, standIns := [], harness := (true, "36e8447126bd260919520ee60773367d07e52232e04f2d453e9c45af1dc9f7d1"), looks := true }, kinds := [], alts := [], laidByText := true, laidKinds := [.sentinel, .sentinel], laidTests := true, laidLooks := .later }
def ClassWritesUptoCardSaid : Prop := Claim7.holds Tryd.pinned (.plain (OpenSpec.upto classWritesSpec)) classWritesUptoCard

/-- THE SECOND FORM's CARD OF 'bolterlaw3.ClassAlgebra'. -/
def classAlgebraUptoCard : Claim7 := { stood := { row := classAlgebraUptoRow, standIns := [], harness := (true, "36e8447126bd260919520ee60773367d07e52232e04f2d453e9c45af1dc9f7d1"), looks := true }, kinds := [], alts := [], laidByText := true, laidKinds := [.sentinel, .sentinel], laidTests := true, laidLooks := .later }
def ClassAlgebraUptoCardSaid : Prop := Claim7.holds Tryd.pinned (.plain (OpenSpec.upto classAlgebraSpec)) classAlgebraUptoCard

/-- THE SECOND FORM's CARD OF 'bolterlaw3.ClassBack'. -/
def classBackUptoCard : Claim7 := { stood := { row := classBackUptoRow, standIns := [], harness := (true, "36e8447126bd260919520ee60773367d07e52232e04f2d453e9c45af1dc9f7d1"), looks := true }, kinds := [], alts := [], laidByText := true, laidKinds := [.sentinel, .sentinel], laidTests := true, laidLooks := .later }
def ClassBackUptoCardSaid : Prop := Claim7.holds Tryd.pinned (.plain (OpenSpec.upto classBackSpec)) classBackUptoCard

/-- THE SECOND FORM's CARD OF 'bolterlaw3.ClassEscapes'. -/
def classEscapesUptoCard : Claim7 := { stood := { row := classEscapesUptoRow, standIns := [], harness := (true, "36e8447126bd260919520ee60773367d07e52232e04f2d453e9c45af1dc9f7d1"), looks := true }, kinds := [], alts := [], laidByText := true, laidKinds := [.sentinel, .sentinel], laidTests := true, laidLooks := .later }
def ClassEscapesUptoCardSaid : Prop := Claim7.holds Tryd.pinned (.plain (OpenSpec.upto classEscapesSpec)) classEscapesUptoCard

/-- THE SECOND FORM's CARD OF 'bolterlaw3.ClassDeep'. -/
def classDeepUptoCard : Claim7 := { stood := { row := classDeepUptoRow, standIns := [], harness := (true, "36e8447126bd260919520ee60773367d07e52232e04f2d453e9c45af1dc9f7d1"), looks := true }, kinds := [], alts := [], laidByText := true, laidKinds := [.handle, .sentinel, .sentinel, .sentinel, .sentinel, .sentinel, .sentinel, .sentinel, .sentinel, .sentinel, .sentinel, .sentinel, .sentinel, .sentinel, .sentinel, .sentinel, .sentinel], laidTests := true, laidLooks := .later }
def ClassDeepUptoCardSaid : Prop := Claim7.holds Tryd.pinned (.plain (OpenSpec.upto classDeepSpec)) classDeepUptoCard
end Rows
end Go.Proofs.YtihjmeoklbmnmaaDoor
