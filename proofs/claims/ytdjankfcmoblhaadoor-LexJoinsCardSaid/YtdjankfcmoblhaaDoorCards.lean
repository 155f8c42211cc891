/-
  DERIVED. GIVEN WITH THE SEED: THE CARDS: each row of YtdjankfcmoblhaaDoorRows.lean that lists a variable, with what it lists TIED to the program's text (the seventh form; the later family's looks); each row that meets fmt, with fmt's text TOLD by the authors' own Lean function (tested against real Go, not proved from fmt's source: count such statements apart). THE CARD IS WHAT COUNTS. Prove the row's statement (the work); the ties are given (YtdjankfcmoblhaaDoorTie.lean); close each card by the builder's one call (the guide's Derived/Test/ToyasCard.lean, 'card_holds'). Laid BY PROGRAM, IN A SANDBOX (cutbox-door.mjs). By AI agents, Wed Nov 11 2026. No macro, syntax, notation, axiom, sorry.
-/
import Derived.Test.YtdjankfcmoblhaaDoorRows
import GoSem.ClaimSeven
namespace Go.Proofs.YtdjankfcmoblhaaDoor
namespace Rows

/-- THE TIED CARD OF 'bolterlaw4.LexCovers'. -/
def lexCoversCard : Claim7 := { stood := { row := lexCoversRow, standIns := [], harness := (true, "e887739e20ef6832fbd94138088651a9c33cfb9829d9f7997795996e02593bbd"), looks := true }, kinds := [], alts := [], laidByText := true, laidKinds := [.sentinel, .sentinel, .sentinel], laidTests := true, laidLooks := .later }
def LexCoversCardSaid : Prop := Claim7.holds Tryd.pinned (.plain (OpenSpec.ofChange lexCoversSpec)) lexCoversCard

/-- THE TIED CARD OF 'bolterlaw4.LexBlanks'. -/
def lexBlanksCard : Claim7 := { stood := { row := lexBlanksRow, standIns := [], harness := (true, "e887739e20ef6832fbd94138088651a9c33cfb9829d9f7997795996e02593bbd"), looks := true }, kinds := [], alts := [], laidByText := true, laidKinds := [.sentinel, .sentinel, .sentinel], laidTests := true, laidLooks := .later }
def LexBlanksCardSaid : Prop := Claim7.holds Tryd.pinned (.plain (OpenSpec.ofChange lexBlanksSpec)) lexBlanksCard

/-- THE TIED CARD OF 'bolterlaw4.LexCut'. -/
def lexCutCard : Claim7 := { stood := { row := lexCutRow, standIns := [], harness := (true, "e887739e20ef6832fbd94138088651a9c33cfb9829d9f7997795996e02593bbd"), looks := true }, kinds := [], alts := [], laidByText := true, laidKinds := [.sentinel, .sentinel, .sentinel], laidTests := true, laidLooks := .later }
def LexCutCardSaid : Prop := Claim7.holds Tryd.pinned (.plain (OpenSpec.ofChange lexCutSpec)) lexCutCard

/-- THE TIED CARD OF 'bolterlaw4.LexSame'. -/
def lexSameCard : Claim7 := { stood := { row := lexSameRow, standIns := [], harness := (true, "e887739e20ef6832fbd94138088651a9c33cfb9829d9f7997795996e02593bbd"), looks := true }, kinds := [], alts := [], laidByText := true, laidKinds := [.handle, .sentinel, .sentinel, .sentinel, .sentinel, .sentinel, .sentinel, .sentinel, .sentinel, .sentinel, .sentinel, .sentinel, .sentinel, .sentinel, .sentinel, .sentinel, .sentinel], laidTests := true, laidLooks := .later }
def LexSameCardSaid : Prop := Claim7.holds Tryd.pinned (.plain (OpenSpec.ofChange lexSameSpec)) lexSameCard

/-- THE TIED CARD OF 'bolterlaw4.LexJoins'. -/
def lexJoinsCard : Claim7 := { stood := { row := lexJoinsRow, standIns := [], harness := (true, "e887739e20ef6832fbd94138088651a9c33cfb9829d9f7997795996e02593bbd"), looks := true }, kinds := [], alts := [], laidByText := true, laidKinds := [.handle, .sentinel, .sentinel, .sentinel, .sentinel, .sentinel, .sentinel, .sentinel, .sentinel, .sentinel, .sentinel, .sentinel, .sentinel, .sentinel, .sentinel, .sentinel, .sentinel], laidTests := true, laidLooks := .later }
def LexJoinsCardSaid : Prop := Claim7.holds Tryd.pinned (.plain (OpenSpec.ofChange lexJoinsSpec)) lexJoinsCard

/-- THE SECOND FORM's CARD OF 'bolterlaw4.LexCovers'. -/
def lexCoversUptoCard : Claim7 := { stood := { row := lexCoversUptoRow, standIns := [], harness := (true, "e887739e20ef6832fbd94138088651a9c33cfb9829d9f7997795996e02593bbd"), looks := true }, kinds := [], alts := [], laidByText := true, laidKinds := [.sentinel, .sentinel, .sentinel], laidTests := true, laidLooks := .later }
def LexCoversUptoCardSaid : Prop := Claim7.holds Tryd.pinned (.plain (OpenSpec.upto lexCoversSpec)) lexCoversUptoCard

/-- THE SECOND FORM's CARD OF 'bolterlaw4.LexBlanks'. -/
def lexBlanksUptoCard : Claim7 := { stood := { row := lexBlanksUptoRow, standIns := [], harness := (true, "e887739e20ef6832fbd94138088651a9c33cfb9829d9f7997795996e02593bbd"), looks := true }, kinds := [], alts := [], laidByText := true, laidKinds := [.sentinel, .sentinel, .sentinel], laidTests := true, laidLooks := .later }
def LexBlanksUptoCardSaid : Prop := Claim7.holds Tryd.pinned (.plain (OpenSpec.upto lexBlanksSpec)) lexBlanksUptoCard

/-- THE SECOND FORM's CARD OF 'bolterlaw4.LexCut'. -/
def lexCutUptoCard : Claim7 := { stood := { row := lexCutUptoRow, standIns := [], harness := (true, "e887739e20ef6832fbd94138088651a9c33cfb9829d9f7997795996e02593bbd"), looks := true }, kinds := [], alts := [], laidByText := true, laidKinds := [.sentinel, .sentinel, .sentinel], laidTests := true, laidLooks := .later }
def LexCutUptoCardSaid : Prop := Claim7.holds Tryd.pinned (.plain (OpenSpec.upto lexCutSpec)) lexCutUptoCard

/-- THE SECOND FORM's CARD OF 'bolterlaw4.LexSame'. -/
def lexSameUptoCard : Claim7 := { stood := { row := lexSameUptoRow, standIns := [], harness := (true, "e887739e20ef6832fbd94138088651a9c33cfb9829d9f7997795996e02593bbd"), looks := true }, kinds := [], alts := [], laidByText := true, laidKinds := [.handle, .sentinel, .sentinel, .sentinel, .sentinel, .sentinel, .sentinel, .sentinel, .sentinel, .sentinel, .sentinel, .sentinel, .sentinel, .sentinel, .sentinel, .sentinel, .sentinel], laidTests := true, laidLooks := .later }
def LexSameUptoCardSaid : Prop := Claim7.holds Tryd.pinned (.plain (OpenSpec.upto lexSameSpec)) lexSameUptoCard

/-- THE SECOND FORM's CARD OF 'bolterlaw4.LexJoins'. -/
def lexJoinsUptoCard : Claim7 := { stood := { row := lexJoinsUptoRow, standIns := [], harness := (true, "e887739e20ef6832fbd94138088651a9c33cfb9829d9f7997795996e02593bbd"), looks := true }, kinds := [], alts := [], laidByText := true, laidKinds := [.handle, .sentinel, .sentinel, .sentinel, .sentinel, .sentinel, .sentinel, .sentinel, .sentinel, .sentinel, .sentinel, .sentinel, .sentinel, .sentinel, .sentinel, .sentinel, .sentinel], laidTests := true, laidLooks := .later }
def LexJoinsUptoCardSaid : Prop := Claim7.holds Tryd.pinned (.plain (OpenSpec.upto lexJoinsSpec)) lexJoinsUptoCard
end Rows
end Go.Proofs.YtdjankfcmoblhaaDoor
