/-
  DERIVED. GIVEN WITH THE SEED: THE CARDS: each row of YtambkpgcccjhmaaDoorRows.lean that lists a variable, with what it lists TIED to the program's text (the seventh form; the later family's looks); each row that meets fmt, with fmt's text TOLD by the authors' own Lean function (tested against real Go, not proved from fmt's source: count such statements apart). THE CARD IS WHAT COUNTS. Prove the row's statement (the work); the ties are given (YtambkpgcccjhmaaDoorTie.lean); close each card by the builder's one call (the guide's Derived/Test/ToyasCard.lean, 'card_holds'). Laid BY PROGRAM, IN A SANDBOX (cutbox-door.mjs). By AI agents, Wed Nov 11 2026. No macro, syntax, notation, axiom, sorry.
-/
import Derived.Test.YtambkpgcccjhmaaDoorRows
import GoSem.ClaimSeven
namespace Go.Proofs.YtambkpgcccjhmaaDoor
namespace Rows

/-- THE TIED CARD OF 'bolterlaw1.SetOrder'. -/
def setOrderCard : Claim7 := { stood := { row := setOrderRow, standIns := [], harness := (true, "c3a388bcc0e81aff5888028daaa14d836504ece6302da0f1a4bc566be6636f06"), looks := false }, kinds := [], alts := [], laidByText := true, laidKinds := [.data], laidTests := true, laidLooks := .later }
def SetOrderCardSaid : Prop := Claim7.holds Tryd.pinned (.plain (OpenSpec.ofChange setOrderSpec)) setOrderCard

/-- THE TIED CARD OF 'bolterlaw1.SetForms'. -/
def setFormsCard : Claim7 := { stood := { row := setFormsRow, standIns := [], harness := (true, "c3a388bcc0e81aff5888028daaa14d836504ece6302da0f1a4bc566be6636f06"), looks := false }, kinds := [], alts := [], laidByText := true, laidKinds := [.data], laidTests := true, laidLooks := .later }
def SetFormsCardSaid : Prop := Claim7.holds Tryd.pinned (.plain (OpenSpec.ofChange setFormsSpec)) setFormsCard

/-- THE TIED CARD OF 'bolterlaw1.SetExact'. -/
def setExactCard : Claim7 := { stood := { row := setExactRow, standIns := [], harness := (true, "c3a388bcc0e81aff5888028daaa14d836504ece6302da0f1a4bc566be6636f06"), looks := false }, kinds := [], alts := [], laidByText := true, laidKinds := [.data], laidTests := true, laidLooks := .later }
def SetExactCardSaid : Prop := Claim7.holds Tryd.pinned (.plain (OpenSpec.ofChange setExactSpec)) setExactCard

/-- THE SECOND FORM's CARD OF 'bolterlaw1.SetOrder'. -/
def setOrderUptoCard : Claim7 := { stood := { row := setOrderUptoRow, standIns := [], harness := (true, "c3a388bcc0e81aff5888028daaa14d836504ece6302da0f1a4bc566be6636f06"), looks := false }, kinds := [], alts := [], laidByText := true, laidKinds := [.data], laidTests := true, laidLooks := .later }
def SetOrderUptoCardSaid : Prop := Claim7.holds Tryd.pinned (.plain (OpenSpec.upto setOrderSpec)) setOrderUptoCard

/-- THE SECOND FORM's CARD OF 'bolterlaw1.SetForms'. -/
def setFormsUptoCard : Claim7 := { stood := { row := setFormsUptoRow, standIns := [], harness := (true, "c3a388bcc0e81aff5888028daaa14d836504ece6302da0f1a4bc566be6636f06"), looks := false }, kinds := [], alts := [], laidByText := true, laidKinds := [.data], laidTests := true, laidLooks := .later }
def SetFormsUptoCardSaid : Prop := Claim7.holds Tryd.pinned (.plain (OpenSpec.upto setFormsSpec)) setFormsUptoCard

/-- THE SECOND FORM's CARD OF 'bolterlaw1.SetExact'. -/
def setExactUptoCard : Claim7 := { stood := { row := setExactUptoRow, standIns := [], harness := (true, "c3a388bcc0e81aff5888028daaa14d836504ece6302da0f1a4bc566be6636f06"), looks := false }, kinds := [], alts := [], laidByText := true, laidKinds := [.data], laidTests := true, laidLooks := .later }
def SetExactUptoCardSaid : Prop := Claim7.holds Tryd.pinned (.plain (OpenSpec.upto setExactSpec)) setExactUptoCard
end Rows
end Go.Proofs.YtambkpgcccjhmaaDoor
