/-
  DERIVED. GIVEN WITH THE SEED: THE CARDS: each row of YtndefbkcondmcaaDoorRows.lean that lists a variable, with what it lists TIED to the program's text (the seventh form; the later family's looks); each row that meets fmt, with fmt's text TOLD by the authors' own Lean function (tested against real Go, not proved from fmt's source: count such statements apart). THE CARD IS WHAT COUNTS. Prove the row's statement (the work); the ties are given (YtndefbkcondmcaaDoorTie.lean); close each card by the builder's one call (the guide's Derived/Test/ToyasCard.lean, 'card_holds'). Laid BY PROGRAM, IN A SANDBOX (cutbox-door.mjs). By AI agents, Wed Nov 11 2026. No macro, syntax, notation, axiom, sorry.
-/
import Derived.Test.YtndefbkcondmcaaDoorRows
import GoSem.ClaimSeven
namespace Go.Proofs.YtndefbkcondmcaaDoor
namespace Rows

/-- THE TIED CARD OF 'bolterlaw2.FaultExact'. -/
def faultExactCard : Claim7 := { stood := { row := faultExactRow, standIns := [], harness := (true, "188d4269464a5fb0fc19c376e30d50f2e03ff41929ee38f77e18d7f56f7c1dbf"), looks := true }, kinds := [], alts := [], laidByText := true, laidKinds := [.handle, .sentinel, .sentinel, .sentinel, .sentinel, .sentinel, .sentinel, .sentinel, .sentinel, .sentinel, .sentinel, .sentinel, .sentinel, .sentinel, .sentinel, .sentinel, .sentinel], laidTests := true, laidLooks := .later }
def FaultExactCardSaid : Prop := Claim7.holds Tryd.pinned (.plain (OpenSpec.ofChange faultExactSpec)) faultExactCard

/-- THE TIED CARD OF 'bolterlaw2.FaultIs'. -/
def faultIsCard : Claim7 := { stood := { row := faultIsRow, standIns := [], harness := (true, "188d4269464a5fb0fc19c376e30d50f2e03ff41929ee38f77e18d7f56f7c1dbf"), looks := true }, kinds := [], alts := [], laidByText := true, laidKinds := [.handle, .sentinel, .sentinel, .sentinel, .sentinel, .sentinel, .sentinel, .sentinel, .sentinel, .sentinel, .sentinel, .sentinel, .sentinel, .sentinel, .sentinel, .sentinel, .sentinel], laidTests := true, laidLooks := .later }
def FaultIsCardSaid : Prop := Claim7.holds Tryd.pinned (.plain (OpenSpec.ofChange faultIsSpec)) faultIsCard

/-- THE TIED CARD OF 'bolterlaw2.FaultOrder'. -/
def faultOrderCard : Claim7 := { stood := { row := faultOrderRow, standIns := [], harness := (true, "188d4269464a5fb0fc19c376e30d50f2e03ff41929ee38f77e18d7f56f7c1dbf"), looks := true }, kinds := [], alts := [], laidByText := true, laidKinds := [.handle, .sentinel, .sentinel, .sentinel, .sentinel, .sentinel, .sentinel, .sentinel, .sentinel, .sentinel, .sentinel, .sentinel, .sentinel, .sentinel, .sentinel, .sentinel, .sentinel], laidTests := true, laidLooks := .later }
def FaultOrderCardSaid : Prop := Claim7.holds Tryd.pinned (.plain (OpenSpec.ofChange faultOrderSpec)) faultOrderCard

/-- THE TIED CARD OF 'bolterlaw2.FaultWords'. -/
def faultWordsCard : Claim7 := { stood := { row := faultWordsRow, standIns := [], harness := (true, "188d4269464a5fb0fc19c376e30d50f2e03ff41929ee38f77e18d7f56f7c1dbf"), looks := true }, kinds := [], alts := [], laidByText := true, laidKinds := [.handle, .sentinel, .sentinel, .sentinel, .sentinel, .sentinel, .sentinel, .sentinel, .sentinel, .sentinel, .sentinel, .sentinel, .sentinel, .sentinel, .sentinel, .sentinel, .sentinel], laidTests := true, laidLooks := .later }
def FaultWordsCardSaid : Prop := Claim7.holds Tryd.pinned (.plain (OpenSpec.ofChange faultWordsSpec)) faultWordsCard

/-- THE TIED CARD OF 'bolterlaw2.FaultUnwraps'. -/
def faultUnwrapsCard : Claim7 := { stood := { row := faultUnwrapsRow, standIns := [], harness := (true, "188d4269464a5fb0fc19c376e30d50f2e03ff41929ee38f77e18d7f56f7c1dbf"), looks := true }, kinds := [], alts := [], laidByText := true, laidKinds := [.handle, .sentinel, .sentinel, .sentinel, .sentinel, .sentinel, .sentinel, .sentinel, .sentinel, .sentinel, .sentinel, .sentinel, .sentinel, .sentinel, .sentinel, .sentinel, .sentinel], laidTests := true, laidLooks := .later }
def FaultUnwrapsCardSaid : Prop := Claim7.holds Tryd.pinned (.plain (OpenSpec.ofChange faultUnwrapsSpec)) faultUnwrapsCard

/-- THE SECOND FORM's CARD OF 'bolterlaw2.FaultExact'. -/
def faultExactUptoCard : Claim7 := { stood := { row := faultExactUptoRow, standIns := [], harness := (true, "188d4269464a5fb0fc19c376e30d50f2e03ff41929ee38f77e18d7f56f7c1dbf"), looks := true }, kinds := [], alts := [], laidByText := true, laidKinds := [.handle, .sentinel, .sentinel, .sentinel, .sentinel, .sentinel, .sentinel, .sentinel, .sentinel, .sentinel, .sentinel, .sentinel, .sentinel, .sentinel, .sentinel, .sentinel, .sentinel], laidTests := true, laidLooks := .later }
def FaultExactUptoCardSaid : Prop := Claim7.holds Tryd.pinned (.plain (OpenSpec.upto faultExactSpec)) faultExactUptoCard

/-- THE SECOND FORM's CARD OF 'bolterlaw2.FaultIs'. -/
def faultIsUptoCard : Claim7 := { stood := { row := faultIsUptoRow, standIns := [], harness := (true, "188d4269464a5fb0fc19c376e30d50f2e03ff41929ee38f77e18d7f56f7c1dbf"), looks := true }, kinds := [], alts := [], laidByText := true, laidKinds := [.handle, .sentinel, .sentinel, .sentinel, .sentinel, .sentinel, .sentinel, .sentinel, .sentinel, .sentinel, .sentinel, .sentinel, .sentinel, .sentinel, .sentinel, .sentinel, .sentinel], laidTests := true, laidLooks := .later }
def FaultIsUptoCardSaid : Prop := Claim7.holds Tryd.pinned (.plain (OpenSpec.upto faultIsSpec)) faultIsUptoCard

/-- THE SECOND FORM's CARD OF 'bolterlaw2.FaultOrder'. -/
def faultOrderUptoCard : Claim7 := { stood := { row := faultOrderUptoRow, standIns := [], harness := (true, "188d4269464a5fb0fc19c376e30d50f2e03ff41929ee38f77e18d7f56f7c1dbf"), looks := true }, kinds := [], alts := [], laidByText := true, laidKinds := [.handle, .sentinel, .sentinel, .sentinel, .sentinel, .sentinel, .sentinel, .sentinel, .sentinel, .sentinel, .sentinel, .sentinel, .sentinel, .sentinel, .sentinel, .sentinel, .sentinel], laidTests := true, laidLooks := .later }
def FaultOrderUptoCardSaid : Prop := Claim7.holds Tryd.pinned (.plain (OpenSpec.upto faultOrderSpec)) faultOrderUptoCard

/-- THE SECOND FORM's CARD OF 'bolterlaw2.FaultWords'. -/
def faultWordsUptoCard : Claim7 := { stood := { row := faultWordsUptoRow, standIns := [], harness := (true, "188d4269464a5fb0fc19c376e30d50f2e03ff41929ee38f77e18d7f56f7c1dbf"), looks := true }, kinds := [], alts := [], laidByText := true, laidKinds := [.handle, .sentinel, .sentinel, .sentinel, .sentinel, .sentinel, .sentinel, .sentinel, .sentinel, .sentinel, .sentinel, .sentinel, .sentinel, .sentinel, .sentinel, .sentinel, .sentinel], laidTests := true, laidLooks := .later }
def FaultWordsUptoCardSaid : Prop := Claim7.holds Tryd.pinned (.plain (OpenSpec.upto faultWordsSpec)) faultWordsUptoCard

/-- THE SECOND FORM's CARD OF 'bolterlaw2.FaultUnwraps'. -/
def faultUnwrapsUptoCard : Claim7 := { stood := { row := faultUnwrapsUptoRow, standIns := [], harness := (true, "188d4269464a5fb0fc19c376e30d50f2e03ff41929ee38f77e18d7f56f7c1dbf"), looks := true }, kinds := [], alts := [], laidByText := true, laidKinds := [.handle, .sentinel, .sentinel, .sentinel, .sentinel, .sentinel, .sentinel, .sentinel, .sentinel, .sentinel, .sentinel, .sentinel, .sentinel, .sentinel, .sentinel, .sentinel, .sentinel], laidTests := true, laidLooks := .later }
def FaultUnwrapsUptoCardSaid : Prop := Claim7.holds Tryd.pinned (.plain (OpenSpec.upto faultUnwrapsSpec)) faultUnwrapsUptoCard
end Rows
end Go.Proofs.YtndefbkcondmcaaDoor
