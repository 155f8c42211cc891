/-
  DERIVED. GIVEN WITH THE SEED: THE CARDS: each row of YtkkopdmemjncdaaGreatDoorRows.lean that lists a variable, with what it lists TIED to the program's text (the seventh form; the later family's looks); each row that meets fmt, with fmt's text TOLD by the authors' own Lean function (tested against real Go, not proved from fmt's source: count such statements apart). THE CARD IS WHAT COUNTS. Prove the row's statement (the work); the ties are given (YtkkopdmemjncdaaGreatDoorTie.lean); close each card by the builder's one call (the guide's Derived/Test/ToyasCard.lean, 'card_holds'). Laid BY PROGRAM, IN A SANDBOX (cutbox-door.mjs). By AI agents, Wed Nov 11 2026. No macro, syntax, notation, axiom, sorry.
-/
import Derived.Test.YtkkopdmemjncdaaGreatDoorRows
import GoSem.ClaimSeven
namespace Go.Proofs.YtkkopdmemjncdaaGreatDoor
namespace Rows

/-- THE TIED CARD OF 'bolterlaw6.NamesExact'. -/
def namesExactCard : Claim7 := { stood := { row := namesExactRow, standIns := [], harness := (true, "3b3b9e0c6b552cceb1f7e79006051e2d0a535fdf4609858659c020c71d70d4e0"), looks := true }, kinds := [], alts := [], laidByText := true, laidKinds := [.handle, .sentinel, .sentinel, .sentinel, .sentinel, .sentinel, .sentinel, .sentinel, .sentinel, .sentinel, .sentinel, .sentinel, .sentinel, .sentinel, .sentinel, .sentinel, .sentinel], laidTests := true, laidLooks := .later }
def NamesExactCardSaid : Prop := Claim7.holds Tryz.pinned (.plain (OpenSpec.ofChange namesExactSpec)) namesExactCard

/-- THE TIED CARD OF 'bolterlaw6.NamesCycles'. -/
def namesCyclesCard : Claim7 := { stood := { row := namesCyclesRow, standIns := [], harness := (true, "3b3b9e0c6b552cceb1f7e79006051e2d0a535fdf4609858659c020c71d70d4e0"), looks := true }, kinds := [], alts := [], laidByText := true, laidKinds := [.handle, .sentinel, .sentinel, .sentinel, .sentinel, .sentinel, .sentinel, .sentinel, .sentinel, .sentinel, .sentinel, .sentinel, .sentinel, .sentinel, .sentinel, .sentinel, .sentinel], laidTests := true, laidLooks := .later }
def NamesCyclesCardSaid : Prop := Claim7.holds Tryz.pinned (.plain (OpenSpec.ofChange namesCyclesSpec)) namesCyclesCard

/-- THE TIED CARD OF 'bolterlaw6.NamesRenamed'. -/
def namesRenamedCard : Claim7 := { stood := { row := namesRenamedRow, standIns := [], harness := (true, "3b3b9e0c6b552cceb1f7e79006051e2d0a535fdf4609858659c020c71d70d4e0"), looks := true }, kinds := [], alts := [], laidByText := true, laidKinds := [.handle, .sentinel, .sentinel, .sentinel, .sentinel, .sentinel, .sentinel, .sentinel, .sentinel, .sentinel, .sentinel, .sentinel, .sentinel, .sentinel, .sentinel, .sentinel, .sentinel], laidTests := true, laidLooks := .later }
def NamesRenamedCardSaid : Prop := Claim7.holds Tryz.pinned (.plain (OpenSpec.ofChange namesRenamedSpec)) namesRenamedCard

/-- THE TIED CARD OF 'bolterlaw6.NamesTold'. -/
def namesToldCard : Claim7 := { stood := { row := namesToldRow, standIns := [], harness := (true, "3b3b9e0c6b552cceb1f7e79006051e2d0a535fdf4609858659c020c71d70d4e0"), looks := true }, kinds := [], alts := [], laidByText := true, laidKinds := [.handle, .sentinel, .sentinel, .sentinel, .sentinel, .sentinel, .sentinel, .sentinel, .sentinel, .sentinel, .sentinel, .sentinel, .sentinel, .sentinel, .sentinel, .sentinel, .sentinel], laidTests := true, laidLooks := .later }
def NamesToldCardSaid : Prop := Claim7.holds Tryz.pinned (.plain (OpenSpec.ofChange namesToldSpec)) namesToldCard

/-- THE TIED CARD OF 'bolterlaw6.NamesOrder'. -/
def namesOrderCard : Claim7 := { stood := { row := namesOrderRow, standIns := [], harness := (true, "3b3b9e0c6b552cceb1f7e79006051e2d0a535fdf4609858659c020c71d70d4e0"), looks := true }, kinds := [], alts := [], laidByText := true, laidKinds := [.handle, .sentinel, .sentinel, .sentinel, .sentinel, .sentinel, .sentinel, .sentinel, .sentinel, .sentinel, .sentinel, .sentinel, .sentinel, .sentinel, .sentinel, .sentinel, .sentinel], laidTests := true, laidLooks := .later }
def NamesOrderCardSaid : Prop := Claim7.holds Tryz.pinned (.plain (OpenSpec.ofChange namesOrderSpec)) namesOrderCard

/-- THE TIED CARD OF 'bolterlaw6.NamesActive'. -/
def namesActiveCard : Claim7 := { stood := { row := namesActiveRow, standIns := [], harness := (true, "3b3b9e0c6b552cceb1f7e79006051e2d0a535fdf4609858659c020c71d70d4e0"), looks := true }, kinds := [], alts := [], laidByText := true, laidKinds := [.handle, .sentinel, .sentinel, .sentinel, .sentinel, .sentinel, .sentinel, .sentinel, .sentinel, .sentinel, .sentinel, .sentinel, .sentinel, .sentinel, .sentinel, .sentinel, .sentinel], laidTests := true, laidLooks := .later }
def NamesActiveCardSaid : Prop := Claim7.holds Tryz.pinned (.plain (OpenSpec.ofChange namesActiveSpec)) namesActiveCard

/-- THE SECOND FORM's CARD OF 'bolterlaw6.NamesExact'. -/
def namesExactUptoCard : Claim7 := { stood := { row := namesExactUptoRow, standIns := [], harness := (true, "3b3b9e0c6b552cceb1f7e79006051e2d0a535fdf4609858659c020c71d70d4e0"), looks := true }, kinds := [], alts := [], laidByText := true, laidKinds := [.handle, .sentinel, .sentinel, .sentinel, .sentinel, .sentinel, .sentinel, .sentinel, .sentinel, .sentinel, .sentinel, .sentinel, .sentinel, .sentinel, .sentinel, .sentinel, .sentinel], laidTests := true, laidLooks := .later }
def NamesExactUptoCardSaid : Prop := Claim7.holds Tryz.pinned (.plain (OpenSpec.upto namesExactSpec)) namesExactUptoCard

/-- THE SECOND FORM's CARD OF 'bolterlaw6.NamesCycles'. -/
def namesCyclesUptoCard : Claim7 := { stood := { row := namesCyclesUptoRow, standIns := [], harness := (true, "3b3b9e0c6b552cceb1f7e79006051e2d0a535fdf4609858659c020c71d70d4e0"), looks := true }, kinds := [], alts := [], laidByText := true, laidKinds := [.handle, .sentinel, .sentinel, .sentinel, .sentinel, .sentinel, .sentinel, .sentinel, .sentinel, .sentinel, .sentinel, .sentinel, .sentinel, .sentinel, .sentinel, .sentinel, .sentinel], laidTests := true, laidLooks := .later }
def NamesCyclesUptoCardSaid : Prop := Claim7.holds Tryz.pinned (.plain (OpenSpec.upto namesCyclesSpec)) namesCyclesUptoCard

/-- THE SECOND FORM's CARD OF 'bolterlaw6.NamesRenamed'. -/
def namesRenamedUptoCard : Claim7 := { stood := { row := namesRenamedUptoRow, standIns := [], harness := (true, "3b3b9e0c6b552cceb1f7e79006051e2d0a535fdf4609858659c020c71d70d4e0"), looks := true }, kinds := [], alts := [], laidByText := true, laidKinds := [.handle, .sentinel, .sentinel, .sentinel, .sentinel, .sentinel, .sentinel, .sentinel, .sentinel, .sentinel, .sentinel, .sentinel, .sentinel, .sentinel, .sentinel, .sentinel, .sentinel], laidTests := true, laidLooks := .later }
def NamesRenamedUptoCardSaid : Prop := Claim7.holds Tryz.pinned (.plain (OpenSpec.upto namesRenamedSpec)) namesRenamedUptoCard

/-- THE SECOND FORM's CARD OF 'bolterlaw6.NamesTold'. -/
def namesToldUptoCard : Claim7 := { stood := { row := namesToldUptoRow, standIns := [], harness := (true, "3b3b9e0c6b552cceb1f7e79006051e2d0a535fdf4609858659c020c71d70d4e0"), looks := true }, kinds := [], alts := [], laidByText := true, laidKinds := [.handle, .sentinel, .sentinel, .sentinel, .sentinel, .sentinel, .sentinel, .sentinel, .sentinel, .sentinel, .sentinel, .sentinel, .sentinel, .sentinel, .sentinel, .sentinel, .sentinel], laidTests := true, laidLooks := .later }
def NamesToldUptoCardSaid : Prop := Claim7.holds Tryz.pinned (.plain (OpenSpec.upto namesToldSpec)) namesToldUptoCard

/-- THE SECOND FORM's CARD OF 'bolterlaw6.NamesOrder'. -/
def namesOrderUptoCard : Claim7 := { stood := { row := namesOrderUptoRow, standIns := [], harness := (true, "3b3b9e0c6b552cceb1f7e79006051e2d0a535fdf4609858659c020c71d70d4e0"), looks := true }, kinds := [], alts := [], laidByText := true, laidKinds := [.handle, .sentinel, .sentinel, .sentinel, .sentinel, .sentinel, .sentinel, .sentinel, .sentinel, .sentinel, .sentinel, .sentinel, .sentinel, .sentinel, .sentinel, .sentinel, .sentinel], laidTests := true, laidLooks := .later }
def NamesOrderUptoCardSaid : Prop := Claim7.holds Tryz.pinned (.plain (OpenSpec.upto namesOrderSpec)) namesOrderUptoCard

/-- THE SECOND FORM's CARD OF 'bolterlaw6.NamesActive'. -/
def namesActiveUptoCard : Claim7 := { stood := { row := namesActiveUptoRow, standIns := [], harness := (true, "3b3b9e0c6b552cceb1f7e79006051e2d0a535fdf4609858659c020c71d70d4e0"), looks := true }, kinds := [], alts := [], laidByText := true, laidKinds := [.handle, .sentinel, .sentinel, .sentinel, .sentinel, .sentinel, .sentinel, .sentinel, .sentinel, .sentinel, .sentinel, .sentinel, .sentinel, .sentinel, .sentinel, .sentinel, .sentinel], laidTests := true, laidLooks := .later }
def NamesActiveUptoCardSaid : Prop := Claim7.holds Tryz.pinned (.plain (OpenSpec.upto namesActiveSpec)) namesActiveUptoCard
end Rows
end Go.Proofs.YtkkopdmemjncdaaGreatDoor
