/-
  DERIVED. GIVEN WITH THE SEED: THE CARDS: each row of YtpcmgkohebihmaaDoorRows.lean that lists a variable, with what it lists TIED to the program's text (the seventh form; the later family's looks); each row that meets fmt, with fmt's text TOLD by the authors' own Lean function (tested against real Go, not proved from fmt's source: count such statements apart). THE CARD IS WHAT COUNTS. Prove the row's statement (the work); the ties are given (YtpcmgkohebihmaaDoorTie.lean); close each card by the builder's one call (the guide's Derived/Test/ToyasCard.lean, 'card_holds'). Laid BY PROGRAM, IN A SANDBOX (cutbox-door.mjs). By AI agents, Wed Nov 11 2026. No macro, syntax, notation, axiom, sorry.
-/
import Derived.Test.YtpcmgkohebihmaaDoorRows
import GoSem.ClaimSeven
namespace Go.Proofs.YtpcmgkohebihmaaDoor
namespace Rows

/-- THE TIED CARD OF 'bolterlaw8.LengthLaws'. -/
def lengthLawsCard : Claim7 := { stood := { row := lengthLawsRow, standIns := [], harness := (true, "e078c61aeefc843dfc65eefde746ace6bee37729d306bf19864f36f15885a8ed"), looks := true }, kinds := [], alts := [], laidByText := true, laidKinds := [.sentinel, .sentinel], laidTests := true, laidLooks := .later }
def LengthLawsCardSaid : Prop := Claim7.holds Tryd.pinned (.plain (OpenSpec.ofChange lengthLawsSpec)) lengthLawsCard

/-- THE TIED CARD OF 'bolterlaw8.LengthExact'. -/
def lengthExactCard : Claim7 := { stood := { row := lengthExactRow, standIns := [], harness := (true, "e078c61aeefc843dfc65eefde746ace6bee37729d306bf19864f36f15885a8ed"), looks := true }, kinds := [], alts := [], laidByText := true, laidKinds := [.handle, .sentinel, .sentinel, .sentinel, .sentinel, .sentinel, .sentinel, .sentinel, .sentinel, .sentinel, .sentinel, .sentinel, .sentinel, .sentinel, .sentinel, .sentinel, .sentinel], laidTests := true, laidLooks := .later }
def LengthExactCardSaid : Prop := Claim7.holds Tryd.pinned (.plain (OpenSpec.ofChange lengthExactSpec)) lengthExactCard

/-- THE TIED CARD OF 'bolterlaw8.LengthCuts'. -/
def lengthCutsCard : Claim7 := { stood := { row := lengthCutsRow, standIns := [], harness := (true, "e078c61aeefc843dfc65eefde746ace6bee37729d306bf19864f36f15885a8ed"), looks := true }, kinds := [], alts := [], laidByText := true, laidKinds := [.handle, .sentinel, .sentinel, .sentinel, .sentinel, .sentinel, .sentinel, .sentinel, .sentinel, .sentinel, .sentinel, .sentinel, .sentinel, .sentinel, .sentinel, .sentinel, .sentinel], laidTests := true, laidLooks := .later }
def LengthCutsCardSaid : Prop := Claim7.holds Tryd.pinned (.plain (OpenSpec.ofChange lengthCutsSpec)) lengthCutsCard

/-- THE TIED CARD OF 'bolterlaw8.LengthTrails'. -/
def lengthTrailsCard : Claim7 := { stood := { row := lengthTrailsRow, standIns := [], harness := (true, "e078c61aeefc843dfc65eefde746ace6bee37729d306bf19864f36f15885a8ed"), looks := true }, kinds := [], alts := [], laidByText := true, laidKinds := [.handle, .sentinel, .sentinel, .sentinel, .sentinel, .sentinel, .sentinel, .sentinel, .sentinel, .sentinel, .sentinel, .sentinel, .sentinel, .sentinel, .sentinel, .sentinel, .sentinel], laidTests := true, laidLooks := .later }
def LengthTrailsCardSaid : Prop := Claim7.holds Tryd.pinned (.plain (OpenSpec.ofChange lengthTrailsSpec)) lengthTrailsCard

/-- THE SECOND FORM's CARD OF 'bolterlaw8.LengthLaws'. -/
def lengthLawsUptoCard : Claim7 := { stood := { row := lengthLawsUptoRow, standIns := [], harness := (true, "e078c61aeefc843dfc65eefde746ace6bee37729d306bf19864f36f15885a8ed"), looks := true }, kinds := [], alts := [], laidByText := true, laidKinds := [.sentinel, .sentinel], laidTests := true, laidLooks := .later }
def LengthLawsUptoCardSaid : Prop := Claim7.holds Tryd.pinned (.plain (OpenSpec.upto lengthLawsSpec)) lengthLawsUptoCard

/-- THE SECOND FORM's CARD OF 'bolterlaw8.LengthExact'. -/
def lengthExactUptoCard : Claim7 := { stood := { row := lengthExactUptoRow, standIns := [], harness := (true, "e078c61aeefc843dfc65eefde746ace6bee37729d306bf19864f36f15885a8ed"), looks := true }, kinds := [], alts := [], laidByText := true, laidKinds := [.handle, .sentinel, .sentinel, .sentinel, .sentinel, .sentinel, .sentinel, .sentinel, .sentinel, .sentinel, .sentinel, .sentinel, .sentinel, .sentinel, .sentinel, .sentinel, .sentinel], laidTests := true, laidLooks := .later }
def LengthExactUptoCardSaid : Prop := Claim7.holds Tryd.pinned (.plain (OpenSpec.upto lengthExactSpec)) lengthExactUptoCard

/-- THE SECOND FORM's CARD OF 'bolterlaw8.LengthCuts'. -/
def lengthCutsUptoCard : Claim7 := { stood := { row := lengthCutsUptoRow, standIns := [], harness := (true, "e078c61aeefc843dfc65eefde746ace6bee37729d306bf19864f36f15885a8ed"), looks := true }, kinds := [], alts := [], laidByText := true, laidKinds := [.handle, .sentinel, .sentinel, .sentinel, .sentinel, .sentinel, .sentinel, .sentinel, .sentinel, .sentinel, .sentinel, .sentinel, .sentinel, .sentinel, .sentinel, .sentinel, .sentinel], laidTests := true, laidLooks := .later }
def LengthCutsUptoCardSaid : Prop := Claim7.holds Tryd.pinned (.plain (OpenSpec.upto lengthCutsSpec)) lengthCutsUptoCard

/-- THE SECOND FORM's CARD OF 'bolterlaw8.LengthTrails'. -/
def lengthTrailsUptoCard : Claim7 := { stood := { row := lengthTrailsUptoRow, standIns := [], harness := (true, "e078c61aeefc843dfc65eefde746ace6bee37729d306bf19864f36f15885a8ed"), looks := true }, kinds := [], alts := [], laidByText := true, laidKinds := [.handle, .sentinel, .sentinel, .sentinel, .sentinel, .sentinel, .sentinel, .sentinel, .sentinel, .sentinel, .sentinel, .sentinel, .sentinel, .sentinel, .sentinel, .sentinel, .sentinel], laidTests := true, laidLooks := .later }
def LengthTrailsUptoCardSaid : Prop := Claim7.holds Tryd.pinned (.plain (OpenSpec.upto lengthTrailsSpec)) lengthTrailsUptoCard
end Rows
end Go.Proofs.YtpcmgkohebihmaaDoor
