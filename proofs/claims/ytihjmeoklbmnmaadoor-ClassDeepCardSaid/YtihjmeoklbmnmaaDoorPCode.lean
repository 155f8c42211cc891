/- A refusal's code and place. Plain; no condition. -/
import Derived.Test.YtihjmeoklbmnmaaDoorPGa
namespace Go.Proofs.YtihjmeoklbmnmaaDoor
open Go

def codeB (d : Bool) : Nat := if d then 4 else 3
theorem codeB_is (d : Bool) : 2 ≤ codeB d ∧ codeB d ≤ 17 := by cases d <;> decide
def codeO (x : Option (Bool × Nat)) : Nat := match x with | none => 0 | some (d, _) => codeB d
def placeO (x : Option (Bool × Nat)) : Nat := match x with | none => 0 | some (_, k) => k

end Go.Proofs.YtihjmeoklbmnmaaDoor
