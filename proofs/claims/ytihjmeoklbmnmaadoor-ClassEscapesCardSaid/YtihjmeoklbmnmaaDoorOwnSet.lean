/- A store into an owned row of spans. No condition. -/
import Derived.Test.YtihjmeoklbmnmaaDoorOwned
import Derived.Test.YtihjmeoklbmnmaaDoorRuns
namespace Go.Proofs.YtihjmeoklbmnmaaDoor
open Go Go.RowKit

theorem spsCells_snoc (q : List Sp) (p : Sp) : spsCells (q ++ [p]) = spsCells q ++ [vB p.1, vB p.2] := by
  simp [spsCells, spCells]
theorem spsCells_length (q : List Sp) : (spsCells q).length = q.length * 2 := flatMap_len spCells 2 spCells_len q
theorem spsCells_hi (q : List Sp) (p : Sp) : (spsCells (q ++ [p]))[q.length * 2 + 1]? = some (vB p.2) := by
  rw [spsCells_snoc, List.getElem?_append_right (by rw [spsCells_length]; omega), spsCells_length, show q.length * 2 + 1 - q.length * 2 = 1 by omega]; rfl
theorem spsCells_setHi (q : List Sp) (p : Sp) (b : UInt8) : (spsCells (q ++ [p])).set (q.length * 2 + 1) (vB b) = spsCells (q ++ [(p.1, b)]) := by
  rw [spsCells_snoc, spsCells_snoc, List.set_append_right _ _ (by rw [spsCells_length]; omega), spsCells_length, show q.length * 2 + 1 - q.length * 2 = 1 by omega]; rfl

end Go.Proofs.YtihjmeoklbmnmaaDoor
