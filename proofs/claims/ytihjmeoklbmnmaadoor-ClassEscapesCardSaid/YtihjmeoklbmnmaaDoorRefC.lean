/- bolterref1: Complement, Within, Compare, Of, OfSpans. No condition. -/
import Derived.Test.YtihjmeoklbmnmaaDoorRefB
namespace Go.Proofs.YtihjmeoklbmnmaaDoor
open Go Go.RowKit

theorem minus_none (s t : BitVec 256) : (s &&& ~~~t == emptyS) = (s &&& t == s) := by
  rw [Bool.eq_iff_iff, beq_iff_eq, beq_iff_eq]
  constructor
  · intro h; refine set_ext _ _ fun j hj => ?_
    have := congrArg (fun x => x.getLsbD j) h
    simp only [BitVec.getLsbD_and, BitVec.getLsbD_not, getLsbD_empty, hj] at this ⊢
    revert this; cases s.getLsbD j <;> cases t.getLsbD j <;> simp
  · intro h; refine set_ext _ _ fun j hj => ?_
    have := congrArg (fun x => x.getLsbD j) h
    simp only [BitVec.getLsbD_and, BitVec.getLsbD_not, getLsbD_empty, hj] at this ⊢
    revert this; cases s.getLsbD j <;> cases t.getLsbD j <;> simp
end Go.Proofs.YtihjmeoklbmnmaaDoor
