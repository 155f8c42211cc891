/- bolterref1: sets made byte by byte. No condition but bytes' bounds. -/
import Derived.Test.YtihjmeoklbmnmaaDoorRefA
namespace Go.Proofs.YtihjmeoklbmnmaaDoor
open Go Go.RowKit

/-- Those below k of which p says yes. -/
def upTo (p : Nat → Bool) (k : Nat) : BitVec 256 := ofP (fun j => p j && decide (j < k))
theorem upTo_zero (p : Nat → Bool) : upTo p 0 = emptyS := ofP_empty _ fun j _ => by simp
theorem upTo_yes (p : Nat → Bool) (k : Nat) (h : p k = true) : upTo p (k + 1) = upTo p k ||| bit k :=
  (ofP_bit _ _ _ fun j _ => by
    by_cases hj : j = k
    · subst hj; simp [h]
    · have : decide (j < k + 1) = decide (j < k) := by simp; omega
      simp [hj, this]).symm
theorem upTo_no (p : Nat → Bool) (k : Nat) (h : p k = false) : upTo p (k + 1) = upTo p k :=
  ofP_congr _ _ fun j _ => by
    by_cases hj : j = k
    · subst hj; simp [h]
    · have : decide (j < k + 1) = decide (j < k) := by simp; omega
      simp [this]
theorem upTo_all (p : Nat → Bool) (s : BitVec 256) (h : ∀ j, j < 256 → p j = s.getLsbD j) : upTo p 256 = s :=
  set_ext _ _ fun j hj => by unfold upTo; rw [getLsbD_ofP, h j hj]; simp [hj]
theorem or_upTo_yes (a : BitVec 256) (p : Nat → Bool) (k : Nat) (h : p k = true) : a ||| upTo p (k + 1) = a ||| upTo p k ||| bit k := by rw [upTo_yes p k h, BitVec.or_assoc]
theorem or_upTo_no (a : BitVec 256) (p : Nat → Bool) (k : Nat) (h : p k = false) : a ||| upTo p (k + 1) = a ||| upTo p k := by rw [upTo_no p k h]
theorem or_upTo_zero (a : BitVec 256) (p : Nat → Bool) : a ||| upTo p 0 = a := by rw [upTo_zero, or_emptyS]

theorem range_all' : rangeSet 0 255 = ~~~emptyS := set_ext _ _ fun j hj => by
  rw [getLsbD_rangeSet, BitVec.getLsbD_not, getLsbD_empty]; simp [hj]; omega
end Go.Proofs.YtihjmeoklbmnmaaDoor
