/- Count, Of, Eq. No condition. -/
import Derived.Test.YtihjmeoklbmnmaaDoorSetB
namespace Go.Proofs.YtihjmeoklbmnmaaDoor
open Go Go.RowKit

/-- How many bytes a set has. -/
def card (s : BitVec 256) : Nat := cardN s.getLsbD 256
theorem cardW_le (s : BitVec 256) (i : Nat) : cardW s i ≤ 64 := cardN_le _ _
theorem cardW_eq (s : BitVec 256) (i : Nat) : cardW s i = cardN (fun k => s.getLsbD (64 * i + k)) 64 :=
  cardN_congr _ _ _ fun k hk => by rw [BitVec.testBit_toNat, BitVec.getLsbD_extractLsb']; simp [hk]
theorem card_words (s : BitVec 256) : card s = cardW s 0 + cardW s 1 + cardW s 2 + cardW s 3 := by
  rw [cardW_eq, cardW_eq, cardW_eq, cardW_eq]
  unfold card
  have h1 : cardN s.getLsbD 256 = cardN s.getLsbD 64 + cardN (fun k => s.getLsbD (64 + k)) 192 := cardN_add s.getLsbD 64 192
  have h2 : cardN (fun k => s.getLsbD (64 + k)) 192 = cardN (fun k => s.getLsbD (64 + k)) 64 + cardN (fun k => s.getLsbD (64 + (64 + k))) 128 := cardN_add (fun k => s.getLsbD (64 + k)) 64 128
  have h3 : cardN (fun k => s.getLsbD (64 + (64 + k))) 128 = cardN (fun k => s.getLsbD (64 + (64 + k))) 64 + cardN (fun k => s.getLsbD (64 + (64 + (64 + k)))) 64 := cardN_add (fun k => s.getLsbD (64 + (64 + k))) 64 64
  rw [h1, h2, h3]
  have e0 : cardN s.getLsbD 64 = cardN (fun k => s.getLsbD (64 * 0 + k)) 64 := cardN_congr _ _ _ fun k _ => by rw [Nat.mul_zero, Nat.zero_add]
  have e2 : cardN (fun k => s.getLsbD (64 + (64 + k))) 64 = cardN (fun k => s.getLsbD (64 * 2 + k)) 64 := cardN_congr _ _ _ fun k _ => by rw [← Nat.add_assoc]
  have e3 : cardN (fun k => s.getLsbD (64 + (64 + (64 + k)))) 64 = cardN (fun k => s.getLsbD (64 * 3 + k)) 64 := cardN_congr _ _ _ fun k _ => by rw [← Nat.add_assoc, ← Nat.add_assoc]
  have e1 : cardN (fun k => s.getLsbD (64 + k)) 64 = cardN (fun k => s.getLsbD (64 * 1 + k)) 64 := rfl
  rw [e0, e1, e2, e3]; omega

