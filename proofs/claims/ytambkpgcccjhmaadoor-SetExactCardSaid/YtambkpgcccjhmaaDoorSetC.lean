/- Count, Of, Eq. No condition. -/
import Derived.Test.YtambkpgcccjhmaaDoorSetB
namespace Go.Proofs.YtambkpgcccjhmaaDoor
open Go Go.RowKit

/-- How many bytes a set has. -/
def card (s : BitVec 256) : Nat := cardN s.getLsbD 256
theorem cardW_le (s : BitVec 256) (i : Nat) : cardW s i ≤ 64 := cardN_le _ _
theorem cardW_eq (s : BitVec 256) (i : Nat) : cardW s i = cardN (fun k => s.getLsbD (64 * i + k)) 64 :=
  cardN_congr _ _ _ fun k hk => by rw [BitVec.testBit_toNat, BitVec.getLsbD_extractLsb']; simp [hk]
theorem card_words (s : BitVec 256) : card s = cardW s 0 + cardW s 1 + cardW s 2 + cardW s 3 := by
  rw [cardW_eq, cardW_eq, cardW_eq, cardW_eq]
  unfold card
  have h1 : cardN s.getLsbD 256 = cardN s.getLsbD 64 + cardN (fun k => s.getLsbD (64 + k)) 192 := cardN_add s.getLsbD 64 192
  have h2 : cardN (fun k => s.getLsbD (64 + k)) 192 = cardN (fun k => s.getLsbD (64 + k)) 64 + cardN (fun k => s.getLsbD (64 + (64 + k))) 128 := cardN_add (fun k => s.getLsbD (64 + k)) 64 128
  have h3 : cardN (fun k => s.getLsbD (64 + (64 + k))) 128 = cardN (fun k => s.getLsbD (64 + (64 + k))) 64 + cardN (fun k => s.getLsbD (64 + (64 + (64 + k)))) 64 := cardN_add (fun k => s.getLsbD (64 + (64 + k))) 64 64
  rw [h1, h2, h3]
  have e0 : cardN s.getLsbD 64 = cardN (fun k => s.getLsbD (64 * 0 + k)) 64 := cardN_congr _ _ _ fun k _ => by rw [Nat.mul_zero, Nat.zero_add]
  have e2 : cardN (fun k => s.getLsbD (64 + (64 + k))) 64 = cardN (fun k => s.getLsbD (64 * 2 + k)) 64 := cardN_congr _ _ _ fun k _ => by rw [← Nat.add_assoc]
  have e3 : cardN (fun k => s.getLsbD (64 + (64 + (64 + k)))) 64 = cardN (fun k => s.getLsbD (64 * 3 + k)) 64 := cardN_congr _ _ _ fun k _ => by rw [← Nat.add_assoc, ← Nat.add_assoc]
  have e1 : cardN (fun k => s.getLsbD (64 + k)) 64 = cardN (fun k => s.getLsbD (64 * 1 + k)) 64 := rfl
  rw [e0, e1, e2, e3]; omega

set_option maxHeartbeats 400000 in
theorem count_any (s : BitVec 256) (w : World) : Calls Tryd.prog 14 #[.agg #[.int .u64 (wd s 0), .int .u64 (wd s 1), .int .u64 (wd s 2), .int .u64 (wd s 3)]] w fun e w' => e = .returned (.int .i64 (card s)) ∧ Gr w w' := by
  have i0 : ∀ (a b c d : Int) (w : World), (Instr.index 24 (.agg #[.int .u64 a, .int .u64 b, .int .u64 c, .int .u64 d]) (.int .i64 0)).run Tryd.prog w = .ok (.int .u64 a) w := fun _ _ _ _ _ => by kernel_rfl
  have i1 : ∀ (a b c d : Int) (w : World), (Instr.index 24 (.agg #[.int .u64 a, .int .u64 b, .int .u64 c, .int .u64 d]) (.int .i64 1)).run Tryd.prog w = .ok (.int .u64 b) w := fun _ _ _ _ _ => by kernel_rfl
  have i2 : ∀ (a b c d : Int) (w : World), (Instr.index 24 (.agg #[.int .u64 a, .int .u64 b, .int .u64 c, .int .u64 d]) (.int .i64 2)).run Tryd.prog w = .ok (.int .u64 c) w := fun _ _ _ _ _ => by kernel_rfl
  have i3 : ∀ (a b c d : Int) (w : World), (Instr.index 24 (.agg #[.int .u64 a, .int .u64 b, .int .u64 c, .int .u64 d]) (.int .i64 3)).run Tryd.prog w = .ok (.int .u64 d) w := fun _ _ _ _ _ => by kernel_rfl
  have b0 := cardW_le s 0
  have b1 := cardW_le s 1
  have b2 := cardW_le s 2
  have b3 := cardW_le s 3
  go_enter Tryd.func14, Tryd.ntmps14
  go_wp2_with fail
  refine wp_loop_rounds 5 ?_
  rw [rounds_succ]
  go_wp2_with (go_at_call 38; refine (ones_any s 0 _).mono ?_; rintro e w' ⟨rfl, rfl⟩)
  rw [rounds_succ]
  go_wp2_with (go_at_call 38; refine (ones_any s 1 _).mono ?_; rintro e w' ⟨rfl, rfl⟩)
  rw [rounds_succ]
  go_wp2_with (go_at_call 38; refine (ones_any s 2 _).mono ?_; rintro e w' ⟨rfl, rfl⟩)
  rw [rounds_succ]
  go_wp2_with (go_at_call 38; refine (ones_any s 3 _).mono ?_; rintro e w' ⟨rfl, rfl⟩)
  rw [rounds_succ]
  go_wp2_with fail
  go_ret
  exact ⟨ret_int (by rw [card_words]; omega), (Below.refl _ _).alloc (Nat.le_refl _) _⟩

end Go.Proofs.YtambkpgcccjhmaaDoor
