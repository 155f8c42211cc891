/- Equality of two sets, as the code asks it. No condition. -/
import Derived.Test.YtihjmeoklbmnmaaDoorRows
import Derived.Test.YtihjmeoklbmnmaaDoorSet
import Derived.Test.YtihjmeoklbmnmaaDoorMem
import Derived.WalkKit
import Derived.WalkSpells
namespace Go.Proofs.YtihjmeoklbmnmaaDoor
open Go Go.RowKit

set_option maxRecDepth 100000 in
theorem eqSet_d (d : Nat) (a0 a1 a2 a3 b0 b1 b2 b3 : Int) (w : World) : (Op.equalIn (d + 1 + 1) 29 (.agg #[.int .u64 a0, .int .u64 a1, .int .u64 a2, .int .u64 a3]) (.agg #[.int .u64 b0, .int .u64 b1, .int .u64 b2, .int .u64 b3])).run Tryd.prog w = .ok (a0 == b0 && (a1 == b1 && (a2 == b2 && a3 == b3))) w := by
  have hu := Tryd.underlying29
  have hs : ∀ w, (sizeOf 27 : Sem Nat).run Tryd.prog w = .ok 1 w := fun w => by kernel_rfl
  have h64 : ∀ a b w, (Op.equalIn (d + 1) 27 (.int .u64 a) (.int .u64 b)).run Tryd.prog w = .ok (a == b) w := fun a b w => run_equalIn_int w d _ _ _ _ _ Tryd.underlying27
  have hp0 : ∀ (x0 x1 x2 x3 : Int) w, (part 27 #[.int .u64 x0, .int .u64 x1, .int .u64 x2, .int .u64 x3] 0).run Tryd.prog w = .ok (.int .u64 x0) w := fun _ _ _ _ _ => rfl
  have hp1 : ∀ (x0 x1 x2 x3 : Int) w, (part 27 #[.int .u64 x0, .int .u64 x1, .int .u64 x2, .int .u64 x3] 1).run Tryd.prog w = .ok (.int .u64 x1) w := fun _ _ _ _ _ => rfl
  have hp2 : ∀ (x0 x1 x2 x3 : Int) w, (part 27 #[.int .u64 x0, .int .u64 x1, .int .u64 x2, .int .u64 x3] 2).run Tryd.prog w = .ok (.int .u64 x2) w := fun _ _ _ _ _ => rfl
  have hp3 : ∀ (x0 x1 x2 x3 : Int) w, (part 27 #[.int .u64 x0, .int .u64 x1, .int .u64 x2, .int .u64 x3] 3).run Tryd.prog w = .ok (.int .u64 x3) w := fun _ _ _ _ _ => rfl
  rw [Op.equalIn]
  simp only [Sem.run_bind, run_underlying hu, Result.andThen_ok, hs, Std.Legacy.Range.forIn_eq_forIn_range', Std.Legacy.Range.size, List.range']
  simp only [Nat.sub_zero, Nat.add_sub_cancel, Nat.div_one, List.range'_succ, List.range'_zero, List.forIn_cons, List.forIn_nil, Nat.zero_mul, Nat.one_mul, Nat.mul_one, Nat.zero_add, Nat.reduceAdd, Sem.run_bind, hp0, hp1, hp2, hp3, Result.andThen_ok, h64, Sem.run_ite, Sem.run_pure]
  cases h0 : (a0 == b0) <;> cases h1 : (a1 == b1) <;> cases h2 : (a2 == b2) <;> cases h3 : (a3 == b3) <;>
    simp only [Bool.not_true, Bool.not_false, Bool.false_eq_true, if_true, if_false, Result.andThen_ok, Sem.run_bind, Sem.run_pure, Sem.run_ite, hp1, hp2, hp3, h64, h1, h2, h3, Bool.and_true, Bool.and_false, Bool.true_and, Bool.false_and] <;> rfl
theorem wd_beq (s t : BitVec 256) : (wd s 0 == wd t 0 && (wd s 1 == wd t 1 && (wd s 2 == wd t 2 && wd s 3 == wd t 3))) = (s == t) := by
  rw [Bool.eq_iff_iff]
  simp only [Bool.and_eq_true, beq_iff_eq]
  constructor
  · rintro ⟨h0, h1, h2, h3⟩; exact wd_ext s t h0 h1 h2 h3
  · rintro rfl; exact ⟨rfl, rfl, rfl, rfl⟩

@[go_sem] theorem eqSet (s t : BitVec 256) (w : World) : (Op.equalIn 10000 29 (.agg #[.int .u64 (wd s 0), .int .u64 (wd s 1), .int .u64 (wd s 2), .int .u64 (wd s 3)]) (.agg #[.int .u64 (wd t 0), .int .u64 (wd t 1), .int .u64 (wd t 2), .int .u64 (wd t 3)])).run Tryd.prog w = .ok (s == t) w := by
  rw [← wd_beq]; exact eqSet_d 9998 _ _ _ _ _ _ _ _ w
@[go_sem] theorem eqSet_zero (s : BitVec 256) (w : World) : (Op.equalIn 10000 29 (.agg #[.int .u64 (wd s 0), .int .u64 (wd s 1), .int .u64 (wd s 2), .int .u64 (wd s 3)]) (.agg #[.int .u64 0, .int .u64 0, .int .u64 0, .int .u64 0])).run Tryd.prog w = .ok (s == emptyS) w := by
  rw [← wd_beq, wd_zero, wd_zero, wd_zero, wd_zero]; exact eqSet_d 9998 _ _ _ _ _ _ _ _ w

end Go.Proofs.YtihjmeoklbmnmaaDoor
