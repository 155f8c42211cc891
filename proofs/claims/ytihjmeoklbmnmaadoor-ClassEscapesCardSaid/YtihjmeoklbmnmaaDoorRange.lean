/- Range. -/
import Derived.Test.YtihjmeoklbmnmaaDoorByteset
namespace Go.Proofs.YtihjmeoklbmnmaaDoor
open Go.RowKit

theorem rangeTo_step (lo k : Nat) (h : lo ≤ k) : ofP (fun b => decide (lo ≤ b) && decide (b < k)) ||| bit k = ofP (fun b => decide (lo ≤ b) && decide (b < k + 1)) :=
  ofP_bit _ _ _ fun j _ => by
    rw [Bool.eq_iff_iff]; simp; omega
theorem rangeTo_start (lo : Nat) : ofP (fun b => decide (lo ≤ b) && decide (b < lo)) = emptyS :=
  ofP_false _ fun j _ => by simp
theorem rangeTo_end (lo hi k : Nat) (h : k = hi + 1) : ofP (fun b => decide (lo ≤ b) && decide (b < k)) = rangeSet lo hi :=
  ofP_congr _ _ fun j _ => by rw [Bool.eq_iff_iff]; simp; omega
theorem rangeTo_none (lo hi k : Nat) (h : k = lo) (h2 : hi < lo) : ofP (fun b => decide (lo ≤ b) && decide (b < k)) = rangeSet lo hi :=
  ofP_congr _ _ fun j _ => by rw [Bool.eq_iff_iff]; simp; omega

theorem pow_wrap (r : Nat) (h : r < 64) : IntKind.u64.wrap (2 ^ r) = 2 ^ r := by
  rw [IntKind.wrap_u64]
  have := Int.pow_lt_pow_of_lt (a := 2) (by decide) h
  have h0 : (0 : Int) ≤ 2 ^ r := Int.pow_nonneg (by decide)
  exact Int.emod_eq_of_lt h0 (by simpa using this)

set_option maxRecDepth 100000 in
set_option maxHeartbeats 1000000 in
theorem range_any (lo hi : Nat) (w : World) (hlo : lo < 256) (hhi : hi < 256) :
    Calls Tryd.prog 68 #[.int .u8 lo, .int .u8 hi] w fun e w' => e = .returned (.agg #[.int .u64 (wd ((rangeSet lo hi)) 0), .int .u64 (wd ((rangeSet lo hi)) 1), .int .u64 (wd ((rangeSet lo hi)) 2), .int .u64 (wd ((rangeSet lo hi)) 3)]) ∧ Below w.heap.size w w' := by
  go_enter Tryd.func68, Tryd.ntmps68
  go_wp2
  go_loopw [6] (fun i wr => ∃ (k n : Nat) (S : BitVec 256), k ≤ 256 ∧ lo ≤ k ∧ (k ≤ hi + 1 ∨ k = lo) ∧ S = ofP (fun b => decide (lo ≤ b) && decide (b < k)) ∧ i = .int .i64 k ∧ wr = ((w.alloc (.cells #[.int .u64 0, .int .u64 0, .int .u64 0, .int .u64 0] 29)).alloc (.cells #[.int .u64 (wd S 0), .int .u64 (wd S 1), .int .u64 (wd S 2), .int .u64 (wd S 3)] 29)).drewN n) (fun i _ => 256 - (intOf i).toNat)
  case atStart => exact ⟨lo, 0, emptyS, by omega, by omega, by omega, (rangeTo_start lo).symm, rfl, by simp only [wd_zero]; rfl⟩
  case round =>
    obtain ⟨k, n, S, hk, hk2, hk3, hS, rfl, rfl⟩ := hrel
    have HS := Lib.hid hS
    clear hS
    by_cases hle : k ≤ hi
    · obtain ⟨q, r, hr, hq, hqr⟩ : ∃ q r : Nat, r < 64 ∧ (q = 0 ∨ q = 1 ∨ q = 2 ∨ q = 3) ∧ k = 64 * q + r := ⟨k / 64, k % 64, by omega, by omega, by omega⟩
      have E := fun i (hi : i = k / 64) => wd_setBit S k i r (by omega) (by omega) hi
      have D := fun i (hi : i ≠ k / 64) => wd_setBit_other S k i hi
      have hm : (k : Int) % 64 = r := by omega
      have fin : S ||| bit k = ofP (fun b => decide (lo ≤ b) && decide (b < k + 1)) := by rw [HS.out]; exact rangeTo_step lo k hk2
      have FIN := Lib.hid fin
      have HE := Lib.hid E
      have HD := Lib.hid D
      clear fin E D
      rcases hq with rfl | rfl | rfl | rfl
      · have hd : (k : Int) / 64 = 0 := by omega
        have hd2 : k / 64 = 0 := by omega
        have hwr := pow_wrap r hr
        clear hqr
        go_wp2
        go_region
        go_wp2
        have e0 := HE.out 0 (by omega)
        simp only [hwr, e0]
        go_roundw
        case rel =>
          have Hd := HD.out
          refine ⟨k + 1, n + 1, S ||| bit k, by omega, by omega, by omega, FIN.out, by go_num, ?_⟩
          rw [Hd 1 (by omega), Hd 2 (by omega), Hd 3 (by omega)]
        case measure => simp [intOf]; omega
      · have hd : (k : Int) / 64 = 1 := by omega
        have hd2 : k / 64 = 1 := by omega
        have hwr := pow_wrap r hr
        clear hqr
        go_wp2
        go_region
        go_wp2
        have e1 := HE.out 1 (by omega)
        simp only [hwr, e1]
        go_roundw
        case rel =>
          have Hd := HD.out
          refine ⟨k + 1, n + 1, S ||| bit k, by omega, by omega, by omega, FIN.out, by go_num, ?_⟩
          rw [Hd 0 (by omega), Hd 2 (by omega), Hd 3 (by omega)]
        case measure => simp [intOf]; omega
      · have hd : (k : Int) / 64 = 2 := by omega
        have hd2 : k / 64 = 2 := by omega
        have hwr := pow_wrap r hr
        clear hqr
        go_wp2
        go_region
        go_wp2
        have e2 := HE.out 2 (by omega)
        simp only [hwr, e2]
        go_roundw
        case rel =>
          have Hd := HD.out
          refine ⟨k + 1, n + 1, S ||| bit k, by omega, by omega, by omega, FIN.out, by go_num, ?_⟩
          rw [Hd 0 (by omega), Hd 1 (by omega), Hd 3 (by omega)]
        case measure => simp [intOf]; omega
      · have hd : (k : Int) / 64 = 3 := by omega
        have hd2 : k / 64 = 3 := by omega
        have hwr := pow_wrap r hr
        clear hqr
        go_wp2
        go_region
        go_wp2
        have e3 := HE.out 3 (by omega)
        simp only [hwr, e3]
        go_roundw
        case rel =>
          have Hd := HD.out
          refine ⟨k + 1, n + 1, S ||| bit k, by omega, by omega, by omega, FIN.out, by go_num, ?_⟩
          rw [Hd 0 (by omega), Hd 1 (by omega), Hd 2 (by omega)]
        case measure => simp [intOf]; omega
    · obtain rfl : S = rangeSet lo hi := by
        rw [HS.out]
        rcases hk3 with h | h
        · exact rangeTo_end lo hi k (by omega)
        · exact rangeTo_none lo hi k h (by omega)
      clear HS
      go_wp2
      refine bodyPost_ret (v := .agg #[.int .u64 (wd (rangeSet lo hi) 0), .int .u64 (wd (rangeSet lo hi) 1), .int .u64 (wd (rangeSet lo hi) 2), .int .u64 (wd (rangeSet lo hi) 3)]) (by simp [results, Tryd.results68, go_sem]) rfl ⟨rfl, ?_⟩
      exact below_drewN (((Below.refl _ _).alloc (Nat.le_refl _) _).alloc (by simp) _) _

end Go.Proofs.YtihjmeoklbmnmaaDoor
