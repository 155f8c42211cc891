/- bolterref1: one byte of a set. No condition but a byte's bounds. -/
import Derived.Test.YtihjmeoklbmnmaaDoorAt
import Derived.Test.YtihjmeoklbmnmaaDoorRange
namespace Go.Proofs.YtihjmeoklbmnmaaDoor
open Go Go.RowKit

/-- The bit that is asked for, by division. -/
theorem wd_odd (s : BitVec 256) (i r : Nat) (hr : r < 64) : (wd s i / 2 ^ r % 2 == 1) = s.getLsbD (64 * i + r) := by
  have e1 : wd s i / 2 ^ r = (((s.extractLsb' (64 * i) 64).toNat / 2 ^ r : Nat) : Int) := by unfold wd; simp
  have e4 : s.getLsbD (64 * i + r) = (s.extractLsb' (64 * i) 64).toNat.testBit r := by
    rw [BitVec.testBit_toNat]; simp [hr]
  rw [e1, e4, Nat.testBit_eq_decide_div_mod_eq]
  generalize (s.extractLsb' (64 * i) 64).toNat / 2 ^ r = q
  rw [Bool.eq_iff_iff]; simp; omega
/-- The bit that is added. -/
theorem wd_addBit (s : BitVec 256) (b i r : Nat) (hb : b < 256) (hr : r = b % 64) (hi : i = b / 64) (h : s.getLsbD b = false) : wd s i + 2 ^ r = wd (s ||| bit b) i := by
  have hr' : r < 64 := by omega
  have hbi : 64 * i + r = b := by omega
  have e2 : (bit b).extractLsb' (64 * i) 64 = BitVec.twoPow 64 r := by
    ext k hk
    simp only [BitVec.getElem_extractLsb', getLsbD_bit, BitVec.getElem_twoPow]
    by_cases h : k = r
    · subst h; simp [hbi, hb]
    · have h2 : ¬ 64 * i + k = b := by omega
      simp [h2, h]
  have e3 : (s ||| bit b).extractLsb' (64 * i) 64 = s.extractLsb' (64 * i) 64 + BitVec.twoPow 64 r := by
    rw [BitVec.add_eq_or_of_and_eq_zero]
    · rw [BitVec.extractLsb'_or, e2]
    · ext k hk
      simp only [BitVec.getElem_and, BitVec.getElem_extractLsb', BitVec.getElem_twoPow, BitVec.getElem_zero]
      by_cases hkr : k = r
      · subst hkr; rw [hbi, h]; rfl
      · simp [hkr]
  have h4 : ((s ||| bit b).extractLsb' (64 * i) 64).toNat = (s.extractLsb' (64 * i) 64).toNat + 2 ^ r := by
    have hlt : (s.extractLsb' (64 * i) 64).toNat + 2 ^ r < 2 ^ 64 := by
      have e5 := congrArg BitVec.toNat e3
      have e6 : (s.extractLsb' (64 * i) 64 &&& BitVec.twoPow 64 r) = 0#64 := by
        ext k hk
        simp only [BitVec.getElem_and, BitVec.getElem_extractLsb', BitVec.getElem_twoPow, BitVec.getElem_zero]
        by_cases hkr : k = r
        · subst hkr; rw [hbi, h]; rfl
        · simp [hkr]
      have e7 := BitVec.toNat_add_of_and_eq_zero e6
      have e8 := (s.extractLsb' (64 * i) 64 + BitVec.twoPow 64 r).isLt
      rw [e7, BitVec.toNat_twoPow, Nat.mod_eq_of_lt (Nat.pow_lt_pow_right (by decide) hr')] at e8
      exact e8
    rw [e3, BitVec.toNat_add, BitVec.toNat_twoPow, Nat.mod_eq_of_lt (Nat.pow_lt_pow_right (by decide) hr'), Nat.mod_eq_of_lt hlt]
  unfold wd
  rw [h4]; simp

set_option maxHeartbeats 400000 in
set_option maxRecDepth 100000 in
theorem r1has_0 (s : BitVec 256) (x : Int) (r : Nat) (w : World) (hd : x / 64 = 0) (hm : x % 64 = (r : Int)) (h0 : 0 ≤ x) (h1 : x < 256) (hlo : 0 ≤ wd s 0) (hhi : wd s 0 < 18446744073709551616) (hx : (wd s 0 / 2 ^ r % 2 == 1) = s.getLsbD (64 * 0 + r)) :
    Calls Tryd.prog 39 #[.agg #[.int .u64 (wd s 0), .int .u64 (wd s 1), .int .u64 (wd s 2), .int .u64 (wd s 3)], .int .i64 x] w fun e w' => e = .returned (.bool (s.getLsbD (64 * 0 + r))) ∧ Gr w w' := by
  have HX := Lib.hid hx
  clear hx
  go_enter Tryd.func39, Tryd.ntmps39
  go_wp2
  go_ret
  exact ⟨by rw [← HX.out]; rfl, Gr.alloc _ _⟩
set_option maxHeartbeats 400000 in
set_option maxRecDepth 100000 in
theorem r1has_1 (s : BitVec 256) (x : Int) (r : Nat) (w : World) (hd : x / 64 = 1) (hm : x % 64 = (r : Int)) (h0 : 0 ≤ x) (h1 : x < 256) (hlo : 0 ≤ wd s 1) (hhi : wd s 1 < 18446744073709551616) (hx : (wd s 1 / 2 ^ r % 2 == 1) = s.getLsbD (64 * 1 + r)) :
    Calls Tryd.prog 39 #[.agg #[.int .u64 (wd s 0), .int .u64 (wd s 1), .int .u64 (wd s 2), .int .u64 (wd s 3)], .int .i64 x] w fun e w' => e = .returned (.bool (s.getLsbD (64 * 1 + r))) ∧ Gr w w' := by
  have HX := Lib.hid hx
  clear hx
  go_enter Tryd.func39, Tryd.ntmps39
  go_wp2
  go_ret
  exact ⟨by rw [← HX.out]; rfl, Gr.alloc _ _⟩
set_option maxHeartbeats 400000 in
set_option maxRecDepth 100000 in
theorem r1has_2 (s : BitVec 256) (x : Int) (r : Nat) (w : World) (hd : x / 64 = 2) (hm : x % 64 = (r : Int)) (h0 : 0 ≤ x) (h1 : x < 256) (hlo : 0 ≤ wd s 2) (hhi : wd s 2 < 18446744073709551616) (hx : (wd s 2 / 2 ^ r % 2 == 1) = s.getLsbD (64 * 2 + r)) :
    Calls Tryd.prog 39 #[.agg #[.int .u64 (wd s 0), .int .u64 (wd s 1), .int .u64 (wd s 2), .int .u64 (wd s 3)], .int .i64 x] w fun e w' => e = .returned (.bool (s.getLsbD (64 * 2 + r))) ∧ Gr w w' := by
  have HX := Lib.hid hx
  clear hx
  go_enter Tryd.func39, Tryd.ntmps39
  go_wp2
  go_ret
  exact ⟨by rw [← HX.out]; rfl, Gr.alloc _ _⟩
set_option maxHeartbeats 400000 in
set_option maxRecDepth 100000 in
theorem r1has_3 (s : BitVec 256) (x : Int) (r : Nat) (w : World) (hd : x / 64 = 3) (hm : x % 64 = (r : Int)) (h0 : 0 ≤ x) (h1 : x < 256) (hlo : 0 ≤ wd s 3) (hhi : wd s 3 < 18446744073709551616) (hx : (wd s 3 / 2 ^ r % 2 == 1) = s.getLsbD (64 * 3 + r)) :
    Calls Tryd.prog 39 #[.agg #[.int .u64 (wd s 0), .int .u64 (wd s 1), .int .u64 (wd s 2), .int .u64 (wd s 3)], .int .i64 x] w fun e w' => e = .returned (.bool (s.getLsbD (64 * 3 + r))) ∧ Gr w w' := by
  have HX := Lib.hid hx
  clear hx
  go_enter Tryd.func39, Tryd.ntmps39
  go_wp2
  go_ret
  exact ⟨by rw [← HX.out]; rfl, Gr.alloc _ _⟩

theorem r1has_any (s : BitVec 256) (b : Nat) (w : World) (hb : b < 256) : Calls Tryd.prog 39 #[.agg #[.int .u64 (wd s 0), .int .u64 (wd s 1), .int .u64 (wd s 2), .int .u64 (wd s 3)], .int .i64 b] w fun e w' => e = .returned (.bool (s.getLsbD b)) ∧ Gr w w' := by
  have hlo := wd_lo s
  have hhi := wd_hi s
  have hx := fun i => wd_odd s i (b % 64) (by omega)
  have hm : (b : Int) % 64 = ((b % 64 : Nat) : Int) := by omega
  have hcase : b / 64 = 0 ∨ b / 64 = 1 ∨ b / 64 = 2 ∨ b / 64 = 3 := by omega
  rcases hcase with h | h | h | h
  · have e : 64 * 0 + b % 64 = b := by omega
    have := r1has_0 s b (b % 64) w (by omega) hm (by omega) (by omega) (hlo _) (hhi _) (hx _)
    rw [e] at this; exact this
  · have e : 64 * 1 + b % 64 = b := by omega
    have := r1has_1 s b (b % 64) w (by omega) hm (by omega) (by omega) (hlo _) (hhi _) (hx _)
    rw [e] at this; exact this
  · have e : 64 * 2 + b % 64 = b := by omega
    have := r1has_2 s b (b % 64) w (by omega) hm (by omega) (by omega) (hlo _) (hhi _) (hx _)
    rw [e] at this; exact this
  · have e : 64 * 3 + b % 64 = b := by omega
    have := r1has_3 s b (b % 64) w (by omega) hm (by omega) (by omega) (hlo _) (hhi _) (hx _)
    rw [e] at this; exact this

theorem r1has (s : BitVec 256) (b : Nat) (r : Bool) (w : World) (hb : b < 256) (h : s.getLsbD b = r) : Calls Tryd.prog 39 #[.agg #[.int .u64 (wd s 0), .int .u64 (wd s 1), .int .u64 (wd s 2), .int .u64 (wd s 3)], .int .i64 b] w fun e w' => e = .returned (.bool r) ∧ Gr w w' := by
  subst h; exact r1has_any s b w hb

/-- Cells of two, three, four blocks that are laid one behind the other. -/
theorem boxes2 (w : World) (c0 c1 : List Value) (e0 e1 : TypeId) :
    boxAt ((w.alloc (.cells c0.toArray e0)).alloc (.cells c1.toArray e1)) w.heap.size c0 ∧ boxAt ((w.alloc (.cells c0.toArray e0)).alloc (.cells c1.toArray e1)) (w.heap.size + 1) c1 ∧
    Gr w ((w.alloc (.cells c0.toArray e0)).alloc (.cells c1.toArray e1)) ∧ ((w.alloc (.cells c0.toArray e0)).alloc (.cells c1.toArray e1)).heap.size = w.heap.size + 2 := by
  refine ⟨(boxAt.new _ _ rfl).later (Gr.alloc _ _), ?_, (Gr.alloc _ _).trans (Gr.alloc _ _), by simp⟩
  have := boxAt.new (w := w.alloc (.cells c0.toArray e0)) c1 e1 rfl
  simpa using this
theorem boxes3 (w : World) (c0 c1 c2 : List Value) (e0 e1 e2 : TypeId) :
    boxAt (((w.alloc (.cells c0.toArray e0)).alloc (.cells c1.toArray e1)).alloc (.cells c2.toArray e2)) w.heap.size c0 ∧ boxAt (((w.alloc (.cells c0.toArray e0)).alloc (.cells c1.toArray e1)).alloc (.cells c2.toArray e2)) (w.heap.size + 1) c1 ∧
    boxAt (((w.alloc (.cells c0.toArray e0)).alloc (.cells c1.toArray e1)).alloc (.cells c2.toArray e2)) (w.heap.size + 2) c2 ∧
    Gr w (((w.alloc (.cells c0.toArray e0)).alloc (.cells c1.toArray e1)).alloc (.cells c2.toArray e2)) ∧ (((w.alloc (.cells c0.toArray e0)).alloc (.cells c1.toArray e1)).alloc (.cells c2.toArray e2)).heap.size = w.heap.size + 3 := by
  obtain ⟨h0, h1, h2, h3⟩ := boxes2 w c0 c1 e0 e1
  refine ⟨h0.later (Gr.alloc _ _), h1.later (Gr.alloc _ _), ?_, h2.trans (Gr.alloc _ _), by simp⟩
  have := boxAt.new (w := (w.alloc (.cells c0.toArray e0)).alloc (.cells c1.toArray e1)) c2 e2 rfl
  simpa using this
theorem boxes4 (w : World) (c0 c1 c2 c3 : List Value) (e0 e1 e2 e3 : TypeId) :
    boxAt ((((w.alloc (.cells c0.toArray e0)).alloc (.cells c1.toArray e1)).alloc (.cells c2.toArray e2)).alloc (.cells c3.toArray e3)) w.heap.size c0 ∧ boxAt ((((w.alloc (.cells c0.toArray e0)).alloc (.cells c1.toArray e1)).alloc (.cells c2.toArray e2)).alloc (.cells c3.toArray e3)) (w.heap.size + 1) c1 ∧
    boxAt ((((w.alloc (.cells c0.toArray e0)).alloc (.cells c1.toArray e1)).alloc (.cells c2.toArray e2)).alloc (.cells c3.toArray e3)) (w.heap.size + 2) c2 ∧ boxAt ((((w.alloc (.cells c0.toArray e0)).alloc (.cells c1.toArray e1)).alloc (.cells c2.toArray e2)).alloc (.cells c3.toArray e3)) (w.heap.size + 3) c3 ∧
    Gr w ((((w.alloc (.cells c0.toArray e0)).alloc (.cells c1.toArray e1)).alloc (.cells c2.toArray e2)).alloc (.cells c3.toArray e3)) ∧ ((((w.alloc (.cells c0.toArray e0)).alloc (.cells c1.toArray e1)).alloc (.cells c2.toArray e2)).alloc (.cells c3.toArray e3)).heap.size = w.heap.size + 4 := by
  obtain ⟨h0, h1, h2, h3, h4⟩ := boxes3 w c0 c1 c2 e0 e1 e2
  refine ⟨h0.later (Gr.alloc _ _), h1.later (Gr.alloc _ _), h2.later (Gr.alloc _ _), ?_, h3.trans (Gr.alloc _ _), by simp⟩
  have := boxAt.new (w := ((w.alloc (.cells c0.toArray e0)).alloc (.cells c1.toArray e1)).alloc (.cells c2.toArray e2)) c3 e3 rfl
  simpa using this

end Go.Proofs.YtihjmeoklbmnmaaDoor
