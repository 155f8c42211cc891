/- The least byte of a set, and the order of sets that it makes. Plain; no condition. -/
import Derived.Test.YtihjmeoklbmnmaaDoorSet
import Derived.Lib.TrailingZeros
namespace Go.Proofs.YtihjmeoklbmnmaaDoor
open Go

/-- k is the least byte of S. -/
def IsLow (S : BitVec 256) (k : Nat) : Prop := k < 256 ∧ S.getLsbD k = true ∧ ∀ j, j < k → S.getLsbD j = false

theorem least_of (p : Nat → Bool) : ∀ n, (∃ k, k < n ∧ p k = true ∧ ∀ j, j < k → p j = false) ∨ ∀ k, k < n → p k = false
  | 0 => .inr fun k hk => absurd hk (Nat.not_lt_zero _)
  | n + 1 => by
    rcases least_of p n with ⟨k, hk, h⟩ | h
    · exact .inl ⟨k, by omega, h⟩
    · cases hp : p n
      · exact .inr fun k hk => by
          rcases Nat.lt_succ_iff_lt_or_eq.1 hk with h1 | rfl
          · exact h k h1
          · exact hp
      · exact .inl ⟨n, by omega, hp, h⟩
theorem low_or (S : BitVec 256) : (∃ k, IsLow S k) ∨ S = emptyS := by
  rcases least_of S.getLsbD 256 with ⟨k, hk, h1, h2⟩ | h
  · exact .inl ⟨k, hk, h1, h2⟩
  · exact .inr (set_ext _ _ fun k hk => by rw [h k hk, getLsbD_empty])

theorem word_bit (S : BitVec 256) (i j : Nat) (hj : j < 64) : (S.extractLsb' (64 * i) 64).toNat.testBit j = S.getLsbD (64 * i + j) := by
  rw [BitVec.testBit_toNat, BitVec.getLsbD_extractLsb']; simp [hj]
theorem word_zero (S : BitVec 256) (i : Nat) (h : ∀ j, j < 64 → S.getLsbD (64 * i + j) = false) : wd S i = 0 := by
  have : (S.extractLsb' (64 * i) 64).toNat = 0 := Nat.eq_of_testBit_eq fun j => by
    by_cases hj : j < 64
    · rw [word_bit S i j hj, h j hj]; simp
    · rw [Nat.testBit_lt_two_pow (Nat.lt_of_lt_of_le (BitVec.isLt _) (Nat.pow_le_pow_right (by omega) (by omega)))]; simp
  unfold wd; rw [this]; rfl
theorem ctz_of (x r : Nat) (hx : x < 2 ^ 64) (hr : r < 64) (h : x.testBit r = true) (h' : ∀ j, j < r → x.testBit j = false) : x ≠ 0 ∧ Lib.ctz 64 x = r := by
  have h0 : x ≠ 0 := fun e => by rw [e] at h; simp at h
  refine ⟨h0, ?_⟩
  obtain ⟨m, hm, hk⟩ := Lib.ctzFrom_spec 64 x (by omega) hx
  have e : Lib.ctz 64 x = Lib.ctzFrom 64 x := by simp [Lib.ctz, h0]
  rw [e]
  obtain ⟨c, hc⟩ : ∃ c, Lib.ctzFrom 64 x = c := ⟨_, rfl⟩
  rw [hc] at hm ⊢
  have t : ∀ j, x.testBit j = (decide (c ≤ j) && (2 * m + 1).testBit (j - c)) := fun j => by rw [hm, Nat.testBit_two_pow_mul]
  rcases Nat.lt_trichotomy c r with h1 | h1 | h1
  · have := h' c h1
    rw [t c] at this
    simp at this
  · exact h1
  · rw [t r] at h
    simp at h; omega

/-- The words of a set whose least byte is k. -/
theorem low_words (S : BitVec 256) (k : Nat) (h : IsLow S k) : (∀ i, i < k / 64 → wd S i = 0) ∧ ∃ x : Nat, wd S (k / 64) = (x : Int) ∧ x < 18446744073709551616 ∧ x ≠ 0 ∧ Lib.ctz 64 x = k % 64 := by
  obtain ⟨hk, h1, h2⟩ := h
  refine ⟨fun i hi => word_zero S i fun j hj => h2 _ (by omega), (S.extractLsb' (64 * (k / 64)) 64).toNat, rfl, BitVec.isLt _, ?_⟩
  refine ctz_of _ _ (BitVec.isLt _) (by omega) ?_ fun j hj => ?_
  · rw [word_bit _ _ _ (by omega), show 64 * (k / 64) + k % 64 = k by omega]; exact h1
  · rw [word_bit _ _ _ (by omega)]; exact h2 _ (by omega)

/-- a stands ahead of b: the least byte that is in one alone is in a. -/
def Ahead (a b : BitVec 256) : Prop := ∃ k, k < 256 ∧ a.getLsbD k = true ∧ b.getLsbD k = false ∧ ∀ j, j < k → a.getLsbD j = b.getLsbD j

/-- What Compare answers. -/
def IsCmp (a b : BitVec 256) (c : Int) : Prop := (a = b ∧ c = 0) ∨ (Ahead a b ∧ c = -1) ∨ (Ahead b a ∧ c = 1)

theorem Ahead.ne {a b : BitVec 256} (h : Ahead a b) : a ≠ b := fun e => by
  obtain ⟨k, _, h1, h2, _⟩ := h
  rw [e, h2] at h1; cases h1
theorem Ahead.not {a b : BitVec 256} (h : Ahead a b) (h' : Ahead b a) : False := by
  obtain ⟨k, _, h1, h2, h3⟩ := h
  obtain ⟨j, _, g1, g2, g3⟩ := h'
  rcases Nat.lt_trichotomy k j with hl | rfl | hl
  · rw [g3 k hl, h1] at h2; cases h2
  · rw [h1] at g2; cases g2
  · rw [h3 j hl, g1] at g2; cases g2
theorem Ahead.trans {a b c : BitVec 256} (h : Ahead a b) (h' : Ahead b c) : Ahead a c := by
  obtain ⟨k, hk, h1, h2, h3⟩ := h
  obtain ⟨j, hj, g1, g2, g3⟩ := h'
  rcases Nat.lt_trichotomy k j with hl | rfl | hl
  · exact ⟨k, hk, h1, by rw [← g3 k hl]; exact h2, fun i hi => (h3 i hi).trans (g3 i (by omega))⟩
  · rw [h2] at g1; cases g1
  · exact ⟨j, hj, by rw [h3 j hl]; exact g1, g2, fun i hi => (h3 i (by omega)).trans (g3 i hi)⟩
theorem IsCmp.one {a b : BitVec 256} {c c' : Int} (h : IsCmp a b c) (h' : IsCmp a b c') : c = c' := by
  rcases h with ⟨e, rfl⟩ | ⟨e, rfl⟩ | ⟨e, rfl⟩ <;> rcases h' with ⟨e', rfl⟩ | ⟨e', rfl⟩ | ⟨e', rfl⟩
  all_goals first
    | rfl
    | exact absurd e e'.ne
    | exact absurd e.symm e'.ne
    | exact absurd e' e.ne
    | exact absurd e'.symm e.ne
    | exact (e.not e').elim
theorem IsCmp.swap {a b : BitVec 256} {c : Int} (h : IsCmp a b c) : IsCmp b a (-c) := by
  rcases h with ⟨e, rfl⟩ | ⟨e, rfl⟩ | ⟨e, rfl⟩
  · exact .inl ⟨e.symm, rfl⟩
  · exact .inr (.inr ⟨e, rfl⟩)
  · exact .inr (.inl ⟨e, rfl⟩)
theorem IsCmp.range {a b : BitVec 256} {c : Int} (h : IsCmp a b c) : -1 ≤ c ∧ c ≤ 1 := by
  rcases h with ⟨_, rfl⟩ | ⟨_, rfl⟩ | ⟨_, rfl⟩ <;> omega
theorem IsCmp.zero {a b : BitVec 256} {c : Int} (h : IsCmp a b c) : c = 0 ↔ a = b := by
  rcases h with ⟨e, rfl⟩ | ⟨e, rfl⟩ | ⟨e, rfl⟩
  · simp [e]
  · exact ⟨fun h => by omega, fun h => absurd h e.ne⟩
  · exact ⟨fun h => by omega, fun h => absurd h.symm e.ne⟩
theorem IsCmp.trans {a b c : BitVec 256} {x y z : Int} (h : IsCmp a b x) (h' : IsCmp b c y) (h'' : IsCmp a c z) (hx : x ≤ 0) (hy : y ≤ 0) : z ≤ 0 ∧ (z = 0 → x + y = 0) := by
  rcases h with ⟨rfl, rfl⟩ | ⟨e, rfl⟩ | ⟨e, rfl⟩
  · have := h''.one h'
    subst this
    exact ⟨hy, fun h => by omega⟩
  · rcases h' with ⟨rfl, rfl⟩ | ⟨e', rfl⟩ | ⟨e', rfl⟩
    · have := h''.one (.inr (.inl ⟨e, rfl⟩))
      omega
    · have := h''.one (.inr (.inl ⟨e.trans e', rfl⟩))
      omega
    · omega
  · omega
/-- a with more bytes stands ahead. -/
theorem ahead_of_within (a b : BitVec 256) (h : ∀ k, k < 256 → b.getLsbD k = true → a.getLsbD k = true) : a = b ∨ Ahead a b := by
  rcases least_of (fun k => a.getLsbD k && !b.getLsbD k) 256 with ⟨k, hk, h1, h2⟩ | h1
  · refine .inr ⟨k, hk, ?_⟩
    simp only [Bool.and_eq_true, Bool.not_eq_true'] at h1
    refine ⟨h1.1, h1.2, fun j hj => ?_⟩
    have h3 := h2 j hj
    have h4 := h j (by omega)
    cases ha : a.getLsbD j <;> cases hb : b.getLsbD j <;> simp_all
  · refine .inl (set_ext _ _ fun k hk => ?_)
    have h3 := h1 k hk
    have h4 := h k hk
    cases ha : a.getLsbD k <;> cases hb : b.getLsbD k <;> simp_all
theorem cmp_within {a b : BitVec 256} {c : Int} (h : ∀ k, k < 256 → b.getLsbD k = true → a.getLsbD k = true) (hc : IsCmp a b c) : c ≤ 0 ∧ (c < 0 ↔ a ≠ b) := by
  rcases ahead_of_within a b h with rfl | h1
  · have := hc.one (.inl ⟨rfl, rfl⟩)
    subst this; simp
  · have := hc.one (.inr (.inl ⟨h1, rfl⟩))
    subst this; simp [h1.ne]
/-- Compare's own way: the least byte that is in one alone. -/
theorem cmp_of_low (a b : BitVec 256) (k : Nat) (h : IsLow (a &&& ~~~b ||| b &&& ~~~a) k) : IsCmp a b (if a.getLsbD k then -1 else 1) := by
  obtain ⟨hk, h1, h2⟩ := h
  simp only [BitVec.getLsbD_or, BitVec.getLsbD_and, BitVec.getLsbD_not] at h1 h2
  have h3 : ∀ j, j < k → a.getLsbD j = b.getLsbD j := fun j hj => by
    have := h2 j hj
    have hj' : j < 256 := by omega
    cases ha : a.getLsbD j <;> cases hb : b.getLsbD j <;> simp_all
  cases ha : a.getLsbD k
  · rw [if_neg (by simp)]
    refine .inr (.inr ⟨⟨k, hk, ?_, ha, fun j hj => (h3 j hj).symm⟩, rfl⟩)
    cases hb : b.getLsbD k
    · rw [ha, hb] at h1; simp at h1
    · rfl
  · rw [if_pos rfl]
    refine .inr (.inl ⟨⟨k, hk, ha, ?_, h3⟩, rfl⟩)
    cases hb : b.getLsbD k
    · rfl
    · rw [ha, hb] at h1; simp at h1
theorem low_of_ne (a b : BitVec 256) (h : a ≠ b) : ∃ k, IsLow (a &&& ~~~b ||| b &&& ~~~a) k := by
  rcases low_or (a &&& ~~~b ||| b &&& ~~~a) with h1 | h1
  · exact h1
  · refine absurd (set_ext _ _ fun k hk => ?_) h
    have := congrArg (fun s => s.getLsbD k) h1
    simp only [BitVec.getLsbD_or, BitVec.getLsbD_and, BitVec.getLsbD_not, getLsbD_empty] at this
    cases ha : a.getLsbD k <;> cases hb : b.getLsbD k <;> simp_all

end Go.Proofs.YtihjmeoklbmnmaaDoor
