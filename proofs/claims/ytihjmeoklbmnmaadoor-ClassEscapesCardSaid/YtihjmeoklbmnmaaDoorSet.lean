/- Plain laws of sets of bytes as 256 bits, laid in four words of 64 bits: what the words hold, and what the bit operations on them give. No condition. -/
import Derived.Laws.Entries
import Derived.Laws.Bits64
import Derived.Laws.Bits64b
import Derived.WalkArith
namespace Go.Proofs.YtihjmeoklbmnmaaDoor
open Go

/-- Word i of a set. -/
def wd (s : BitVec 256) (i : Nat) : Int := ((s.extractLsb' (64 * i) 64).toNat : Int)

theorem wd_lo (s : BitVec 256) (i : Nat) : 0 ≤ wd s i := by unfold wd; omega
theorem wd_hi (s : BitVec 256) (i : Nat) : wd s i < 18446744073709551616 := by
  unfold wd; have := (s.extractLsb' (64 * i) 64).isLt; omega

theorem ofInt_wd (s : BitVec 256) (i : Nat) : BitVec.ofInt 64 (wd s i) = s.extractLsb' (64 * i) 64 := by
  unfold wd; rw [BitVec.ofInt_natCast, BitVec.ofNat_toNat, BitVec.setWidth_eq]

theorem wd_of_bv (s : BitVec 256) (i : Nat) (x : BitVec 64) (h : s.extractLsb' (64 * i) 64 = x) : wd s i = IntKind.u64.wrap (x.toNat : Int) := by
  unfold wd; rw [h, IntKind.wrap_u64]; have := x.isLt; omega

theorem wd_or (s t : BitVec 256) (i : Nat) : bits .or .u64 (wd s i) (wd t i) = wd (s ||| t) i := by
  show IntKind.u64.wrap ((BitVec.ofInt 64 (wd s i) ||| BitVec.ofInt 64 (wd t i)).toNat : Int) = _
  rw [ofInt_wd, ofInt_wd]; exact (wd_of_bv _ _ _ (by simp [BitVec.extractLsb'_or])).symm

theorem wd_and (s t : BitVec 256) (i : Nat) : bits .and .u64 (wd s i) (wd t i) = wd (s &&& t) i := by
  show IntKind.u64.wrap ((BitVec.ofInt 64 (wd s i) &&& BitVec.ofInt 64 (wd t i)).toNat : Int) = _
  rw [ofInt_wd, ofInt_wd]; exact (wd_of_bv _ _ _ (by simp [BitVec.extractLsb'_and])).symm

theorem wd_not (s : BitVec 256) (i : Nat) (h : i < 4) : bits .xor .u64 IntKind.u64.max (wd s i) = wd (~~~s) i := by
  show IntKind.u64.wrap ((BitVec.ofInt 64 IntKind.u64.max ^^^ BitVec.ofInt 64 (wd s i)).toNat : Int) = _
  have e : BitVec.ofInt 64 IntKind.u64.max = BitVec.allOnes 64 := by decide
  rw [ofInt_wd, e, BitVec.allOnes_xor]
  refine (wd_of_bv _ _ _ ?_).symm
  ext k hk
  have h2 : 64 * i + k < 256 := by omega
  simp [h2]

/-- Four words make a set. -/
theorem wd_make (c0 c1 c2 c3 : Int) (h0 : 0 ≤ c0 ∧ c0 < 18446744073709551616) (h1 : 0 ≤ c1 ∧ c1 < 18446744073709551616)
    (h2 : 0 ≤ c2 ∧ c2 < 18446744073709551616) (h3 : 0 ≤ c3 ∧ c3 < 18446744073709551616) :
    ∃ s : BitVec 256, c0 = wd s 0 ∧ c1 = wd s 1 ∧ c2 = wd s 2 ∧ c3 = wd s 3 := by
  obtain ⟨n0, rfl⟩ := Int.eq_ofNat_of_zero_le h0.1
  obtain ⟨n1, rfl⟩ := Int.eq_ofNat_of_zero_le h1.1
  obtain ⟨n2, rfl⟩ := Int.eq_ofNat_of_zero_le h2.1
  obtain ⟨n3, rfl⟩ := Int.eq_ofNat_of_zero_le h3.1
  refine ⟨BitVec.ofNat 256 (n0 + 2 ^ 64 * (n1 + 2 ^ 64 * (n2 + 2 ^ 64 * n3))), ?_, ?_, ?_, ?_⟩ <;>
  · unfold wd
    simp only [BitVec.extractLsb'_toNat, BitVec.toNat_ofNat, Nat.shiftRight_eq_div_pow]
    omega

theorem wd_ext (s t : BitVec 256) (h0 : wd s 0 = wd t 0) (h1 : wd s 1 = wd t 1) (h2 : wd s 2 = wd t 2) (h3 : wd s 3 = wd t 3) : s = t := by
  have key : ∀ i, wd s i = wd t i → s.extractLsb' (64 * i) 64 = t.extractLsb' (64 * i) 64 := fun i h => by
    apply BitVec.eq_of_toNat_eq; unfold wd at h; omega
  have k0 := key 0 h0; have k1 := key 1 h1; have k2 := key 2 h2; have k3 := key 3 h3
  ext k hk
  have bit : ∀ i, s.extractLsb' (64 * i) 64 = t.extractLsb' (64 * i) 64 → ∀ j, j < 64 → s.getLsbD (64 * i + j) = t.getLsbD (64 * i + j) := fun i h j hj => by
    have := congrArg (fun x => x.getLsbD j) h
    simpa [hj] using this
  have hk' : k = 64 * (k / 64) + k % 64 := by omega
  have hm : k % 64 < 64 := by omega
  have hd : k / 64 = 0 ∨ k / 64 = 1 ∨ k / 64 = 2 ∨ k / 64 = 3 := by omega
  have : s.getLsbD k = t.getLsbD k := by
    rw [hk']
    rcases hd with h | h | h | h <;> rw [h]
    · exact bit 0 k0 _ hm
    · exact bit 1 k1 _ hm
    · exact bit 2 k2 _ hm
    · exact bit 3 k3 _ hm
  simpa [BitVec.getLsbD_eq_getElem hk] using this

/-- One byte's bit. -/
def bit (b : Nat) : BitVec 256 := 1#256 <<< b

theorem getLsbD_bit (b k : Nat) : (bit b).getLsbD k = (decide (k < 256) && decide (k = b)) := by
  unfold bit
  simp only [BitVec.getLsbD_shiftLeft]
  by_cases h1 : k < 256 <;> by_cases h2 : k = b <;> simp [h1, h2] <;> omega

theorem wd_bit (b : Nat) (r : Nat) (i : Nat) (hb : b < 256) (hr : r = b % 64) (hi : i = b / 64) : wd (bit b) i = 2 ^ r := by
  unfold wd
  have e : (bit b).extractLsb' (64 * i) 64 = BitVec.twoPow 64 r := by
    ext k hk
    simp only [BitVec.getElem_extractLsb', getLsbD_bit, BitVec.getElem_twoPow]
    by_cases h : k = r
    · have h2 : 64 * i + r = b := by omega
      subst h
      simp [h2, hb]
    · have h2 : ¬ 64 * i + k = b := by omega
      simp [h2, h]
  rw [e]
  have hr' : r < 64 := by omega
  simp [BitVec.toNat_twoPow]
  have : (2 : Int) ^ r < 18446744073709551616 := by
    have := Int.pow_lt_pow_of_lt (a := 2) (by decide) hr'
    simpa using this
  have h0 : (0 : Int) ≤ 2 ^ r := Int.pow_nonneg (by decide)
  omega

theorem wd_bit_other (b : Nat) (i : Nat) (hi : i ≠ b / 64) : wd (bit b) i = 0 := by
  unfold wd
  have e : (bit b).extractLsb' (64 * i) 64 = 0#64 := by
    ext k hk
    have h2 : ¬ 64 * i + k = b := by omega
    simp [getLsbD_bit, h2]
  rw [e]; simp

theorem wd_setBit_other (s : BitVec 256) (b i : Nat) (hi : i ≠ b / 64) : wd (s ||| bit b) i = wd s i := by
  rw [← wd_or, wd_bit_other b i hi]
  show IntKind.u64.wrap ((BitVec.ofInt 64 (wd s i) ||| BitVec.ofInt 64 0).toNat : Int) = _
  rw [ofInt_wd]; exact (wd_of_bv _ _ _ (by simp)).symm

theorem wd_setBit (s : BitVec 256) (b i r : Nat) (hb : b < 256) (hr : r = b % 64) (hi : i = b / 64) : bits .or .u64 (wd s i) (2 ^ r) = wd (s ||| bit b) i := by
  rw [← wd_bit b r i hb hr hi, wd_or]

/-- The bit that is asked for. -/
theorem wd_test (s : BitVec 256) (i r : Nat) (hr : r < 64) : (bits .and .u64 (wd s i / 2 ^ r) 1 == 1) = s.getLsbD (64 * i + r) := by
  have e1 : wd s i / 2 ^ r = (((s.extractLsb' (64 * i) 64).toNat / 2 ^ r : Nat) : Int) := by unfold wd; simp
  have hlt := (s.extractLsb' (64 * i) 64).isLt
  have hle : (s.extractLsb' (64 * i) 64).toNat / 2 ^ r ≤ (s.extractLsb' (64 * i) 64).toNat := Nat.div_le_self _ _
  have e2 := bits_and_u64_nat ((s.extractLsb' (64 * i) 64).toNat / 2 ^ r) 1 (by omega) (by omega)
  rw [e1]
  have e3 : ((1 : Nat) : Int) = 1 := rfl
  rw [e3] at e2
  rw [e2]
  have e4 : s.getLsbD (64 * i + r) = (s.extractLsb' (64 * i) 64).toNat.testBit r := by
    rw [BitVec.testBit_toNat]; simp [hr]
  rw [e4, Nat.and_one_is_mod, Nat.testBit_eq_decide_div_mod_eq]
  generalize (s.extractLsb' (64 * i) 64).toNat / 2 ^ r % 2 = q
  rw [Bool.eq_iff_iff]; simp; omega

/-- The set of the bytes of which p says yes. -/
def ofPn (p : Nat → Bool) : Nat → BitVec 256
  | 0 => 0#256
  | n + 1 => if p n then ofPn p n ||| bit n else ofPn p n
def ofP (p : Nat → Bool) : BitVec 256 := ofPn p 256

theorem getLsbD_ofPn (p : Nat → Bool) (k : Nat) : ∀ n, (ofPn p n).getLsbD k = (decide (k < n) && (decide (k < 256) && p k)) := by
  intro n
  induction n with
  | zero => simp [ofPn]
  | succ n ih =>
    unfold ofPn
    by_cases hp : p n = true
    · rw [if_pos hp, BitVec.getLsbD_or, ih, getLsbD_bit]
      by_cases h1 : k = n
      · subst h1; simp [hp]
      · have e : decide (k < n + 1) = decide (k < n) := by simp; omega
        simp [h1, e]
    · rw [if_neg hp, ih]
      by_cases h1 : k = n
      · subst h1; simp [hp]
      · have e : decide (k < n + 1) = decide (k < n) := by simp; omega
        rw [e]

theorem getLsbD_ofP (p : Nat → Bool) (k : Nat) : (ofP p).getLsbD k = (decide (k < 256) && p k) := by
  unfold ofP; rw [getLsbD_ofPn]
  by_cases h : k < 256 <;> simp [h]

theorem set_ext (s t : BitVec 256) (h : ∀ k, k < 256 → s.getLsbD k = t.getLsbD k) : s = t := by
  ext k hk
  have := h k hk
  simpa [BitVec.getLsbD_eq_getElem hk] using this

theorem ofP_congr (p q : Nat → Bool) (h : ∀ k, k < 256 → p k = q k) : ofP p = ofP q :=
  set_ext _ _ fun k hk => by rw [getLsbD_ofP, getLsbD_ofP, h k hk]

theorem ofP_false (p : Nat → Bool) (h : ∀ k, k < 256 → p k = false) : ofP p = 0#256 :=
  set_ext _ _ fun k hk => by rw [getLsbD_ofP, h k hk, Bool.and_false, BitVec.getLsbD_zero]

theorem ofP_bit (p q : Nat → Bool) (b : Nat) (h : ∀ k, k < 256 → q k = (p k || decide (k = b))) : ofP p ||| bit b = ofP q :=
  set_ext _ _ fun k hk => by rw [BitVec.getLsbD_or, getLsbD_ofP, getLsbD_ofP, getLsbD_bit, h k hk]; simp [hk]

/-- The bytes from lo to hi. -/
def rangeSet (lo hi : Nat) : BitVec 256 := ofP (fun b => decide (lo ≤ b) && decide (b ≤ hi))

theorem getLsbD_rangeSet (lo hi k : Nat) : (rangeSet lo hi).getLsbD k = (decide (k < 256) && (decide (lo ≤ k) && decide (k ≤ hi))) := getLsbD_ofP _ _

/-- The empty set, under a name that no rule looks behind. -/
def emptyS : BitVec 256 := 0#256
theorem wd_zero (i : Nat) : wd emptyS i = 0 := by unfold wd emptyS; simp
theorem ofP_empty (p : Nat → Bool) (h : ∀ k, k < 256 → p k = false) : ofP p = emptyS := ofP_false p h
theorem getLsbD_empty (k : Nat) : emptyS.getLsbD k = false := by unfold emptyS; simp

end Go.Proofs.YtihjmeoklbmnmaaDoor
