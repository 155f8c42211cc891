/- Texts of mine, put together: Set, Byteset, Range, Region, Minus, Mem, NB, SetEqB, SetEq, Pop, SetB, SetC, Of, Str, Spans, Runs. No condition but what each says. -/
import Derived.Laws.Entries
import Derived.Laws.Bits64
import Derived.Laws.Bits64b
import Derived.WalkArith
import Derived.Test.YtihjmeoklbmnmaaDoorRows
import Derived.WalkKit
import Derived.WalkSpells
import Derived.WalkLawsBesides
import Derived.Lib.Hide
import Derived.Deep.RegionHeld3
import Derived.Below
import Derived.WalkSmall
import Derived.Laws.BitsLemmas
import Derived.ShutString
import Derived.Laws.Concat
import Derived.Laws.RangeString
import Derived.Laws.BytesString

/- Plain laws of sets of bytes as 256 bits, laid in four words of 64 bits: what the words hold, and what the bit operations on them give. No condition. -/
namespace Go.Proofs.YtihjmeoklbmnmaaDoor
open Go

/-- Word i of a set. -/
def wd (s : BitVec 256) (i : Nat) : Int := ((s.extractLsb' (64 * i) 64).toNat : Int)

theorem wd_lo (s : BitVec 256) (i : Nat) : 0 ≤ wd s i := by unfold wd; omega
theorem wd_hi (s : BitVec 256) (i : Nat) : wd s i < 18446744073709551616 := by
  unfold wd; have := (s.extractLsb' (64 * i) 64).isLt; omega

theorem ofInt_wd (s : BitVec 256) (i : Nat) : BitVec.ofInt 64 (wd s i) = s.extractLsb' (64 * i) 64 := by
  unfold wd; rw [BitVec.ofInt_natCast, BitVec.ofNat_toNat, BitVec.setWidth_eq]

theorem wd_of_bv (s : BitVec 256) (i : Nat) (x : BitVec 64) (h : s.extractLsb' (64 * i) 64 = x) : wd s i = IntKind.u64.wrap (x.toNat : Int) := by
  unfold wd; rw [h, IntKind.wrap_u64]; have := x.isLt; omega

theorem wd_or (s t : BitVec 256) (i : Nat) : bits .or .u64 (wd s i) (wd t i) = wd (s ||| t) i := by
  show IntKind.u64.wrap ((BitVec.ofInt 64 (wd s i) ||| BitVec.ofInt 64 (wd t i)).toNat : Int) = _
  rw [ofInt_wd, ofInt_wd]; exact (wd_of_bv _ _ _ (by simp [BitVec.extractLsb'_or])).symm

theorem wd_and (s t : BitVec 256) (i : Nat) : bits .and .u64 (wd s i) (wd t i) = wd (s &&& t) i := by
  show IntKind.u64.wrap ((BitVec.ofInt 64 (wd s i) &&& BitVec.ofInt 64 (wd t i)).toNat : Int) = _
  rw [ofInt_wd, ofInt_wd]; exact (wd_of_bv _ _ _ (by simp [BitVec.extractLsb'_and])).symm

theorem wd_not (s : BitVec 256) (i : Nat) (h : i < 4) : bits .xor .u64 IntKind.u64.max (wd s i) = wd (~~~s) i := by
  show IntKind.u64.wrap ((BitVec.ofInt 64 IntKind.u64.max ^^^ BitVec.ofInt 64 (wd s i)).toNat : Int) = _
  have e : BitVec.ofInt 64 IntKind.u64.max = BitVec.allOnes 64 := by decide
  rw [ofInt_wd, e, BitVec.allOnes_xor]
  refine (wd_of_bv _ _ _ ?_).symm
  ext k hk
  have h2 : 64 * i + k < 256 := by omega
  simp [h2]

/-- Four words make a set. -/
theorem wd_make (c0 c1 c2 c3 : Int) (h0 : 0 ≤ c0 ∧ c0 < 18446744073709551616) (h1 : 0 ≤ c1 ∧ c1 < 18446744073709551616)
    (h2 : 0 ≤ c2 ∧ c2 < 18446744073709551616) (h3 : 0 ≤ c3 ∧ c3 < 18446744073709551616) :
    ∃ s : BitVec 256, c0 = wd s 0 ∧ c1 = wd s 1 ∧ c2 = wd s 2 ∧ c3 = wd s 3 := by
  obtain ⟨n0, rfl⟩ := Int.eq_ofNat_of_zero_le h0.1
  obtain ⟨n1, rfl⟩ := Int.eq_ofNat_of_zero_le h1.1
  obtain ⟨n2, rfl⟩ := Int.eq_ofNat_of_zero_le h2.1
  obtain ⟨n3, rfl⟩ := Int.eq_ofNat_of_zero_le h3.1
  refine ⟨BitVec.ofNat 256 (n0 + 2 ^ 64 * (n1 + 2 ^ 64 * (n2 + 2 ^ 64 * n3))), ?_, ?_, ?_, ?_⟩ <;>
  · unfold wd
    simp only [BitVec.extractLsb'_toNat, BitVec.toNat_ofNat, Nat.shiftRight_eq_div_pow]
    omega

theorem wd_ext (s t : BitVec 256) (h0 : wd s 0 = wd t 0) (h1 : wd s 1 = wd t 1) (h2 : wd s 2 = wd t 2) (h3 : wd s 3 = wd t 3) : s = t := by
  have key : ∀ i, wd s i = wd t i → s.extractLsb' (64 * i) 64 = t.extractLsb' (64 * i) 64 := fun i h => by
    apply BitVec.eq_of_toNat_eq; unfold wd at h; omega
  have k0 := key 0 h0; have k1 := key 1 h1; have k2 := key 2 h2; have k3 := key 3 h3
  ext k hk
  have bit : ∀ i, s.extractLsb' (64 * i) 64 = t.extractLsb' (64 * i) 64 → ∀ j, j < 64 → s.getLsbD (64 * i + j) = t.getLsbD (64 * i + j) := fun i h j hj => by
    have := congrArg (fun x => x.getLsbD j) h
    simpa [hj] using this
  have hk' : k = 64 * (k / 64) + k % 64 := by omega
  have hm : k % 64 < 64 := by omega
  have hd : k / 64 = 0 ∨ k / 64 = 1 ∨ k / 64 = 2 ∨ k / 64 = 3 := by omega
  have : s.getLsbD k = t.getLsbD k := by
    rw [hk']
    rcases hd with h | h | h | h <;> rw [h]
    · exact bit 0 k0 _ hm
    · exact bit 1 k1 _ hm
    · exact bit 2 k2 _ hm
    · exact bit 3 k3 _ hm
  simpa [BitVec.getLsbD_eq_getElem hk] using this

/-- One byte's bit. -/
def bit (b : Nat) : BitVec 256 := 1#256 <<< b

theorem getLsbD_bit (b k : Nat) : (bit b).getLsbD k = (decide (k < 256) && decide (k = b)) := by
  unfold bit
  simp only [BitVec.getLsbD_shiftLeft]
  by_cases h1 : k < 256 <;> by_cases h2 : k = b <;> simp [h1, h2] <;> omega

theorem wd_bit (b : Nat) (r : Nat) (i : Nat) (hb : b < 256) (hr : r = b % 64) (hi : i = b / 64) : wd (bit b) i = 2 ^ r := by
  unfold wd
  have e : (bit b).extractLsb' (64 * i) 64 = BitVec.twoPow 64 r := by
    ext k hk
    simp only [BitVec.getElem_extractLsb', getLsbD_bit, BitVec.getElem_twoPow]
    by_cases h : k = r
    · have h2 : 64 * i + r = b := by omega
      subst h
      simp [h2, hb]
    · have h2 : ¬ 64 * i + k = b := by omega
      simp [h2, h]
  rw [e]
  have hr' : r < 64 := by omega
  simp [BitVec.toNat_twoPow]
  have : (2 : Int) ^ r < 18446744073709551616 := by
    have := Int.pow_lt_pow_of_lt (a := 2) (by decide) hr'
    simpa using this
  have h0 : (0 : Int) ≤ 2 ^ r := Int.pow_nonneg (by decide)
  omega

theorem wd_bit_other (b : Nat) (i : Nat) (hi : i ≠ b / 64) : wd (bit b) i = 0 := by
  unfold wd
  have e : (bit b).extractLsb' (64 * i) 64 = 0#64 := by
    ext k hk
    have h2 : ¬ 64 * i + k = b := by omega
    simp [getLsbD_bit, h2]
  rw [e]; simp

theorem wd_setBit_other (s : BitVec 256) (b i : Nat) (hi : i ≠ b / 64) : wd (s ||| bit b) i = wd s i := by
  rw [← wd_or, wd_bit_other b i hi]
  show IntKind.u64.wrap ((BitVec.ofInt 64 (wd s i) ||| BitVec.ofInt 64 0).toNat : Int) = _
  rw [ofInt_wd]; exact (wd_of_bv _ _ _ (by simp)).symm

theorem wd_setBit (s : BitVec 256) (b i r : Nat) (hb : b < 256) (hr : r = b % 64) (hi : i = b / 64) : bits .or .u64 (wd s i) (2 ^ r) = wd (s ||| bit b) i := by
  rw [← wd_bit b r i hb hr hi, wd_or]

/-- The bit that is asked for. -/
theorem wd_test (s : BitVec 256) (i r : Nat) (hr : r < 64) : (bits .and .u64 (wd s i / 2 ^ r) 1 == 1) = s.getLsbD (64 * i + r) := by
  have e1 : wd s i / 2 ^ r = (((s.extractLsb' (64 * i) 64).toNat / 2 ^ r : Nat) : Int) := by unfold wd; simp
  have hlt := (s.extractLsb' (64 * i) 64).isLt
  have hle : (s.extractLsb' (64 * i) 64).toNat / 2 ^ r ≤ (s.extractLsb' (64 * i) 64).toNat := Nat.div_le_self _ _
  have e2 := bits_and_u64_nat ((s.extractLsb' (64 * i) 64).toNat / 2 ^ r) 1 (by omega) (by omega)
  rw [e1]
  have e3 : ((1 : Nat) : Int) = 1 := rfl
  rw [e3] at e2
  rw [e2]
  have e4 : s.getLsbD (64 * i + r) = (s.extractLsb' (64 * i) 64).toNat.testBit r := by
    rw [BitVec.testBit_toNat]; simp [hr]
  rw [e4, Nat.and_one_is_mod, Nat.testBit_eq_decide_div_mod_eq]
  generalize (s.extractLsb' (64 * i) 64).toNat / 2 ^ r % 2 = q
  rw [Bool.eq_iff_iff]; simp; omega

/-- The set of the bytes of which p says yes. -/
def ofPn (p : Nat → Bool) : Nat → BitVec 256
  | 0 => 0#256
  | n + 1 => if p n then ofPn p n ||| bit n else ofPn p n
def ofP (p : Nat → Bool) : BitVec 256 := ofPn p 256

theorem getLsbD_ofPn (p : Nat → Bool) (k : Nat) : ∀ n, (ofPn p n).getLsbD k = (decide (k < n) && (decide (k < 256) && p k)) := by
  intro n
  induction n with
  | zero => simp [ofPn]
  | succ n ih =>
    unfold ofPn
    by_cases hp : p n = true
    · rw [if_pos hp, BitVec.getLsbD_or, ih, getLsbD_bit]
      by_cases h1 : k = n
      · subst h1; simp [hp]
      · have e : decide (k < n + 1) = decide (k < n) := by simp; omega
        simp [h1, e]
    · rw [if_neg hp, ih]
      by_cases h1 : k = n
      · subst h1; simp [hp]
      · have e : decide (k < n + 1) = decide (k < n) := by simp; omega
        rw [e]

theorem getLsbD_ofP (p : Nat → Bool) (k : Nat) : (ofP p).getLsbD k = (decide (k < 256) && p k) := by
  unfold ofP; rw [getLsbD_ofPn]
  by_cases h : k < 256 <;> simp [h]

theorem set_ext (s t : BitVec 256) (h : ∀ k, k < 256 → s.getLsbD k = t.getLsbD k) : s = t := by
  ext k hk
  have := h k hk
  simpa [BitVec.getLsbD_eq_getElem hk] using this

theorem ofP_congr (p q : Nat → Bool) (h : ∀ k, k < 256 → p k = q k) : ofP p = ofP q :=
  set_ext _ _ fun k hk => by rw [getLsbD_ofP, getLsbD_ofP, h k hk]

theorem ofP_false (p : Nat → Bool) (h : ∀ k, k < 256 → p k = false) : ofP p = 0#256 :=
  set_ext _ _ fun k hk => by rw [getLsbD_ofP, h k hk, Bool.and_false, BitVec.getLsbD_zero]

theorem ofP_bit (p q : Nat → Bool) (b : Nat) (h : ∀ k, k < 256 → q k = (p k || decide (k = b))) : ofP p ||| bit b = ofP q :=
  set_ext _ _ fun k hk => by rw [BitVec.getLsbD_or, getLsbD_ofP, getLsbD_ofP, getLsbD_bit, h k hk]; simp [hk]

/-- The bytes from lo to hi. -/
def rangeSet (lo hi : Nat) : BitVec 256 := ofP (fun b => decide (lo ≤ b) && decide (b ≤ hi))

theorem getLsbD_rangeSet (lo hi k : Nat) : (rangeSet lo hi).getLsbD k = (decide (k < 256) && (decide (lo ≤ k) && decide (k ≤ hi))) := getLsbD_ofP _ _

/-- The empty set, under a name that no rule looks behind. -/
def emptyS : BitVec 256 := 0#256
theorem wd_zero (i : Nat) : wd emptyS i = 0 := by unfold wd emptyS; simp
theorem ofP_empty (p : Nat → Bool) (h : ∀ k, k < 256 → p k = false) : ofP p = emptyS := ofP_false p h
theorem getLsbD_empty (k : Nat) : emptyS.getLsbD k = false := by unfold emptyS; simp

end Go.Proofs.YtihjmeoklbmnmaaDoor

/- What the functions of package byteset compute: one contract a function. No condition. -/
namespace Go.Proofs.YtihjmeoklbmnmaaDoor
open Go.RowKit

/-- Old cells and old marks, behind a call that only makes memory. -/
theorem bcell {W w1 : World} (hb : Below W.heap.size W w1) : (∀ b o, b < W.heap.size → w1.cell? ⟨b, o, none⟩ = W.cell? ⟨b, o, none⟩) ∧ (∀ b o, b < W.heap.size → w1.frozen? ⟨b, o, none⟩ = W.frozen? ⟨b, o, none⟩) :=
  ⟨fun b o h => hb.cell (p := ⟨b, o, none⟩) h, fun b o h => hb.frozen (p := ⟨b, o, none⟩) h⟩

@[go_sem] theorem setCell_drewN (w : World) (n : Nat) (a : Addr) (v : Value) : (w.drewN n).setCell a v = (w.setCell a v).drewN n := rfl
@[go_sem] theorem alloc_drewN (w : World) (n : Nat) (o : Obj) : (w.drewN n).alloc o = (w.alloc o).drewN n := rfl

set_option maxRecDepth 100000 in
set_option maxHeartbeats 400000 in
theorem union_any (s t : BitVec 256) (w : World) :
    Calls Tryd.prog 15 #[.agg #[.int .u64 (wd s 0), .int .u64 (wd s 1), .int .u64 (wd s 2), .int .u64 (wd s 3)], .agg #[.int .u64 (wd t 0), .int .u64 (wd t 1), .int .u64 (wd t 2), .int .u64 (wd t 3)]] w fun e w' => e = .returned (.agg #[.int .u64 (wd ((s ||| t)) 0), .int .u64 (wd ((s ||| t)) 1), .int .u64 (wd ((s ||| t)) 2), .int .u64 (wd ((s ||| t)) 3)]) ∧ Below w.heap.size w w' := by
  have o0 := wd_or s t 0
  have o1 := wd_or s t 1
  have o2 := wd_or s t 2
  have o3 := wd_or s t 3
  go_enter Tryd.func15, Tryd.ntmps15
  go_wp2
  refine wp_loop_rounds 5 ?_; rw [rounds_succ]
  go_wp2
  go_region
  go_wp2
  rw [rounds_succ]
  go_wp2
  go_region
  go_wp2
  rw [rounds_succ]
  go_wp2
  go_region
  go_wp2
  rw [rounds_succ]
  go_wp2
  go_region
  go_wp2
  rw [rounds_succ]
  go_wp2
  exact bodyPost_ret (v := .agg #[.int .u64 (wd ((s ||| t)) 0), .int .u64 (wd ((s ||| t)) 1), .int .u64 (wd ((s ||| t)) 2), .int .u64 (wd ((s ||| t)) 3)]) (by simp [results, Tryd.results15, go_sem]) rfl ⟨rfl, ((((((Below.refl _ _).alloc (Nat.le_refl _) _).alloc (by simp) _).alloc (by simp; omega) _).drew).drew).drew.drew⟩

set_option maxRecDepth 100000 in
set_option maxHeartbeats 400000 in
theorem complement_any (s : BitVec 256) (w : World) :
    Calls Tryd.prog 14 #[.agg #[.int .u64 (wd s 0), .int .u64 (wd s 1), .int .u64 (wd s 2), .int .u64 (wd s 3)]] w fun e w' => e = .returned (.agg #[.int .u64 (wd ((~~~s)) 0), .int .u64 (wd ((~~~s)) 1), .int .u64 (wd ((~~~s)) 2), .int .u64 (wd ((~~~s)) 3)]) ∧ Below w.heap.size w w' := by
  have o0 := wd_not s 0 (by decide)
  have o1 := wd_not s 1 (by decide)
  have o2 := wd_not s 2 (by decide)
  have o3 := wd_not s 3 (by decide)
  go_enter Tryd.func14, Tryd.ntmps14
  go_wp2
  refine wp_loop_rounds 5 ?_; rw [rounds_succ]
  go_wp2
  rw [rounds_succ]
  go_wp2
  rw [rounds_succ]
  go_wp2
  rw [rounds_succ]
  go_wp2
  rw [rounds_succ]
  go_wp2
  exact bodyPost_ret (v := .agg #[.int .u64 (wd ((~~~s)) 0), .int .u64 (wd ((~~~s)) 1), .int .u64 (wd ((~~~s)) 2), .int .u64 (wd ((~~~s)) 3)]) (by simp [results, Tryd.results14, go_sem]) rfl ⟨rfl, (((Below.refl _ _).alloc (Nat.le_refl _) _).alloc (by simp) _)⟩

set_option maxRecDepth 100000 in
set_option maxHeartbeats 400000 in
theorem has_0 (s : BitVec 256) (x : Int) (r : Nat) (w : World) (hd : x / 64 = 0) (hm : x % 64 = (r : Int)) (h0 : 0 ≤ x) (h1 : x < 256) (hlo : 0 ≤ wd s 0) (hhi : wd s 0 < 18446744073709551616) (hx : (bits .and .u64 (wd s 0 / 2 ^ r) 1 == 1) = s.getLsbD (64 * 0 + r)) :
    Calls Tryd.prog 45 #[.agg #[.int .u64 (wd s 0), .int .u64 (wd s 1), .int .u64 (wd s 2), .int .u64 (wd s 3)], .int .u8 x] w fun e w' => e = .returned (.bool (s.getLsbD (64 * 0 + r))) ∧ Below w.heap.size w w' := by
  have HX := Lib.hid hx
  clear hx
  go_enter Tryd.func45, Tryd.ntmps45
  go_wp2
  go_ret
  exact ⟨by rw [← HX.out]; rfl, (Below.refl _ _).alloc (Nat.le_refl _) _⟩

set_option maxRecDepth 100000 in
set_option maxHeartbeats 400000 in
theorem has_1 (s : BitVec 256) (x : Int) (r : Nat) (w : World) (hd : x / 64 = 1) (hm : x % 64 = (r : Int)) (h0 : 0 ≤ x) (h1 : x < 256) (hlo : 0 ≤ wd s 1) (hhi : wd s 1 < 18446744073709551616) (hx : (bits .and .u64 (wd s 1 / 2 ^ r) 1 == 1) = s.getLsbD (64 * 1 + r)) :
    Calls Tryd.prog 45 #[.agg #[.int .u64 (wd s 0), .int .u64 (wd s 1), .int .u64 (wd s 2), .int .u64 (wd s 3)], .int .u8 x] w fun e w' => e = .returned (.bool (s.getLsbD (64 * 1 + r))) ∧ Below w.heap.size w w' := by
  have HX := Lib.hid hx
  clear hx
  go_enter Tryd.func45, Tryd.ntmps45
  go_wp2
  go_ret
  exact ⟨by rw [← HX.out]; rfl, (Below.refl _ _).alloc (Nat.le_refl _) _⟩

set_option maxRecDepth 100000 in
set_option maxHeartbeats 400000 in
theorem has_2 (s : BitVec 256) (x : Int) (r : Nat) (w : World) (hd : x / 64 = 2) (hm : x % 64 = (r : Int)) (h0 : 0 ≤ x) (h1 : x < 256) (hlo : 0 ≤ wd s 2) (hhi : wd s 2 < 18446744073709551616) (hx : (bits .and .u64 (wd s 2 / 2 ^ r) 1 == 1) = s.getLsbD (64 * 2 + r)) :
    Calls Tryd.prog 45 #[.agg #[.int .u64 (wd s 0), .int .u64 (wd s 1), .int .u64 (wd s 2), .int .u64 (wd s 3)], .int .u8 x] w fun e w' => e = .returned (.bool (s.getLsbD (64 * 2 + r))) ∧ Below w.heap.size w w' := by
  have HX := Lib.hid hx
  clear hx
  go_enter Tryd.func45, Tryd.ntmps45
  go_wp2
  go_ret
  exact ⟨by rw [← HX.out]; rfl, (Below.refl _ _).alloc (Nat.le_refl _) _⟩

set_option maxRecDepth 100000 in
set_option maxHeartbeats 400000 in
theorem has_3 (s : BitVec 256) (x : Int) (r : Nat) (w : World) (hd : x / 64 = 3) (hm : x % 64 = (r : Int)) (h0 : 0 ≤ x) (h1 : x < 256) (hlo : 0 ≤ wd s 3) (hhi : wd s 3 < 18446744073709551616) (hx : (bits .and .u64 (wd s 3 / 2 ^ r) 1 == 1) = s.getLsbD (64 * 3 + r)) :
    Calls Tryd.prog 45 #[.agg #[.int .u64 (wd s 0), .int .u64 (wd s 1), .int .u64 (wd s 2), .int .u64 (wd s 3)], .int .u8 x] w fun e w' => e = .returned (.bool (s.getLsbD (64 * 3 + r))) ∧ Below w.heap.size w w' := by
  have HX := Lib.hid hx
  clear hx
  go_enter Tryd.func45, Tryd.ntmps45
  go_wp2
  go_ret
  exact ⟨by rw [← HX.out]; rfl, (Below.refl _ _).alloc (Nat.le_refl _) _⟩

theorem has_any (s : BitVec 256) (b : Nat) (w : World) (hb : b < 256) :
    Calls Tryd.prog 45 #[.agg #[.int .u64 (wd s 0), .int .u64 (wd s 1), .int .u64 (wd s 2), .int .u64 (wd s 3)], .int .u8 b] w fun e w' => e = .returned (.bool (s.getLsbD b)) ∧ Below w.heap.size w w' := by
  have hlo := wd_lo s
  have hhi := wd_hi s
  have hx := fun i => wd_test s i (b % 64) (by omega)
  have hm : (b : Int) % 64 = ((b % 64 : Nat) : Int) := by omega
  have hcase : b / 64 = 0 ∨ b / 64 = 1 ∨ b / 64 = 2 ∨ b / 64 = 3 := by omega
  rcases hcase with h | h | h | h
  · have e : 64 * 0 + b % 64 = b := by omega
    have := has_0 s b (b % 64) w (by omega) hm (by omega) (by omega) (hlo _) (hhi _) (hx _)
    rw [e] at this; exact this
  · have e : 64 * 1 + b % 64 = b := by omega
    have := has_1 s b (b % 64) w (by omega) hm (by omega) (by omega) (hlo _) (hhi _) (hx _)
    rw [e] at this; exact this
  · have e : 64 * 2 + b % 64 = b := by omega
    have := has_2 s b (b % 64) w (by omega) hm (by omega) (by omega) (hlo _) (hhi _) (hx _)
    rw [e] at this; exact this
  · have e : 64 * 3 + b % 64 = b := by omega
    have := has_3 s b (b % 64) w (by omega) hm (by omega) (by omega) (hlo _) (hhi _) (hx _)
    rw [e] at this; exact this

set_option maxRecDepth 100000 in
set_option maxHeartbeats 400000 in
theorem inter_any (s t : BitVec 256) (w : World) :
    Calls Tryd.prog 16 #[.agg #[.int .u64 (wd s 0), .int .u64 (wd s 1), .int .u64 (wd s 2), .int .u64 (wd s 3)], .agg #[.int .u64 (wd t 0), .int .u64 (wd t 1), .int .u64 (wd t 2), .int .u64 (wd t 3)]] w fun e w' => e = .returned (.agg #[.int .u64 (wd ((s &&& t)) 0), .int .u64 (wd ((s &&& t)) 1), .int .u64 (wd ((s &&& t)) 2), .int .u64 (wd ((s &&& t)) 3)]) ∧ Below w.heap.size w w' := by
  have o0 := wd_and s t 0
  have o1 := wd_and s t 1
  have o2 := wd_and s t 2
  have o3 := wd_and s t 3
  go_enter Tryd.func16, Tryd.ntmps16
  go_wp2
  refine wp_loop_rounds 5 ?_; rw [rounds_succ]
  go_wp2
  go_region
  go_wp2
  rw [rounds_succ]
  go_wp2
  go_region
  go_wp2
  rw [rounds_succ]
  go_wp2
  go_region
  go_wp2
  rw [rounds_succ]
  go_wp2
  go_region
  go_wp2
  rw [rounds_succ]
  go_wp2
  exact bodyPost_ret (v := .agg #[.int .u64 (wd ((s &&& t)) 0), .int .u64 (wd ((s &&& t)) 1), .int .u64 (wd ((s &&& t)) 2), .int .u64 (wd ((s &&& t)) 3)]) (by simp [results, Tryd.results16, go_sem]) rfl ⟨rfl, ((((((Below.refl _ _).alloc (Nat.le_refl _) _).alloc (by simp) _).alloc (by simp; omega) _).drew).drew).drew.drew⟩

end Go.Proofs.YtihjmeoklbmnmaaDoor

/- Range. -/
namespace Go.Proofs.YtihjmeoklbmnmaaDoor
open Go.RowKit

theorem rangeTo_step (lo k : Nat) (h : lo ≤ k) : ofP (fun b => decide (lo ≤ b) && decide (b < k)) ||| bit k = ofP (fun b => decide (lo ≤ b) && decide (b < k + 1)) :=
  ofP_bit _ _ _ fun j _ => by
    rw [Bool.eq_iff_iff]; simp; omega
theorem rangeTo_start (lo : Nat) : ofP (fun b => decide (lo ≤ b) && decide (b < lo)) = emptyS :=
  ofP_false _ fun j _ => by simp
theorem rangeTo_end (lo hi k : Nat) (h : k = hi + 1) : ofP (fun b => decide (lo ≤ b) && decide (b < k)) = rangeSet lo hi :=
  ofP_congr _ _ fun j _ => by rw [Bool.eq_iff_iff]; simp; omega
theorem rangeTo_none (lo hi k : Nat) (h : k = lo) (h2 : hi < lo) : ofP (fun b => decide (lo ≤ b) && decide (b < k)) = rangeSet lo hi :=
  ofP_congr _ _ fun j _ => by rw [Bool.eq_iff_iff]; simp; omega

theorem pow_wrap (r : Nat) (h : r < 64) : IntKind.u64.wrap (2 ^ r) = 2 ^ r := by
  rw [IntKind.wrap_u64]
  have := Int.pow_lt_pow_of_lt (a := 2) (by decide) h
  have h0 : (0 : Int) ≤ 2 ^ r := Int.pow_nonneg (by decide)
  exact Int.emod_eq_of_lt h0 (by simpa using this)

set_option maxRecDepth 100000 in
set_option maxHeartbeats 1000000 in
theorem range_any (lo hi : Nat) (w : World) (hlo : lo < 256) (hhi : hi < 256) :
    Calls Tryd.prog 68 #[.int .u8 lo, .int .u8 hi] w fun e w' => e = .returned (.agg #[.int .u64 (wd ((rangeSet lo hi)) 0), .int .u64 (wd ((rangeSet lo hi)) 1), .int .u64 (wd ((rangeSet lo hi)) 2), .int .u64 (wd ((rangeSet lo hi)) 3)]) ∧ Below w.heap.size w w' := by
  go_enter Tryd.func68, Tryd.ntmps68
  go_wp2
  go_loopw [6] (fun i wr => ∃ (k n : Nat) (S : BitVec 256), k ≤ 256 ∧ lo ≤ k ∧ (k ≤ hi + 1 ∨ k = lo) ∧ S = ofP (fun b => decide (lo ≤ b) && decide (b < k)) ∧ i = .int .i64 k ∧ wr = ((w.alloc (.cells #[.int .u64 0, .int .u64 0, .int .u64 0, .int .u64 0] 29)).alloc (.cells #[.int .u64 (wd S 0), .int .u64 (wd S 1), .int .u64 (wd S 2), .int .u64 (wd S 3)] 29)).drewN n) (fun i _ => 256 - (intOf i).toNat)
  case atStart => exact ⟨lo, 0, emptyS, by omega, by omega, by omega, (rangeTo_start lo).symm, rfl, by simp only [wd_zero]; rfl⟩
  case round =>
    obtain ⟨k, n, S, hk, hk2, hk3, hS, rfl, rfl⟩ := hrel
    have HS := Lib.hid hS
    clear hS
    by_cases hle : k ≤ hi
    · obtain ⟨q, r, hr, hq, hqr⟩ : ∃ q r : Nat, r < 64 ∧ (q = 0 ∨ q = 1 ∨ q = 2 ∨ q = 3) ∧ k = 64 * q + r := ⟨k / 64, k % 64, by omega, by omega, by omega⟩
      have E := fun i (hi : i = k / 64) => wd_setBit S k i r (by omega) (by omega) hi
      have D := fun i (hi : i ≠ k / 64) => wd_setBit_other S k i hi
      have hm : (k : Int) % 64 = r := by omega
      have fin : S ||| bit k = ofP (fun b => decide (lo ≤ b) && decide (b < k + 1)) := by rw [HS.out]; exact rangeTo_step lo k hk2
      have FIN := Lib.hid fin
      have HE := Lib.hid E
      have HD := Lib.hid D
      clear fin E D
      rcases hq with rfl | rfl | rfl | rfl
      · have hd : (k : Int) / 64 = 0 := by omega
        have hd2 : k / 64 = 0 := by omega
        have hwr := pow_wrap r hr
        clear hqr
        go_wp2
        go_region
        go_wp2
        have e0 := HE.out 0 (by omega)
        simp only [hwr, e0]
        go_roundw
        case rel =>
          have Hd := HD.out
          refine ⟨k + 1, n + 1, S ||| bit k, by omega, by omega, by omega, FIN.out, by go_num, ?_⟩
          rw [Hd 1 (by omega), Hd 2 (by omega), Hd 3 (by omega)]
        case measure => simp [intOf]; omega
      · have hd : (k : Int) / 64 = 1 := by omega
        have hd2 : k / 64 = 1 := by omega
        have hwr := pow_wrap r hr
        clear hqr
        go_wp2
        go_region
        go_wp2
        have e1 := HE.out 1 (by omega)
        simp only [hwr, e1]
        go_roundw
        case rel =>
          have Hd := HD.out
          refine ⟨k + 1, n + 1, S ||| bit k, by omega, by omega, by omega, FIN.out, by go_num, ?_⟩
          rw [Hd 0 (by omega), Hd 2 (by omega), Hd 3 (by omega)]
        case measure => simp [intOf]; omega
      · have hd : (k : Int) / 64 = 2 := by omega
        have hd2 : k / 64 = 2 := by omega
        have hwr := pow_wrap r hr
        clear hqr
        go_wp2
        go_region
        go_wp2
        have e2 := HE.out 2 (by omega)
        simp only [hwr, e2]
        go_roundw
        case rel =>
          have Hd := HD.out
          refine ⟨k + 1, n + 1, S ||| bit k, by omega, by omega, by omega, FIN.out, by go_num, ?_⟩
          rw [Hd 0 (by omega), Hd 1 (by omega), Hd 3 (by omega)]
        case measure => simp [intOf]; omega
      · have hd : (k : Int) / 64 = 3 := by omega
        have hd2 : k / 64 = 3 := by omega
        have hwr := pow_wrap r hr
        clear hqr
        go_wp2
        go_region
        go_wp2
        have e3 := HE.out 3 (by omega)
        simp only [hwr, e3]
        go_roundw
        case rel =>
          have Hd := HD.out
          refine ⟨k + 1, n + 1, S ||| bit k, by omega, by omega, by omega, FIN.out, by go_num, ?_⟩
          rw [Hd 0 (by omega), Hd 1 (by omega), Hd 2 (by omega)]
        case measure => simp [intOf]; omega
    · obtain rfl : S = rangeSet lo hi := by
        rw [HS.out]
        rcases hk3 with h | h
        · exact rangeTo_end lo hi k (by omega)
        · exact rangeTo_none lo hi k h (by omega)
      clear HS
      go_wp2
      refine bodyPost_ret (v := .agg #[.int .u64 (wd (rangeSet lo hi) 0), .int .u64 (wd (rangeSet lo hi) 1), .int .u64 (wd (rangeSet lo hi) 2), .int .u64 (wd (rangeSet lo hi) 3)]) (by simp [results, Tryd.results68, go_sem]) rfl ⟨rfl, ?_⟩
      exact below_drewN (((Below.refl _ _).alloc (Nat.le_refl _) _).alloc (by simp) _) _

end Go.Proofs.YtihjmeoklbmnmaaDoor

/- A region that draws its order, walked once: what only reads is taken as soon as it may come up, what makes memory or calls is run in its one order; each of these leaves all that was there as it was. No condition. -/
namespace Go.Proofs.YtihjmeoklbmnmaaDoor
open Go Go.RowKit

/-- All that was there is as it was. -/
def Gr (w w' : World) : Prop := Below w.heap.size w w'
theorem Gr.refl (w : World) : Gr w w := Below.refl _ _
theorem Gr.trans {a b c : World} (h : Gr a b) (k : Gr b c) : Gr a c := Below.trans h (Below.mono k h.size)
theorem Gr.drewN (w : World) (n : Nat) : Gr w (w.drewN n) := below_drewN (Below.refl _ _) n
theorem Gr.drew (w : World) : Gr w w.drew := (Below.refl _ _).drew
theorem Gr.alloc (w : World) (o : Obj) : Gr w (w.alloc o) := (Below.refl _ _).alloc (Nat.le_refl _) _
theorem Gr.block {w w' : World} (h : Gr w w') {p : Addr} {v : Value} (hc : w.cell? p = some v) : p.block < w.heap.size := World.block_lt_of_cell? w p hc
theorem Gr.cell {w w' : World} (h : Gr w w') {p : Addr} {v : Value} (hc : w.cell? p = some v) : w'.cell? p = some v := by
  rw [Below.cell h (Gr.block h hc)]; exact hc
theorem Gr.frozen {w w' : World} (h : Gr w w') {p : Addr} {b : Bool} (hp : p.block < w.heap.size) (hc : w.frozen? p = b) : w'.frozen? p = b := by
  rw [Below.frozen h hp]; exact hc
theorem Gr.size {w w' : World} (h : Gr w w') : w.heap.size ≤ w'.heap.size := Below.size h

section
variable {P : Program} {ops : Array Oper} {Q : Exit → Act → World → Prop} {md : Region.Mode} {S : World → Prop}

/-- In every world of the class S operation o yields v. -/
def YieldsG (P : Program) (ops : Array Oper) (o : Oper) (v : Value) (a : Act) (S : World → Prop) : Prop :=
  (Region.wanted o (yielded ops a.tmps) = true ∧ ∀ w, S w → (execOp a.eval o).run P w = .ok (.value v) w) ∨
  (Region.wanted o (yielded ops a.tmps) = false ∧ v = undef)

theorem YieldsG.wpOp {i : Nat} {o : Oper} {v : Value} {a : Act} {w : World} (hi : ops[i]? = some o) (hy : YieldsG P ops o v a S) (hG : S w)
    {K : Act → World → Prop} (h : K (a.put o.dst v) w) : wpOp P ops Q i K a w := by
  unfold Go.wpOp
  simp only [hi]
  rcases hy with ⟨hw, hv⟩ | ⟨hw, rfl⟩
  · simp only [hw, if_true, Oper.wp, hv w hG, Oper.upon]; exact .inl h
  · simp only [hw, Bool.false_eq_true, if_false]; exact h

theorem YieldsG.of_same {o : Oper} {v : Value} {a a' : Act} (hy : YieldsG P ops o v a S) (he : execOp a'.eval o = execOp a.eval o)
    (hw : Region.wanted o (yielded ops a'.tmps) = Region.wanted o (yielded ops a.tmps)) : YieldsG P ops o v a' S := by
  unfold YieldsG at *
  rw [he, hw]
  exact hy

theorem wpOp_putG {j : Nat} {oi oj : Oper} {v : Value} (hj : ops[j]? = some oj) (hap : oi.apart ops oj = true)
    (hsi : ∀ cs b, oi.op ≠ .select cs b) (hsj : ∀ cs b, oj.op ≠ .select cs b)
    (hQ : ∀ c a w, Q (.panic c) (a.put oi.dst v) w → Q (.panic c) a w) {K : Act → World → Prop} {a : Act} {w : World}
    (hy : YieldsG P ops oi v a S) (h : wpOp P ops Q j K (a.put oi.dst v) w) :
    wpOp P ops Q j (fun a' w' => YieldsG P ops oi v a' S ∧ K (a'.put oi.dst v) w') a w := by
  obtain ⟨h1, h2, h3⟩ := Oper.apart_spec hap
  have keep : ∀ (a : Act), YieldsG P ops oi v a S → ∀ u, YieldsG P ops oi v (a.put oj.dst u) S := fun a hy u =>
    hy.of_same (execOp_put oi hsi a oj.dst u h3) (wanted_put oi a oj.dst u h3)
  have keepD : ∀ d, YieldsG P ops oi v { a with defers := d :: a.defers } S := fun d => hy.of_same rfl rfl
  unfold wpOp at *
  simp only [hj] at *
  rw [wanted_put oj a oi.dst v h1] at h
  split
  · rename_i hw
    simp only [hw, if_true] at h
    rcases h with h | ⟨hasks, hlets⟩
    case inr => exact .inr ⟨by unfold Oper.asks at *; rw [execOp_put oj hsj a oi.dst v h1] at hasks; exact hasks, hlets⟩
    refine .inl ?_
    unfold Oper.wp at *
    rw [execOp_put oj hsj a oi.dst v h1] at h
    generalize (execOp a.eval oj).run P w = r at *
    cases r with
    | ok n w' =>
      cases n <;> simp only [Oper.upon] at h ⊢
      case value u => exact ⟨keep a hy u, by rw [← Act.put_comm a v u h2]; exact h⟩
      case skip => exact ⟨keep a hy _, by rw [← Act.put_comm a v undef h2]; exact h⟩
      case defer d =>
        refine ⟨keep _ (keepD d) _, ?_⟩
        rw [← Act.put_comm _ v undef h2, ← Act.put_defers]
        exact h
      case enter f args =>
        refine Calls.mono h fun e w'' he => ?_
        cases e with
        | returned u => exact ⟨keep a hy u, by rw [← Act.put_comm a v u h2]; exact he⟩
        | panicked c => exact hQ _ _ _ he
        | outgrown => exact he
      case row row args => exact Rows.mono h fun u w'' he => ⟨keep a hy u, by rw [← Act.put_comm a v u h2]; exact he⟩
    | halt x w' =>
      cases x <;> simp only [Oper.upon] at h ⊢
      case panic u => exact hQ _ _ _ h
  · rename_i hw
    simp only [hw] at h
    exact ⟨keep a hy _, by rw [← Act.put_comm a v undef h2]; exact h⟩

/-- Operation j waits for all others. -/
def isFinal (md : Region.Mode) (ops : Array Oper) (j : Nat) : Bool :=
  (List.range ops.size).all fun k => k == j || ((ops[j]?).map fun o => o.after.any fun e => Region.binds md e && e.on == k).getD false

theorem isFinal_spec {i j : Nat} {oi oj : Oper} (h : isFinal md ops j = true) (hi : ops[i]? = some oi) (hj : ops[j]? = some oj) (hne : j ≠ i) : ∃ e ∈ oj.after, Region.binds md e = true ∧ e.on = i := by
  have hlt : i < ops.size := by
    rcases Nat.lt_or_ge i ops.size with h' | h'
    · exact h'
    · rw [Array.getElem?_eq_none h'] at hi; cases hi
  have := List.all_eq_true.1 h i (List.mem_range.2 hlt)
  simp only [hj, Option.map_some, Option.getD_some, Bool.or_eq_true, beq_iff_eq] at this
  rcases this with h1 | h1
  · exact absurd h1.symm hne
  · obtain ⟨e, he, h2⟩ := Array.any_eq_true'.1 h1
    simp only [Bool.and_eq_true, beq_iff_eq] at h2
    exact ⟨e, he, h2⟩

/-- Whatever order is picked from here on; behind each operation, but one that waits for all others, the world is of the class S. -/
def wpAnyG (P : Program) (md : Region.Mode) (ops : Array Oper) (Q : Exit → Act → World → Prop) (S : World → Prop) : Nat → Array Bool → Act → World → Prop
  | 0, listed, a, w => Region.ready md ops listed = [] ∧ Q .normal a w
  | fuel + 1, listed, a, w =>
    (Region.ready md ops listed = [] → Q .normal a w) ∧
    ∀ i ∈ Region.ready md ops listed, wpOp P ops Q i (fun a' w' => (isFinal md ops i = true ∨ S w') ∧ wpAnyG P md ops Q S fuel (listed.setIfInBounds i true) a' w') a w

theorem wpAny_of_G : ∀ (fuel : Nat) (listed : Array Bool) (a : Act) (w : World), wpAnyG P md ops Q S fuel listed a w → wpAny P md ops Q fuel listed a w
  | 0, _, _, _, h => h
  | fuel + 1, _, _, _, h => ⟨h.1, fun i hi => wpOp_mono (fun a' w' h' => wpAny_of_G fuel _ a' w' h'.2) (h.2 i hi)⟩

theorem wpAnyG_first {i : Nat} {oi : Oper} {v : Value} (hi : ops[i]? = some oi) (hsel : ∀ (j : Nat) (o : Oper) cs b, ops[j]? = some o → o.op ≠ .select cs b)
    (hQ : ∀ c a w, Q (.panic c) (a.put oi.dst v) w → Q (.panic c) a w) :
    ∀ (fuel : Nat) (listed : Array Bool) (a : Act) (w : World),
      (∀ j oj, ops[j]? = some oj → j ≠ i → listed.getD j true = false → (∀ e ∈ oj.after, Region.binds md e = true → e.on ≠ i) → oi.apart ops oj = true) →
      i ∈ Region.ready md ops listed → YieldsG P ops oi v a S → S w →
      wpAnyG P md ops Q S fuel (listed.setIfInBounds i true) (a.put oi.dst v) w → wpAnyG P md ops Q S (fuel + 1) listed a w := by
  intro fuel
  induction fuel with
  | zero =>
    intro listed a w _ hr hy hS H
    refine ⟨fun h => (by rw [h] at hr; cases hr), fun j hj => ?_⟩
    by_cases hji : j = i
    · subst hji; exact hy.wpOp hi hS ⟨.inr hS, H⟩
    · have := ready_mono hj hji
      rw [H.1] at this
      cases this
  | succ fuel ih =>
    intro listed a w hfree hr hy hS H
    refine ⟨fun h => (by rw [h] at hr; cases hr), fun j hj => ?_⟩
    by_cases hji : j = i
    · subst hji; exact hy.wpOp hi hS ⟨.inr hS, H⟩
    · have h1 := H.2 j (ready_mono hj hji)
      obtain ⟨hjun, oj, hoj, hall⟩ := mem_ready.1 hj
      have hnot : ∀ e ∈ oj.after, Region.binds md e = true → e.on ≠ i := fun e he hb heq => by
        have h1 := hall e he hb
        have h0 := (mem_ready.1 hr).1
        rw [heq] at h1
        rcases Nat.lt_or_ge i listed.size with h' | h'
        · simp [h'] at h0 h1; rw [h0] at h1; cases h1
        · simp [Array.getElem?_eq_none h'] at h1
      have h2 := wpOp_putG hoj (hfree j oj hoj hji hjun hnot) (fun cs b => hsel i oi cs b hi) (fun cs b => hsel j oj cs b hoj) hQ hy h1
      have hfree' : ∀ k ok, ops[k]? = some ok → k ≠ i → (listed.setIfInBounds j true).getD k true = false →
          (∀ e ∈ ok.after, Region.binds md e = true → e.on ≠ i) → oi.apart ops ok = true := fun k ok hk hki hun hno => by
        refine hfree k ok hk hki ?_ hno
        by_cases hjk : j = k
        · subst hjk; exact hjun
        · rw [getD_set_ne true hjk] at hun; exact hun
      refine wpOp_mono (fun a' w' h3 => ?_) h2
      rcases h3.2.1 with h0 | hG
      · obtain ⟨e, he, hb, hon⟩ := isFinal_spec h0 hi hoj hji
        exact absurd hon (hnot e he hb)
      · refine ⟨.inr hG, ih (listed.setIfInBounds j true) a' w' hfree' (ready_mono hr (Ne.symm hji)) h3.1 hG ?_⟩
        rw [Array.setIfInBounds_comm _ _ hji]
        exact h3.2.2

/-! The walk along a plan. -/

/-- A plan: take (what only reads, as soon as it may come up), run (the one that is left; 'fin': it waits for all others), fork (either of two). -/
inductive PlanT (α : Type) where
  | nil
  | take (o : α) (r : PlanT α)
  | run (o : α) (fin : Bool) (r : PlanT α)
  | fork (o1 : α) (r1 : PlanT α) (o2 : α) (r2 : PlanT α)
  | fork3 (o1 : α) (r1 : PlanT α) (o2 : α) (r2 : PlanT α) (o3 : α) (r3 : PlanT α)

def PlanT.isNil {α : Type} : PlanT α → Bool
  | .nil => true
  | _ => false
def PlanT.len {α : Type} : PlanT α → Nat
  | .nil => 0
  | .take _ r => r.len + 1
  | .run _ _ r => r.len + 1
  | .fork _ r1 _ _ => r1.len + 1
  | .fork3 _ r1 _ _ _ _ => r1.len + 1

def wpG (P : Program) (ops : Array Oper) (Q : Act → World → Prop) (S : World → Prop) : PlanT Oper → Act → World → Prop
  | .nil, a, w => Q a w
  | .take o rest, a, w => (Region.wanted o (yielded ops a.tmps) = true ∧ ∃ v, (∀ w', S w' → (execOp a.eval o).run P w' = .ok (.value v) w') ∧ wpG P ops Q S rest (a.put o.dst v) w)
      ∨ (Region.wanted o (yielded ops a.tmps) = false ∧ wpG P ops Q S rest (a.put o.dst undef) w)
  | .run o fin rest, a, w => (Region.wanted o (yielded ops a.tmps) = true ∧ o.wp P a w (fun a' w' => (fin = true ∨ S w') ∧ wpG P ops Q S rest a' w') (fun _ _ _ => False))
      ∨ (Region.wanted o (yielded ops a.tmps) = false ∧ wpG P ops Q S rest (a.put o.dst undef) w)
  | .fork o1 rest1 o2 rest2, a, w => ((Region.wanted o1 (yielded ops a.tmps) = true ∧ o1.wp P a w (fun a' w' => S w' ∧ wpG P ops Q S rest1 a' w') (fun _ _ _ => False))
      ∨ (Region.wanted o1 (yielded ops a.tmps) = false ∧ wpG P ops Q S rest1 (a.put o1.dst undef) w)) ∧
      ((Region.wanted o2 (yielded ops a.tmps) = true ∧ o2.wp P a w (fun a' w' => S w' ∧ wpG P ops Q S rest2 a' w') (fun _ _ _ => False))
      ∨ (Region.wanted o2 (yielded ops a.tmps) = false ∧ wpG P ops Q S rest2 (a.put o2.dst undef) w))
  | .fork3 o1 rest1 o2 rest2 o3 rest3, a, w => ((Region.wanted o1 (yielded ops a.tmps) = true ∧ o1.wp P a w (fun a' w' => S w' ∧ wpG P ops Q S rest1 a' w') (fun _ _ _ => False))
      ∨ (Region.wanted o1 (yielded ops a.tmps) = false ∧ wpG P ops Q S rest1 (a.put o1.dst undef) w)) ∧
      ((Region.wanted o2 (yielded ops a.tmps) = true ∧ o2.wp P a w (fun a' w' => S w' ∧ wpG P ops Q S rest2 a' w') (fun _ _ _ => False))
      ∨ (Region.wanted o2 (yielded ops a.tmps) = false ∧ wpG P ops Q S rest2 (a.put o2.dst undef) w)) ∧
      ((Region.wanted o3 (yielded ops a.tmps) = true ∧ o3.wp P a w (fun a' w' => S w' ∧ wpG P ops Q S rest3 a' w') (fun _ _ _ => False))
      ∨ (Region.wanted o3 (yielded ops a.tmps) = false ∧ wpG P ops Q S rest3 (a.put o3.dst undef) w))

def planOk (md : Region.Mode) (ops : Array Oper) : PlanT Nat → Array Bool → Bool
  | .nil, listed => (Region.ready md ops listed).isEmpty
  | .take i r, listed => (Region.ready md ops listed).contains i && Region.free md ops listed i && planOk md ops r (listed.setIfInBounds i true)
  | .run i fin r, listed => (Region.ready md ops listed == [i]) && (!fin || (isFinal md ops i && r.isNil)) && planOk md ops r (listed.setIfInBounds i true)
  | .fork i r j s, listed => (Region.ready md ops listed == [i, j]) && (r.len == s.len) && planOk md ops r (listed.setIfInBounds i true) && planOk md ops s (listed.setIfInBounds j true)
  | .fork3 i r j s k t, listed => (Region.ready md ops listed == [i, j, k]) && (r.len == s.len) && (r.len == t.len) && planOk md ops r (listed.setIfInBounds i true) && planOk md ops s (listed.setIfInBounds j true) && planOk md ops t (listed.setIfInBounds k true)

def nthOp : List Oper → Nat → Oper
  | o :: _, 0 => o
  | _ :: l, n + 1 => nthOp l n
  | [], _ => { dst := none, op := .move (.tmp 0), type := 0, pos := "", after := #[], guard := none }
theorem nthOp_of : ∀ (l : List Oper) (i : Nat) (o : Oper), l[i]? = some o → nthOp l i = o
  | a :: l, 0, o, h => by simpa [nthOp] using h
  | a :: l, i + 1, o, h => by simpa [nthOp] using nthOp_of l i o (by simpa using h)
  | [], i, o, h => by simp at h

def pickOps (l : List Oper) : PlanT Nat → PlanT Oper
  | .nil => .nil
  | .take i r => .take (nthOp l i) (pickOps l r)
  | .run i fin r => .run (nthOp l i) fin (pickOps l r)
  | .fork i r j s => .fork (nthOp l i) (pickOps l r) (nthOp l j) (pickOps l s)
  | .fork3 i r j s k t => .fork3 (nthOp l i) (pickOps l r) (nthOp l j) (pickOps l s) (nthOp l k) (pickOps l t)

/-- The normal exit alone. -/
def NormalOnly (Q : Act → World → Prop) : Exit → Act → World → Prop
  | .normal, a, w => Q a w
  | _, _, _ => False

theorem upon_normal {o : Oper} {a : Act} {K : Act → World → Prop} {Q : Act → World → Prop} {r : Result Next} (h : o.upon P a K (fun _ _ _ => False) r) : o.upon P a K (NormalOnly Q) r := by
  cases r with
  | ok n w' =>
    cases n <;> simp only [Oper.upon] at h ⊢ <;> exact h
  | halt x w' =>
    cases x <;> simp only [Oper.upon] at h ⊢

theorem wpOp_of_run {l : List Oper} {Q : Act → World → Prop} {i : Nat} {o : Oper} {a : Act} {w : World} {K K' : Act → World → Prop} (ho : l.toArray[i]? = some o)
    (h : (Region.wanted o (yielded l.toArray a.tmps) = true ∧ o.wp P a w K (fun _ _ _ => False)) ∨ (Region.wanted o (yielded l.toArray a.tmps) = false ∧ K (a.put o.dst undef) w)) (hk : ∀ a' w', K a' w' → K' a' w') :
    wpOp P l.toArray (NormalOnly Q) i K' a w := by
  unfold wpOp
  simp only [ho]
  rcases h with ⟨hw, h⟩ | ⟨hw, h⟩
  · rw [if_pos hw]
    exact .inl (Oper.wp_mono hk (upon_normal (Q := Q) h))
  · rw [if_neg (by rw [hw]; exact Bool.false_ne_true)]
    exact hk _ _ h

theorem wpAnyG_plan {l : List Oper} {Q : Act → World → Prop} (hs : Region.noSelect l.toArray = true) : ∀ (p : PlanT Nat) (listed : Array Bool) (a : Act) (w : World),
    planOk md l.toArray p listed = true → (p.isNil = true ∨ S w) → wpG P l.toArray Q S (pickOps l p) a w → wpAnyG P md l.toArray (NormalOnly Q) S p.len listed a w
  | .nil, listed, a, w, hp, hS, h => by
    refine ⟨?_, h⟩
    simpa [planOk] using hp
  | .take i r, listed, a, w, hp, hS0, h => by
    have hS : S w := hS0.resolve_left (by simp [PlanT.isNil])
    simp only [planOk, Bool.and_eq_true] at hp
    obtain ⟨⟨hr, hf⟩, hp'⟩ := hp
    have hr' : i ∈ Region.ready md l.toArray listed := by simpa using hr
    obtain ⟨_, o, ho, _⟩ := mem_ready.1 hr'
    have hol : nthOp l i = o := nthOp_of _ _ _ (by simpa using ho)
    simp only [pickOps, hol, wpG] at h
    rcases h with ⟨hw, v, hv, hk⟩ | ⟨hw, hk⟩
    · exact wpAnyG_first ho (Region.noSelect_spec hs) (fun _ _ _ h => h) r.len listed a w (Region.free_spec ho hf) hr' (.inl ⟨hw, hv⟩) hS (wpAnyG_plan hs r _ _ _ hp' (.inr hS) hk)
    · exact wpAnyG_first ho (Region.noSelect_spec hs) (fun _ _ _ h => h) r.len listed a w (Region.free_spec ho hf) hr' (.inr ⟨hw, rfl⟩) hS (wpAnyG_plan hs r _ _ _ hp' (.inr hS) hk)
  | .run i fin r, listed, a, w, hp, hS0, h => by
    have hS : S w := hS0.resolve_left (by simp [PlanT.isNil])
    simp only [planOk, Bool.and_eq_true, Bool.or_eq_true, Bool.not_eq_true', beq_iff_eq] at hp
    obtain ⟨⟨hr, hf⟩, hp'⟩ := hp
    refine ⟨fun h0 => (by rw [hr] at h0; cases h0), fun j hj => ?_⟩
    have hji : j = i := by rw [hr] at hj; simpa using hj
    subst hji
    obtain ⟨_, o, ho, _⟩ := mem_ready.1 hj
    have hol : nthOp l j = o := nthOp_of _ _ _ (by simpa using ho)
    simp only [pickOps, hol, wpG] at h
    refine wpOp_of_run ho (K := fun a' w' => (fin = true ∨ S w') ∧ wpG P l.toArray Q S (pickOps l r) a' w') ?_ (fun a' w' ⟨h1, h2⟩ => ⟨?_, wpAnyG_plan hs r _ _ _ hp' ?_ h2⟩)
    · exact h.imp id (fun ⟨h1, h2⟩ => ⟨h1, .inr hS, h2⟩)
    · rcases h1 with h1 | h1
      · rcases hf with hf | hf
        · rw [h1] at hf; cases hf
        · exact .inl hf.1
      · exact .inr h1
    · rcases h1 with h1 | h1
      · rcases hf with hf | hf
        · rw [h1] at hf; cases hf
        · exact .inl hf.2
      · exact .inr h1
  | .fork i r j s, listed, a, w, hp, hS0, h => by
    have hS : S w := hS0.resolve_left (by simp [PlanT.isNil])
    simp only [planOk, Bool.and_eq_true, beq_iff_eq] at hp
    obtain ⟨⟨⟨hr, hlen⟩, hp1⟩, hp2⟩ := hp
    refine ⟨fun h0 => (by rw [hr] at h0; cases h0), fun k hk => ?_⟩
    have hki : k = i ∨ k = j := by rw [hr] at hk; simpa using hk
    obtain ⟨_, o, ho, _⟩ := mem_ready.1 hk
    have hol : nthOp l k = o := nthOp_of _ _ _ (by simpa using ho)
    simp only [pickOps, wpG] at h
    rcases hki with rfl | rfl
    · rw [hol] at h
      refine wpOp_of_run ho (K := fun a' w' => S w' ∧ wpG P l.toArray Q S (pickOps l r) a' w') ?_ (fun a' w' ⟨h1, h2⟩ => ⟨.inr h1, wpAnyG_plan hs r _ _ _ hp1 (.inr h1) h2⟩)
      exact h.1.imp id (fun ⟨h1, h2⟩ => ⟨h1, hS, h2⟩)
    · rw [hol] at h
      refine wpOp_of_run ho (K := fun a' w' => S w' ∧ wpG P l.toArray Q S (pickOps l s) a' w') ?_ (fun a' w' ⟨h1, h2⟩ => ⟨.inr h1, ?_⟩)
      · exact h.2.imp id (fun ⟨h1, h2⟩ => ⟨h1, hS, h2⟩)
      · rw [hlen]; exact wpAnyG_plan hs s _ _ _ hp2 (.inr h1) h2
  | .fork3 i r j s k u, listed, a, w, hp, hS0, h => by
    have hS : S w := hS0.resolve_left (by simp [PlanT.isNil])
    simp only [planOk, Bool.and_eq_true, beq_iff_eq] at hp
    obtain ⟨⟨⟨⟨⟨hr, hlen⟩, hlen2⟩, hp1⟩, hp2⟩, hp3⟩ := hp
    refine ⟨fun h0 => (by rw [hr] at h0; cases h0), fun q hq => ?_⟩
    have hqi : q = i ∨ q = j ∨ q = k := by rw [hr] at hq; simpa using hq
    obtain ⟨_, o, ho, _⟩ := mem_ready.1 hq
    have hol : nthOp l q = o := nthOp_of _ _ _ (by simpa using ho)
    simp only [pickOps, wpG] at h
    rcases hqi with rfl | rfl | rfl
    · rw [hol] at h
      refine wpOp_of_run ho (K := fun a' w' => S w' ∧ wpG P l.toArray Q S (pickOps l r) a' w') ?_ (fun a' w' ⟨h1, h2⟩ => ⟨.inr h1, wpAnyG_plan hs r _ _ _ hp1 (.inr h1) h2⟩)
      exact h.1.imp id (fun ⟨h1, h2⟩ => ⟨h1, hS, h2⟩)
    · rw [hol] at h
      refine wpOp_of_run ho (K := fun a' w' => S w' ∧ wpG P l.toArray Q S (pickOps l s) a' w') ?_ (fun a' w' ⟨h1, h2⟩ => ⟨.inr h1, ?_⟩)
      · exact h.2.1.imp id (fun ⟨h1, h2⟩ => ⟨h1, hS, h2⟩)
      · rw [hlen]; exact wpAnyG_plan hs s _ _ _ hp2 (.inr h1) h2
    · rw [hol] at h
      refine wpOp_of_run ho (K := fun a' w' => S w' ∧ wpG P l.toArray Q S (pickOps l u) a' w') ?_ (fun a' w' ⟨h1, h2⟩ => ⟨.inr h1, ?_⟩)
      · exact h.2.2.imp id (fun ⟨h1, h2⟩ => ⟨h1, hS, h2⟩)
      · rw [hlen2]; exact wpAnyG_plan hs u _ _ _ hp3 (.inr h1) h2

/-- A region that draws its order, along a plan, in a class of worlds. -/
theorem wp_region_S {id : Nat} {l : List Oper} {Q : Exit → Act → World → Prop} {a : Act} {w : World} (S : World → Prop) (p : PlanT Nat) (hS : S w.drew) (hm : P.follows .mixedOrders = true)
    (hp : (Region.noSelect l.toArray && (p.len == l.length) && planOk .any l.toArray p (Array.replicate l.length false)) = true)
    (h : ∀ w1, Gr w w1 → S w1 → wpG P l.toArray (fun a w => Q .normal a w) S (pickOps l p) a w1) : (Code.region id l.toArray true).wp P Q a w := by
  simp only [Bool.and_eq_true, beq_iff_eq] at hp
  obtain ⟨⟨hs, hl⟩, hp'⟩ := hp
  refine Code.wp_mono (Q := NormalOnly (fun a w => Q .normal a w)) (fun e a w h => by cases e <;> first | exact h | exact (h : False).elim) ?_
  refine wp_region_any hm ?_
  have := wpAny_of_G _ _ _ _ (wpAnyG_plan (md := .any) (P := P) hs p _ _ _ hp' (.inr hS) (h w.drew (Gr.drew w) hS))
  rw [hl] at this
  simpa using this
/-- .. W: a world before, whose memory is as it was. -/
theorem wp_region_B {id : Nat} {l : List Oper} {Q : Exit → Act → World → Prop} {a : Act} {W w : World} (hW : Gr W w) (p : PlanT Nat) (hm : P.follows .mixedOrders = true)
    (hp : (Region.noSelect l.toArray && (p.len == l.length) && planOk .any l.toArray p (Array.replicate l.length false)) = true)
    (h : ∀ w1, Gr W w1 → wpG P l.toArray (fun a w => Q .normal a w) (Gr W) (pickOps l p) a w1) : (Code.region id l.toArray true).wp P Q a w :=
  wp_region_S (Gr W) p (hW.trans (Gr.drew w)) hm hp (fun w1 _ h1 => h w1 h1)
theorem wp_region_G {id : Nat} {l : List Oper} {Q : Exit → Act → World → Prop} {a : Act} {w : World} (p : PlanT Nat) (hm : P.follows .mixedOrders = true)
    (hp : (Region.noSelect l.toArray && (p.len == l.length) && planOk .any l.toArray p (Array.replicate l.length false)) = true)
    (h : ∀ w1, Gr w w1 → wpG P l.toArray (fun a w => Q .normal a w) (Gr w) (pickOps l p) a w1) : (Code.region id l.toArray true).wp P Q a w := wp_region_B (Gr.refl w) p hm hp h

theorem wpG_skip_take {Q : Act → World → Prop} {a : Act} {w : World} {o : Oper} {rest : PlanT Oper} (hw : Region.wanted o (yielded ops a.tmps) = false)
    (h : wpG P ops Q S rest (a.put o.dst undef) w) : wpG P ops Q S (.take o rest) a w := .inr ⟨hw, h⟩
theorem wpG_skip_run {Q : Act → World → Prop} {a : Act} {w : World} {o : Oper} {fin : Bool} {rest : PlanT Oper} (hw : Region.wanted o (yielded ops a.tmps) = false)
    (h : wpG P ops Q S rest (a.put o.dst undef) w) : wpG P ops Q S (.run o fin rest) a w := .inr ⟨hw, h⟩
theorem wpG_skip_fork {Q : Act → World → Prop} {a : Act} {w : World} {o1 o2 : Oper} {r1 r2 : PlanT Oper} (hw1 : Region.wanted o1 (yielded ops a.tmps) = false) (hw2 : Region.wanted o2 (yielded ops a.tmps) = false)
    (h1 : wpG P ops Q S r1 (a.put o1.dst undef) w) (h2 : wpG P ops Q S r2 (a.put o2.dst undef) w) : wpG P ops Q S (.fork o1 r1 o2 r2) a w := ⟨.inr ⟨hw1, h1⟩, .inr ⟨hw2, h2⟩⟩
theorem wpG_take {Q : Act → World → Prop} {a : Act} {w : World} {o : Oper} {rest : PlanT Oper} (hw : Region.wanted o (yielded ops a.tmps) = true)
    (h : ∃ v, (∀ w', S w' → (execOp a.eval o).run P w' = .ok (.value v) w') ∧ wpG P ops Q S rest (a.put o.dst v) w) : wpG P ops Q S (.take o rest) a w := .inl ⟨hw, h⟩

/-- The step is handed over behind a variable. -/
theorem wpG_run {Q : Act → World → Prop} {a : Act} {w : World} {o : Oper} {rest : PlanT Oper} (hw : Region.wanted o (yielded ops a.tmps) = true)
    (h : ∀ K : Act → World → Prop, Shut (∀ a' w', S w' → wpG P ops Q S rest a' w' → K a' w') → o.wp P a w K (fun _ _ _ => False)) : wpG P ops Q S (.run o false rest) a w :=
  .inl ⟨hw, h _ fun _ _ hG hk => ⟨.inr hG, hk⟩⟩
theorem wpG_last {Q : Act → World → Prop} {a : Act} {w : World} {o : Oper} {rest : PlanT Oper} (hw : Region.wanted o (yielded ops a.tmps) = true)
    (h : ∀ K : Act → World → Prop, Shut (∀ a' w', wpG P ops Q S rest a' w' → K a' w') → o.wp P a w K (fun _ _ _ => False)) : wpG P ops Q S (.run o true rest) a w :=
  .inl ⟨hw, h _ fun _ _ hk => ⟨.inl rfl, hk⟩⟩
theorem wpG_fork {Q : Act → World → Prop} {a : Act} {w : World} {o1 o2 : Oper} {r1 r2 : PlanT Oper} (hw1 : Region.wanted o1 (yielded ops a.tmps) = true) (hw2 : Region.wanted o2 (yielded ops a.tmps) = true)
    (h1 : ∀ K : Act → World → Prop, Shut (∀ a' w', S w' → wpG P ops Q S r1 a' w' → K a' w') → o1.wp P a w K (fun _ _ _ => False))
    (h2 : ∀ K : Act → World → Prop, Shut (∀ a' w', S w' → wpG P ops Q S r2 a' w' → K a' w') → o2.wp P a w K (fun _ _ _ => False)) : wpG P ops Q S (.fork o1 r1 o2 r2) a w :=
  ⟨.inl ⟨hw1, h1 _ fun _ _ hG hk => ⟨hG, hk⟩⟩, .inl ⟨hw2, h2 _ fun _ _ hG hk => ⟨hG, hk⟩⟩⟩
theorem wpG_fork3 {Q : Act → World → Prop} {a : Act} {w : World} {o1 o2 o3 : Oper} {r1 r2 r3 : PlanT Oper} (hw1 : Region.wanted o1 (yielded ops a.tmps) = true) (hw2 : Region.wanted o2 (yielded ops a.tmps) = true) (hw3 : Region.wanted o3 (yielded ops a.tmps) = true)
    (h1 : ∀ K : Act → World → Prop, Shut (∀ a' w', S w' → wpG P ops Q S r1 a' w' → K a' w') → o1.wp P a w K (fun _ _ _ => False))
    (h2 : ∀ K : Act → World → Prop, Shut (∀ a' w', S w' → wpG P ops Q S r2 a' w' → K a' w') → o2.wp P a w K (fun _ _ _ => False))
    (h3 : ∀ K : Act → World → Prop, Shut (∀ a' w', S w' → wpG P ops Q S r3 a' w' → K a' w') → o3.wp P a w K (fun _ _ _ => False)) : wpG P ops Q S (.fork3 o1 r1 o2 r2 o3 r3) a w :=
  ⟨.inl ⟨hw1, h1 _ fun _ _ hG hk => ⟨hG, hk⟩⟩, .inl ⟨hw2, h2 _ fun _ _ hG hk => ⟨hG, hk⟩⟩, .inl ⟨hw3, h3 _ fun _ _ hG hk => ⟨hG, hk⟩⟩⟩
theorem wpG_done {Q : Act → World → Prop} {a : Act} {w : World} (h : Q a w) : wpG P ops Q S .nil a w := h

end

/-- Name the world at hand. -/
theorem name_world {P : Program} {c : Code} {Q : Exit → Act → World → Prop} {a : Act} {w0 : World} (h : ∀ W, W = w0 → c.wp P Q a W) : c.wp P Q a w0 := h _ rfl

theorem name_wpG {P : Program} {ops : Array Oper} {Q : Act → World → Prop} {p : PlanT Oper} {a : Act} {w0 : World} {S : World → Prop} (h : ∀ W, W = w0 → wpG P ops Q S p a W) : wpG P ops Q S p a w0 := h _ rfl
/-- .. behind an operation that makes memory. -/
theorem name_K {K : Act → World → Prop} {a : Act} {w0 : World} (h : ∀ W, W = w0 → K a W) : K a w0 := h _ rfl
theorem Gr.of_alloc {w W : World} {o : Obj} (h : W = w.alloc o) : Gr w W := h ▸ Gr.alloc w o
/-- .. at a call. -/
theorem name_calls {P : Program} {f : FuncId} {args : Array Value} {R : Ending → World → Prop} {w0 : World} (h : ∀ W, W = w0 → Calls P f args W R) : Calls P f args w0 R := h _ rfl

/-- Old cells behind a growth, as a rule of the walk. -/
theorem Gr.cells {w w' : World} (h : Gr w w') : ∀ b o, b < w.heap.size → w'.cell? ⟨b, o, none⟩ = w.cell? ⟨b, o, none⟩ := fun b o hb => Below.cell (p := ⟨b, o, none⟩) h hb
theorem Gr.marks {w w' : World} (h : Gr w w') : ∀ b o, b < w.heap.size → w'.frozen? ⟨b, o, none⟩ = w.frozen? ⟨b, o, none⟩ := fun b o hb => Below.frozen (p := ⟨b, o, none⟩) h hb

end Go.Proofs.YtihjmeoklbmnmaaDoor

/- Range. -/
namespace Go.Proofs.YtihjmeoklbmnmaaDoor
open Go.RowKit

set_option maxRecDepth 100000 in
set_option maxHeartbeats 400000 in
theorem minus_any (s t : BitVec 256) (w : World) :
    Calls Tryd.prog 17 #[.agg #[.int .u64 (wd s 0), .int .u64 (wd s 1), .int .u64 (wd s 2), .int .u64 (wd s 3)], .agg #[.int .u64 (wd t 0), .int .u64 (wd t 1), .int .u64 (wd t 2), .int .u64 (wd t 3)]] w fun e w' => e = .returned (.agg #[.int .u64 (wd ((s &&& ~~~t)) 0), .int .u64 (wd ((s &&& ~~~t)) 1), .int .u64 (wd ((s &&& ~~~t)) 2), .int .u64 (wd ((s &&& ~~~t)) 3)]) ∧ Below w.heap.size w w' := by
  go_enter Tryd.func17, Tryd.ntmps17
  go_wp2
  refine name_world (fun W hW => ?_)
  have hz : W.heap.size = w.heap.size + 3 := by subst hW; simp
  have c_s0 : W.cell? ⟨w.heap.size, 0, none⟩ = some (.int .u64 (wd (s) 0)) := by subst hW; go_simp
  have c_s1 : W.cell? ⟨w.heap.size, 1, none⟩ = some (.int .u64 (wd (s) 1)) := by subst hW; go_simp
  have c_s2 : W.cell? ⟨w.heap.size, 2, none⟩ = some (.int .u64 (wd (s) 2)) := by subst hW; go_simp
  have c_s3 : W.cell? ⟨w.heap.size, 3, none⟩ = some (.int .u64 (wd (s) 3)) := by subst hW; go_simp
  have m_s0 : W.frozen? ⟨w.heap.size, 0, none⟩ = false := by subst hW; go_simp
  have m_s1 : W.frozen? ⟨w.heap.size, 1, none⟩ = false := by subst hW; go_simp
  have m_s2 : W.frozen? ⟨w.heap.size, 2, none⟩ = false := by subst hW; go_simp
  have m_s3 : W.frozen? ⟨w.heap.size, 3, none⟩ = false := by subst hW; go_simp
  have c_t0 : W.cell? ⟨w.heap.size + 1, 0, none⟩ = some (.int .u64 (wd (t) 0)) := by subst hW; go_simp
  have c_t1 : W.cell? ⟨w.heap.size + 1, 1, none⟩ = some (.int .u64 (wd (t) 1)) := by subst hW; go_simp
  have c_t2 : W.cell? ⟨w.heap.size + 1, 2, none⟩ = some (.int .u64 (wd (t) 2)) := by subst hW; go_simp
  have c_t3 : W.cell? ⟨w.heap.size + 1, 3, none⟩ = some (.int .u64 (wd (t) 3)) := by subst hW; go_simp
  have m_t0 : W.frozen? ⟨w.heap.size + 1, 0, none⟩ = false := by subst hW; go_simp
  have m_t1 : W.frozen? ⟨w.heap.size + 1, 1, none⟩ = false := by subst hW; go_simp
  have m_t2 : W.frozen? ⟨w.heap.size + 1, 2, none⟩ = false := by subst hW; go_simp
  have m_t3 : W.frozen? ⟨w.heap.size + 1, 3, none⟩ = false := by subst hW; go_simp
  have c_r0 : W.cell? ⟨w.heap.size + 1 + 1, 0, none⟩ = some (.int .u64 0) := by subst hW; go_simp
  have c_r1 : W.cell? ⟨w.heap.size + 1 + 1, 1, none⟩ = some (.int .u64 0) := by subst hW; go_simp
  have c_r2 : W.cell? ⟨w.heap.size + 1 + 1, 2, none⟩ = some (.int .u64 0) := by subst hW; go_simp
  have c_r3 : W.cell? ⟨w.heap.size + 1 + 1, 3, none⟩ = some (.int .u64 0) := by subst hW; go_simp
  have m_r0 : W.frozen? ⟨w.heap.size + 1 + 1, 0, none⟩ = false := by subst hW; go_simp
  have m_r1 : W.frozen? ⟨w.heap.size + 1 + 1, 1, none⟩ = false := by subst hW; go_simp
  have m_r2 : W.frozen? ⟨w.heap.size + 1 + 1, 2, none⟩ = false := by subst hW; go_simp
  have m_r3 : W.frozen? ⟨w.heap.size + 1 + 1, 3, none⟩ = false := by subst hW; go_simp
  have hb0 : Below w.heap.size w W := by subst hW; exact (((Below.refl _ _).alloc (Nat.le_refl _) _).alloc (by simp) _).alloc (by simp; omega) _
  clear hW
  refine wp_region_G (.take 0 (.take 1 (.run 2 false (.run 3 false (.run 4 true .nil))))) (by kernel_rfl) (by kernel_rfl) ?_
  simp only [pickOps, nthOp]
  intro wq hG
  repeat (first | (refine wpG_skip_take ?_ ?_; (focus rfl); try simp only [Act.put, List.setIfInBounds_toArray, List.set_cons_zero, List.set_cons_succ]) | (refine wpG_skip_run ?_ ?_; (focus rfl); try simp only [Act.put, List.setIfInBounds_toArray, List.set_cons_zero, List.set_cons_succ]) | (refine wpG_take ?_ ?_; (focus rfl); apply Exists.intro; refine ⟨fun w' hw' => ?_, ?_⟩; (focus (have hc := Gr.cells hw'; go_simp; (try rfl); done)); try simp only [Act.put, List.setIfInBounds_toArray, List.set_cons_zero, List.set_cons_succ]) | (refine wpG_run ?_ (fun K hK => ?_); (focus rfl); go_simp; (first | (go_at_call 14; refine (complement_any _ _).mono ?_; rintro e w' ⟨rfl, hb⟩) | (go_at_call 16; refine (inter_any _ _ _).mono ?_; rintro e w' ⟨rfl, hb⟩)); (try dsimp only); replace hG := hG.trans hb; refine hK.out _ _ hG ?_; clear hK K hb; try simp only [Act.put, List.setIfInBounds_toArray, List.set_cons_zero, List.set_cons_succ]))
  rename_i w2
  refine wpG_last ?_ (fun K hK => ?_); (focus rfl)
  have hc := hG.cells
  have hm := hG.marks
  go_simp
  refine hK.out _ _ ?_
  try simp only [Act.put, List.setIfInBounds_toArray, List.set_cons_zero, List.set_cons_succ]
  clear hK K hc hm
  refine wpG_done ?_
  go_wp2
  refine bodyPost_ret (v := .agg #[.int .u64 (wd ((s &&& ~~~t)) 0), .int .u64 (wd ((s &&& ~~~t)) 1), .int .u64 (wd ((s &&& ~~~t)) 2), .int .u64 (wd ((s &&& ~~~t)) 3)]) (by have hc := hG.cells; simp [results, Tryd.results17, go_sem, hc, hz, c_r0, c_r1, c_r2, c_r3]) rfl ⟨rfl, ?_⟩
  exact ((((hb0.trans (Below.mono hG (by omega))).setCell (by simp; omega) _).setCell (by simp; omega) _).setCell (by simp; omega) _).setCell (by simp; omega) _

end Go.Proofs.YtihjmeoklbmnmaaDoor

/- Slices that are read: what a slice value holds in a world. No condition. -/
namespace Go.Proofs.YtihjmeoklbmnmaaDoor
open Go Go.RowKit

/-- The slice value v has n elements of k cells each, cs all together. -/
def Sl (w : World) (v : Value) (k n : Nat) (cs : List Value) : Prop :=
  cs.length = n * k ∧ n ≤ maxLen ∧
  (((∃ p c, v = .slice p 0 c) ∧ n = 0) ∨ ∃ b off cap, v = .slice (some ⟨b, off, none⟩) n cap ∧ (n ≠ 0 → b < w.heap.size) ∧ ∀ j u, cs[j]? = some u → w.cell? ⟨b, off + j, none⟩ = some u)

theorem Sl.later {w w' : World} {v : Value} {k n : Nat} {cs : List Value} (h : Sl w v k n cs) (hG : Gr w w') : Sl w' v k n cs := by
  obtain ⟨h1, h2, h3⟩ := h
  refine ⟨h1, h2, h3.imp id ?_⟩
  rintro ⟨b, off, cap, hv, hb, hc⟩
  exact ⟨b, off, cap, hv, fun h => Nat.lt_of_lt_of_le (hb h) hG.size, fun j u hj => hG.cell (hc j u hj)⟩

theorem Sl.nil (w : World) (k : Nat) : Sl w (.slice none 0 0) k 0 [] := ⟨by simp, by simp, .inl ⟨⟨_, _, rfl⟩, rfl⟩⟩
theorem Sl.zero (w : World) (p : Option Addr) (c k : Nat) : Sl w (.slice p 0 c) k 0 [] := ⟨by simp, by simp, .inl ⟨⟨_, _, rfl⟩, rfl⟩⟩

theorem Sl.len {w : World} {v : Value} {k n : Nat} {cs : List Value} (h : Sl w v k n cs) : ∃ p cap, v = .slice p n cap := by
  obtain ⟨_, _, ⟨⟨p, c, rfl⟩, rfl⟩ | ⟨b, off, cap, rfl, _⟩⟩ := h
  · exact ⟨_, _, rfl⟩
  · exact ⟨_, _, rfl⟩
theorem Sl.of_owns {w : World} {base e size : Nat} {v : Value} {n : Nat} {xs : List Value} (h : w.ownsRow base e size v n xs) : Sl w v size n xs := by
  obtain ⟨h1, h2⟩ := h
  rcases h2 with ⟨hv, hn⟩ | ⟨g, cap, cur, hv, hbase, hheap, hle, hcap, hsz, htake⟩
  · refine ⟨h1, by omega, .inl ⟨⟨_, _, hv⟩, hn⟩⟩
  · refine ⟨h1, by omega, .inr ⟨g, 0, cap, hv, fun _ => (Array.getElem?_eq_some_iff.1 hheap).1, fun j u hj => ?_⟩⟩
    have hown : w.ownsRow base e size v n xs := ⟨h1, .inr ⟨g, cap, cur, hv, hbase, hheap, hle, hcap, hsz, htake⟩⟩
    have := World.ownsRow.cells hown (g := g) (by rw [hv]; rfl) j u hj
    rw [show (⟨g, 0 + j, none⟩ : Addr) = (⟨g, 0, none⟩ : Addr).add j by
      unfold Addr.add
      by_cases h0 : j = 0
      · subst h0; rfl
      · rw [if_neg h0]]
    exact this

theorem ret_int {k : IntKind} {a b : Int} (h : a = b) : Ending.returned (.int k a) = .returned (.int k b) := by rw [h]
theorem ret_bool {a b : Bool} (h : a = b) : Ending.returned (.bool a) = .returned (.bool b) := by rw [h]

def vB (b : UInt8) : Value := .int .u8 (b.toNat : Int)
theorem u8_inj {a b : UInt8} (h : vB a = vB b) : a = b := by
  unfold vB at h; injection h with _ h; exact UInt8.toNat_inj.1 (by omega)

/-- Block b holds these values, and may be written. -/
def boxAt (w : World) (b : Nat) (vs : List Value) : Prop := ∀ j u, vs[j]? = some u → w.cell? ⟨b, j, none⟩ = some u ∧ w.frozen? ⟨b, j, none⟩ = false
theorem boxAt.cell {w : World} {b : Nat} {vs : List Value} (h : boxAt w b vs) (j : Nat) (u : Value) (hj : vs[j]? = some u) : w.cell? ⟨b, j, none⟩ = some u := (h j u hj).1
theorem boxAt.mark {w : World} {b : Nat} {vs : List Value} (h : boxAt w b vs) (j : Nat) (u : Value) (hj : vs[j]? = some u) : w.frozen? ⟨b, j, none⟩ = false := (h j u hj).2
theorem boxAt.later {w w' : World} {b : Nat} {vs : List Value} (h : boxAt w b vs) (hG : Gr w w') : boxAt w' b vs := fun j u hj => by
  have hc := (h j u hj).1
  have hb := World.block_lt_of_cell? w _ hc
  exact ⟨hG.cell hc, hG.frozen hb (h j u hj).2⟩
theorem boxAt.below {w w' : World} {B b : Nat} {vs : List Value} (h : boxAt w b vs) (hG : Below B w w') (hb : b < B) : boxAt w' b vs := fun j u hj => by
  have hc := (h j u hj).1
  refine ⟨?_, ?_⟩
  · rw [Below.cell (p := ⟨b, j, none⟩) hG hb]; exact hc
  · rw [Below.frozen (p := ⟨b, j, none⟩) hG hb]; exact (h j u hj).2

theorem boxAt.put {w : World} {b : Nat} {vs : List Value} (h : boxAt w b vs) (j : Nat) (v : Value) (hj : j < vs.length) : boxAt (w.setCell ⟨b, j, none⟩ v) b (vs.set j v) := fun i u hi => by
  have hm : ∀ p : Addr, (w.setCell ⟨b, j, none⟩ v).frozen? p = w.frozen? p := fun p => World.frozen?_setCell ..
  by_cases hij : i = j
  · subst hij
    rw [List.getElem?_set_self hj] at hi
    obtain rfl : v = u := by simpa using hi
    have hx := List.getElem?_eq_getElem hj
    exact ⟨World.cell?_setCell_same _ _ _ (h i _ hx).1, by rw [hm]; exact (h i _ hx).2⟩
  · rw [List.getElem?_set_ne (Ne.symm hij)] at hi
    have h1 := h i u hi
    refine ⟨?_, by rw [hm]; exact h1.2⟩
    rw [World.cell?_setCell_other]
    · exact h1.1
    · intro e; injection e with e1 e2; exact hij e2.symm
theorem boxAt.put4 {w : World} {b : Nat} {u0 u1 u2 u3 : Value} (h : boxAt w b [u0, u1, u2, u3]) (v0 v1 v2 v3 : Value) :
    boxAt ((((w.setCell ⟨b, 0, none⟩ v0).setCell ⟨b, 1, none⟩ v1).setCell ⟨b, 2, none⟩ v2).setCell ⟨b, 3, none⟩ v3) b [v0, v1, v2, v3] :=
  (((h.put 0 v0 (by simp)).put 1 v1 (by simp)).put 2 v2 (by simp)).put 3 v3 (by simp)
theorem boxAt.far {w : World} {b : Nat} {vs : List Value} (h : boxAt w b vs) (p : Addr) (v : Value) (hp : p.block ≠ b) : boxAt (w.setCell p v) b vs := fun i u hi => by
  have h1 := h i u hi
  refine ⟨?_, by rw [World.frozen?_setCell]; exact h1.2⟩
  rw [World.cell?_setCell_other]
  · exact h1.1
  · intro e; exact hp (by rw [e])
theorem boxAt.far4 {w : World} {b b' : Nat} {vs : List Value} (h : boxAt w b vs) (hp : b' ≠ b) (v0 v1 v2 v3 : Value) :
    boxAt ((((w.setCell ⟨b', 0, none⟩ v0).setCell ⟨b', 1, none⟩ v1).setCell ⟨b', 2, none⟩ v2).setCell ⟨b', 3, none⟩ v3) b vs :=
  (((h.far _ v0 hp).far _ v1 hp).far _ v2 hp).far _ v3 hp
theorem Below.put4 {B : Nat} {w w' : World} (h : Below B w w') {b : Nat} (hb : B ≤ b) (v0 v1 v2 v3 : Value) :
    Below B w ((((w'.setCell ⟨b, 0, none⟩ v0).setCell ⟨b, 1, none⟩ v1).setCell ⟨b, 2, none⟩ v2).setCell ⟨b, 3, none⟩ v3) :=
  (((h.setCell (p := ⟨b, 0, none⟩) hb v0).setCell (p := ⟨b, 1, none⟩) hb v1).setCell (p := ⟨b, 2, none⟩) hb v2).setCell (p := ⟨b, 3, none⟩) hb v3
theorem size_put4 (w : World) (b : Nat) (v0 v1 v2 v3 : Value) : ((((w.setCell ⟨b, 0, none⟩ v0).setCell ⟨b, 1, none⟩ v1).setCell ⟨b, 2, none⟩ v2).setCell ⟨b, 3, none⟩ v3).heap.size = w.heap.size := by simp [World.setCell]
/-- A block that the call has just laid. -/
theorem boxAt.new {w W : World} (vs : List Value) (e : TypeId) (hW : W = w.alloc (.cells vs.toArray e)) : boxAt W w.heap.size vs := fun j u hj => by
  subst hW
  constructor
  · rw [World.cell?_alloc_new]; simpa using hj
  · rw [World.frozen?_alloc_new]

theorem boxAt.heap {w w' : World} {b : Nat} {vs : List Value} (h : boxAt w b vs) (hb : w'.heap[b]? = w.heap[b]?) : boxAt w' b vs := fun i u hi => by
  have h1 := h i u hi
  unfold World.cell? World.frozen? at *
  rw [hb]; exact h1
theorem boxAt.lt {w : World} {b : Nat} {vs : List Value} (h : boxAt w b vs) (hn : 0 < vs.length) : b < w.heap.size :=
  World.block_lt_of_cell? w _ (h 0 _ (List.getElem?_eq_getElem hn)).1
theorem boxAt.grown {w w' : World} {b : Nat} {vs : List Value} {row : Option Nat} (h : boxAt w b vs) (hg : w.grownBy w' row) (hn : 0 < vs.length) (hr : row ≠ some b) : boxAt w' b vs :=
  h.heap (hg.block b (h.lt hn) (fun e => hr e.symm))
theorem Gr.grown {w a w' : World} {row : Option Nat} (h : Gr w a) (hg : a.grownBy w' row) (hr : ∀ k, row = some k → w.heap.size ≤ k) : Gr w w' :=
  Below.grown h hg (Gr.size h) hr

/-! A byte literal: its block is marked behind its end. -/
theorem freeze_heap (w : World) (a : Addr) (n k : Nat) (h : k ≠ a.block) : (w.freeze a n).heap[k]? = w.heap[k]? := by
  unfold World.freeze
  split
  · rfl
  · simp only [Array.getElem?_modify]; rw [if_neg (by omega)]
theorem freeze_size (w : World) (a : Addr) (n : Nat) : (w.freeze a n).heap.size = w.heap.size := by
  unfold World.freeze; split <;> simp
theorem freeze_cell (w : World) (a : Addr) (n : Nat) (p : Addr) : (w.freeze a n).cell? p = w.cell? p := by
  unfold World.freeze
  split
  · rfl
  · unfold World.cell?
    simp only [Array.getElem?_modify]
    by_cases h : a.block = p.block
    · rw [if_pos h]
      cases hb : w.heap[p.block]? with
      | none => rfl
      | some o => cases o <;> simp
    · rw [if_neg h]
theorem Gr.freeze {W w : World} (h : Gr W w) (a : Addr) (n : Nat) (hb : W.heap.size ≤ a.block) : Gr W (w.freeze a n) :=
  Below.trans h ⟨by unfold World.freeze; split <;> rfl, by unfold World.freeze; split <;> rfl, by unfold World.freeze; split <;> rfl, by rw [freeze_size]; exact Nat.le_refl _, fun k hk => freeze_heap _ _ _ _ (by omega)⟩
theorem Sl.cells {w w' : World} {v : Value} {k n : Nat} {cs : List Value} (h : Sl w v k n cs) (hs : w.heap.size ≤ w'.heap.size) (hc : ∀ p : Addr, w'.cell? p = w.cell? p) : Sl w' v k n cs := by
  obtain ⟨h1, h2, h3⟩ := h
  refine ⟨h1, h2, h3.imp id ?_⟩
  rintro ⟨b, off, cap, hv, hb, hc2⟩
  exact ⟨b, off, cap, hv, fun h => Nat.lt_of_lt_of_le (hb h) hs, fun j u hj => by rw [hc]; exact hc2 j u hj⟩
theorem Sl.freeze {w : World} {v : Value} {k n : Nat} {cs : List Value} (h : Sl w v k n cs) (a : Addr) (m : Nat) : Sl (w.freeze a m) v k n cs :=
  h.cells (by rw [freeze_size]; exact Nat.le_refl _) (freeze_cell w a m)
theorem Sl.freezeTo {w w5 : World} {v : Value} {k n : Nat} {cs : List Value} (h : Sl w v k n cs) {a : Addr} {m : Nat} (e : w5 = w.freeze a m) : Sl w5 v k n cs := e ▸ h.freeze a m
theorem Sl.allocTo {w w5 : World} {v : Value} {k n : Nat} {cs : List Value} (h : Sl w v k n cs) {o : Obj} (e : w5 = w.alloc o) : Sl w5 v k n cs := h.later (by rw [e]; exact Gr.alloc _ _)
theorem shape_new {w W : World} {C : Array Value} {e : TypeId} (hW : W = w.alloc (.cells C e)) : W.shape? w.heap.size = some (e, C.size) := by
  subst hW
  unfold World.shape?
  rw [show (w.alloc (.cells C e)).heap[w.heap.size]? = some (.cells C e) by show (w.heap.push (.cells C e))[w.heap.size]? = _; simp]
theorem shape_later {w w' : World} {b e n : Nat} (h : w.shape? b = some (e, n)) (hG : Gr w w') : w'.shape? b = some (e, n) := by
  unfold World.shape? at *
  have hlt : b < w.heap.size := by
    rcases Nat.lt_or_ge b w.heap.size with h' | h'
    · exact h'
    · rw [Array.getElem?_eq_none h'] at h; cases h
  rw [Below.block hG b hlt]; exact h
theorem run_convert_bytes_same {P : Program} (w : World) (t e : TypeId) (b n c m : Nat) (e' : TypeId) (ht : P.underlying t = some (.slice e)) (he : P.underlying e = some (.int .u8)) (hsh : w.shape? b = some (e', m)) :
    (convert t t (.slice (some ⟨b, 0, none⟩) n c)).run P w = .ok (.slice (some ⟨b, 0, none⟩) n c) (w.freeze ⟨b, m, none⟩ 1) := by
  simp [convert, run_underlying ht, run_underlying he, markStringish, hsh]

/-- Lists of things of k cells each. -/
theorem flatMap_get {α : Type} (f : α → List Value) (k : Nat) (hf : ∀ a, (f a).length = k) : ∀ (l : List α) (i j : Nat) (a : α), l[i]? = some a → j < k → (l.flatMap f)[i * k + j]? = (f a)[j]?
  | [], i, j, a, h, _ => by simp at h
  | x :: l, 0, j, a, h, hj => by
    simp at h; subst h
    rw [List.flatMap_cons, Nat.zero_mul, Nat.zero_add, List.getElem?_append_left (by rw [hf]; exact hj)]
  | x :: l, i + 1, j, a, h, hj => by
    simp at h
    rw [List.flatMap_cons, List.getElem?_append_right (by rw [hf, Nat.succ_mul]; omega), hf, show (i + 1) * k + j - k = i * k + j by rw [Nat.succ_mul]; omega]
    exact flatMap_get f k hf l i j a h hj
theorem flatMap_len {α : Type} (f : α → List Value) (k : Nat) (hf : ∀ a, (f a).length = k) : ∀ (l : List α), (l.flatMap f).length = l.length * k
  | [] => by simp
  | x :: l => by rw [List.flatMap_cons, List.length_append, hf, flatMap_len f k hf l, List.length_cons, Nat.succ_mul]; omega

end Go.Proofs.YtihjmeoklbmnmaaDoor

/- A block of one's own, that is laid and written within a drawing region. No condition. -/
namespace Go.Proofs.YtihjmeoklbmnmaaDoor
open Go Go.RowKit

/-- A block of one's own. -/
def NB3 (W w : World) (b : Nat) (vs : List Value) : Prop := boxAt w b vs ∧ W.heap.size ≤ b
theorem NB3.later {W w w' : World} {b : Nat} {vs : List Value} (h : NB3 W w b vs) (hG : Gr w w') : NB3 W w' b vs := ⟨h.1.later hG, h.2⟩
theorem name_K3 {K : Act → World → Prop} {a : Act} {w0 : World} (h : ∀ W, W = w0 → K a W) : K a w0 := h _ rfl
theorem NB3.put4 {W w w' : World} {b : Nat} {u0 u1 u2 u3 v0 v1 v2 v3 : Value} (h : NB3 W w b [u0, u1, u2, u3])
    (hw : w' = (((w.setCell ⟨b, 0, none⟩ v0).setCell ⟨b, 1, none⟩ v1).setCell ⟨b, 2, none⟩ v2).setCell ⟨b, 3, none⟩ v3) : NB3 W w' b [v0, v1, v2, v3] := by
  rw [hw]; exact ⟨h.1.put4 _ _ _ _, h.2⟩
theorem NB3.put5 {W w w' : World} {b : Nat} {u0 u1 u2 u3 u4 v0 v1 v2 v3 v4 : Value} (h : NB3 W w b [u0, u1, u2, u3, u4])
    (hw : w' = ((((w.setCell ⟨b, 0, none⟩ v0).setCell ⟨b, 1, none⟩ v1).setCell ⟨b, 2, none⟩ v2).setCell ⟨b, 3, none⟩ v3).setCell ⟨b, 4, none⟩ v4) : NB3 W w' b [v0, v1, v2, v3, v4] := by
  rw [hw]; exact ⟨((((h.1.put 0 _ (by simp)).put 1 _ (by simp)).put 2 _ (by simp)).put 3 _ (by simp)).put 4 _ (by simp), h.2⟩
theorem NB3.far4 {W w w' : World} {b b' : Nat} {vs : List Value} {v0 v1 v2 v3 : Value} (h : NB3 W w b vs)
    (hw : w' = (((w.setCell ⟨b', 0, none⟩ v0).setCell ⟨b', 1, none⟩ v1).setCell ⟨b', 2, none⟩ v2).setCell ⟨b', 3, none⟩ v3) (hp : b' ≠ b) : NB3 W w' b vs := by
  rw [hw]; exact ⟨h.1.far4 hp _ _ _ _, h.2⟩
theorem NB3.far5 {W w w' : World} {b b' : Nat} {vs : List Value} {v0 v1 v2 v3 v4 : Value} (h : NB3 W w b vs)
    (hw : w' = ((((w.setCell ⟨b', 0, none⟩ v0).setCell ⟨b', 1, none⟩ v1).setCell ⟨b', 2, none⟩ v2).setCell ⟨b', 3, none⟩ v3).setCell ⟨b', 4, none⟩ v4) (hp : b' ≠ b) : NB3 W w' b vs := by
  rw [hw]; exact ⟨((((h.1.far ⟨b', 0, none⟩ _ hp).far ⟨b', 1, none⟩ _ hp).far ⟨b', 2, none⟩ _ hp).far ⟨b', 3, none⟩ _ hp).far ⟨b', 4, none⟩ _ hp, h.2⟩
theorem NB3.gr4 {W w w' : World} {b : Nat} {vs : List Value} {v0 v1 v2 v3 : Value} (h : NB3 W w b vs) (hG : Gr W w)
    (hw : w' = (((w.setCell ⟨b, 0, none⟩ v0).setCell ⟨b, 1, none⟩ v1).setCell ⟨b, 2, none⟩ v2).setCell ⟨b, 3, none⟩ v3) : Gr W w' := by
  rw [hw]; exact Below.put4 hG h.2 _ _ _ _
theorem NB3.gr5 {W w w' : World} {b : Nat} {vs : List Value} {v0 v1 v2 v3 v4 : Value} (h : NB3 W w b vs) (hG : Gr W w)
    (hw : w' = ((((w.setCell ⟨b, 0, none⟩ v0).setCell ⟨b, 1, none⟩ v1).setCell ⟨b, 2, none⟩ v2).setCell ⟨b, 3, none⟩ v3).setCell ⟨b, 4, none⟩ v4) : Gr W w' := by
  rw [hw]; exact ((((hG.setCell (p := ⟨b, 0, none⟩) h.2 v0).setCell (p := ⟨b, 1, none⟩) h.2 v1).setCell (p := ⟨b, 2, none⟩) h.2 v2).setCell (p := ⟨b, 3, none⟩) h.2 v3).setCell (p := ⟨b, 4, none⟩) h.2 v4

end Go.Proofs.YtihjmeoklbmnmaaDoor

/- Equality of two sets, as the code asks it. No condition. -/
namespace Go.Proofs.YtihjmeoklbmnmaaDoor
open Go Go.RowKit

set_option maxRecDepth 100000 in
theorem eqSet_d (d : Nat) (a0 a1 a2 a3 b0 b1 b2 b3 : Int) (w : World) : (Op.equalIn (d + 1 + 1) 29 (.agg #[.int .u64 a0, .int .u64 a1, .int .u64 a2, .int .u64 a3]) (.agg #[.int .u64 b0, .int .u64 b1, .int .u64 b2, .int .u64 b3])).run Tryd.prog w = .ok (a0 == b0 && (a1 == b1 && (a2 == b2 && a3 == b3))) w := by
  have hu := Tryd.underlying29
  have hs : ∀ w, (sizeOf 27 : Sem Nat).run Tryd.prog w = .ok 1 w := fun w => by kernel_rfl
  have h64 : ∀ a b w, (Op.equalIn (d + 1) 27 (.int .u64 a) (.int .u64 b)).run Tryd.prog w = .ok (a == b) w := fun a b w => run_equalIn_int w d _ _ _ _ _ Tryd.underlying27
  have hp0 : ∀ (x0 x1 x2 x3 : Int) w, (part 27 #[.int .u64 x0, .int .u64 x1, .int .u64 x2, .int .u64 x3] 0).run Tryd.prog w = .ok (.int .u64 x0) w := fun _ _ _ _ _ => rfl
  have hp1 : ∀ (x0 x1 x2 x3 : Int) w, (part 27 #[.int .u64 x0, .int .u64 x1, .int .u64 x2, .int .u64 x3] 1).run Tryd.prog w = .ok (.int .u64 x1) w := fun _ _ _ _ _ => rfl
  have hp2 : ∀ (x0 x1 x2 x3 : Int) w, (part 27 #[.int .u64 x0, .int .u64 x1, .int .u64 x2, .int .u64 x3] 2).run Tryd.prog w = .ok (.int .u64 x2) w := fun _ _ _ _ _ => rfl
  have hp3 : ∀ (x0 x1 x2 x3 : Int) w, (part 27 #[.int .u64 x0, .int .u64 x1, .int .u64 x2, .int .u64 x3] 3).run Tryd.prog w = .ok (.int .u64 x3) w := fun _ _ _ _ _ => rfl
  rw [Op.equalIn]
  simp only [Sem.run_bind, run_underlying hu, Result.andThen_ok, hs, Std.Legacy.Range.forIn_eq_forIn_range', Std.Legacy.Range.size, List.range']
  simp only [Nat.sub_zero, Nat.add_sub_cancel, Nat.div_one, List.range'_succ, List.range'_zero, List.forIn_cons, List.forIn_nil, Nat.zero_mul, Nat.one_mul, Nat.mul_one, Nat.zero_add, Nat.reduceAdd, Sem.run_bind, hp0, hp1, hp2, hp3, Result.andThen_ok, h64, Sem.run_ite, Sem.run_pure]
  cases h0 : (a0 == b0) <;> cases h1 : (a1 == b1) <;> cases h2 : (a2 == b2) <;> cases h3 : (a3 == b3) <;>
    simp only [Bool.not_true, Bool.not_false, Bool.false_eq_true, if_true, if_false, Result.andThen_ok, Sem.run_bind, Sem.run_pure, Sem.run_ite, hp1, hp2, hp3, h64, h1, h2, h3, Bool.and_true, Bool.and_false, Bool.true_and, Bool.false_and] <;> rfl
theorem wd_beq (s t : BitVec 256) : (wd s 0 == wd t 0 && (wd s 1 == wd t 1 && (wd s 2 == wd t 2 && wd s 3 == wd t 3))) = (s == t) := by
  rw [Bool.eq_iff_iff]
  simp only [Bool.and_eq_true, beq_iff_eq]
  constructor
  · rintro ⟨h0, h1, h2, h3⟩; exact wd_ext s t h0 h1 h2 h3
  · rintro rfl; exact ⟨rfl, rfl, rfl, rfl⟩

@[go_sem] theorem eqSet (s t : BitVec 256) (w : World) : (Op.equalIn 10000 29 (.agg #[.int .u64 (wd s 0), .int .u64 (wd s 1), .int .u64 (wd s 2), .int .u64 (wd s 3)]) (.agg #[.int .u64 (wd t 0), .int .u64 (wd t 1), .int .u64 (wd t 2), .int .u64 (wd t 3)])).run Tryd.prog w = .ok (s == t) w := by
  rw [← wd_beq]; exact eqSet_d 9998 _ _ _ _ _ _ _ _ w
@[go_sem] theorem eqSet_zero (s : BitVec 256) (w : World) : (Op.equalIn 10000 29 (.agg #[.int .u64 (wd s 0), .int .u64 (wd s 1), .int .u64 (wd s 2), .int .u64 (wd s 3)]) (.agg #[.int .u64 0, .int .u64 0, .int .u64 0, .int .u64 0])).run Tryd.prog w = .ok (s == emptyS) w := by
  rw [← wd_beq, wd_zero, wd_zero, wd_zero, wd_zero]; exact eqSet_d 9998 _ _ _ _ _ _ _ _ w

end Go.Proofs.YtihjmeoklbmnmaaDoor

/- Equality of two sets, as the code asks it. No condition. -/


/- How many bits of 64 are set: the sum by halves that math/bits uses. Plain arithmetic; no condition. -/
namespace Go.Proofs.YtihjmeoklbmnmaaDoor
open Go

/-- How many k below n there are of which p says yes. -/
def cardN (p : Nat → Bool) : Nat → Nat
  | 0 => 0
  | n + 1 => cardN p n + (p n).toNat

theorem cardN_le (p : Nat → Bool) (n : Nat) : cardN p n ≤ n := by
  induction n with
  | zero => exact Nat.le_refl _
  | succ n ih => unfold cardN; cases p n <;> simp <;> omega
theorem cardN_congr (p q : Nat → Bool) (n : Nat) (h : ∀ k, k < n → p k = q k) : cardN p n = cardN q n := by
  induction n with
  | zero => rfl
  | succ n ih => unfold cardN; rw [h n (by omega), ih (fun k hk => h k (by omega))]
theorem cardN_add (p : Nat → Bool) (m n : Nat) : cardN p (m + n) = cardN p m + cardN (fun k => p (m + k)) n := by
  induction n with
  | zero => rfl
  | succ n ih => show cardN p (m + n) + (p (m + n)).toNat = cardN p m + (cardN (fun k => p (m + k)) n + (p (m + n)).toNat); rw [ih]; omega

/-- A number out of its bytes, the least first. -/
def val : List Nat → Nat
  | [] => 0
  | b :: l => val l * 256 + b
def small (l : List Nat) : Prop := ∀ b ∈ l, b < 256

theorem and_split (a b c d : Nat) (hb : b < 256) (hd : d < 256) : (a * 256 + b) &&& (c * 256 + d) = (a &&& c) * 256 + (b &&& d) := by
  have h1 : ((a * 256 + b) &&& (c * 256 + d)) / 2 ^ 8 = a &&& c := by
    rw [Nat.and_div_two_pow]; congr 1 <;> omega
  have h2 : ((a * 256 + b) &&& (c * 256 + d)) % 2 ^ 8 = b &&& d := by
    rw [Nat.and_mod_two_pow]; congr 1 <;> omega
  have h3 := Nat.div_add_mod ((a * 256 + b) &&& (c * 256 + d)) (2 ^ 8)
  rw [h1, h2] at h3
  omega

def rep (m : Nat) : Nat → Nat
  | 0 => 0
  | n + 1 => rep m n * 256 + m

theorem and_rep (m : Nat) (hm : m < 256) : ∀ l, small l → val l &&& rep m l.length = val (l.map (· &&& m))
  | [], _ => by simp [val, rep]
  | b :: l, h => by
    have hb : b < 256 := h b (by simp)
    rw [List.length_cons, rep, val, and_split _ _ _ _ hb hm, and_rep m hm l (fun x hx => h x (by simp [hx]))]
    rfl

theorem half_bits : ∀ p : Fin 2, ∀ b : Fin 256, ((p.val * 128 + b.val / 2) &&& 85) = ((b.val / 2) &&& 85) := by decide +kernel
theorem quart_bits : ∀ p : Fin 4, ∀ b : Fin 256, ((p.val * 64 + b.val / 4) &&& 51) = ((b.val / 4) &&& 51) := by decide +kernel

theorem half_rep : ∀ l, small l → val l / 2 &&& rep 85 l.length = val (l.map fun b => (b / 2) &&& 85)
  | [], _ => by simp [val, rep]
  | b :: l, h => by
    have hb : b < 256 := h b (by simp)
    have e : (val l * 256 + b) / 2 = val l / 2 * 256 + (val l % 2 * 128 + b / 2) := by omega
    rw [List.length_cons, rep, val, e, and_split _ _ _ _ (by omega) (by decide), half_rep l (fun x hx => h x (by simp [hx]))]
    have := half_bits ⟨val l % 2, by omega⟩ ⟨b, hb⟩
    simp only at this
    rw [this]; rfl
theorem quart_rep : ∀ l, small l → val l / 4 &&& rep 51 l.length = val (l.map fun b => (b / 4) &&& 51)
  | [], _ => by simp [val, rep]
  | b :: l, h => by
    have hb : b < 256 := h b (by simp)
    have e : (val l * 256 + b) / 4 = val l / 4 * 256 + (val l % 4 * 64 + b / 4) := by omega
    rw [List.length_cons, rep, val, e, and_split _ _ _ _ (by omega) (by decide), quart_rep l (fun x hx => h x (by simp [hx]))]
    have := quart_bits ⟨val l % 4, by omega⟩ ⟨b, hb⟩
    simp only at this
    rw [this]; rfl

theorem val_add : ∀ (l : List Nat) (f g : Nat → Nat), val (l.map f) + val (l.map g) = val (l.map fun b => f b + g b)
  | [], _, _ => rfl
  | b :: l, f, g => by simp only [List.map_cons, val]; rw [← val_add l f g]; omega

def fA (b : Nat) : Nat := ((b / 2) &&& 85) + (b &&& 85)
def fB (b : Nat) : Nat := ((b / 4) &&& 51) + (b &&& 51)
def fC (b : Nat) : Nat := (b / 16 + b) &&& 15
def pc8 (b : Nat) : Nat := b % 2 + b / 2 % 2 + b / 4 % 2 + b / 8 % 2 + b / 16 % 2 + b / 32 % 2 + b / 64 % 2 + b / 128 % 2

theorem byte_facts : ∀ b : Fin 256, fA b.val < 256 ∧ fB (fA b.val) < 256 ∧ fB (fA b.val) % 16 ≤ 4 ∧ fB (fA b.val) / 16 ≤ 4 ∧ fC (fB (fA b.val)) = pc8 b.val ∧ pc8 b.val ≤ 8 := by decide +kernel

theorem nib_bits : ∀ p : Fin 5, ∀ b : Fin 256, b.val / 16 ≤ 4 → ((p.val * 16 + b.val / 16 + b.val) &&& 15) = ((b.val / 16 + b.val) &&& 15) := by decide +kernel

def nib (l : List Nat) : Prop := ∀ b ∈ l, b < 256 ∧ b % 16 ≤ 4 ∧ b / 16 ≤ 4
theorem val_mod16 : ∀ l, nib l → val l % 16 ≤ 4
  | [], _ => by simp [val]
  | b :: l, h => by have := h b (by simp); unfold val; omega
theorem nib_rep : ∀ l, nib l → (val l / 16 + val l) &&& rep 15 l.length = val (l.map fC)
  | [], _ => by simp [val, rep]
  | b :: l, h => by
    obtain ⟨hb, h1, h2⟩ := h b (by simp)
    have hl : nib l := fun x hx => h x (by simp [hx])
    have hm := val_mod16 l hl
    have e : (val l * 256 + b) / 16 + (val l * 256 + b) = (val l / 16 + val l) * 256 + (val l % 16 * 16 + b / 16 + b) := by omega
    rw [List.length_cons, rep, val, e, and_split _ _ _ _ (by omega) (by decide), nib_rep l hl]
    have := nib_bits ⟨val l % 16, by omega⟩ ⟨b, hb⟩ h2
    simp only at this
    rw [this]; rfl

/-- The whole sum, of eight bytes. -/
theorem swar (l : List Nat) (hl : l.length = 8) (hs : small l) :
    let y1 := (val l / 2 &&& 6148914691236517205) + (val l &&& 6148914691236517205)
    let y2 := (y1 / 4 &&& 3689348814741910323) + (y1 &&& 3689348814741910323)
    let y3 := (y2 / 16 + y2) &&& 1085102592571150095
    y1 = val (l.map fA) ∧ y2 = val ((l.map fA).map fB) ∧ y3 = val (l.map pc8) := by
  have r0 : (6148914691236517205 : Nat) = rep 85 l.length := by rw [hl]; decide
  have r1 : (3689348814741910323 : Nat) = rep 51 l.length := by rw [hl]; decide
  have r2 : (1085102592571150095 : Nat) = rep 15 l.length := by rw [hl]; decide
  have f := fun b (hb : b ∈ l) => byte_facts ⟨b, hs b hb⟩
  simp only at f
  have e1 : (val l / 2 &&& 6148914691236517205) + (val l &&& 6148914691236517205) = val (l.map fA) := by
    rw [r0, half_rep l hs, and_rep 85 (by decide) l hs, val_add]; rfl
  have hA : small (l.map fA) := fun x hx => by
    obtain ⟨b, hb, rfl⟩ := List.mem_map.1 hx; exact (f b hb).1
  have e2 : (val (l.map fA) / 4 &&& 3689348814741910323) + (val (l.map fA) &&& 3689348814741910323) = val ((l.map fA).map fB) := by
    rw [r1, show l.length = (l.map fA).length by simp, quart_rep _ hA, and_rep 51 (by decide) _ hA, val_add]; rfl
  have hB : nib ((l.map fA).map fB) := fun x hx => by
    obtain ⟨c, hc, rfl⟩ := List.mem_map.1 hx
    obtain ⟨b, hb, rfl⟩ := List.mem_map.1 hc
    exact ⟨(f b hb).2.1, (f b hb).2.2.1, (f b hb).2.2.2.1⟩
  have e3 : (val ((l.map fA).map fB) / 16 + val ((l.map fA).map fB)) &&& 1085102592571150095 = val (l.map pc8) := by
    rw [r2, show l.length = ((l.map fA).map fB).length by simp, nib_rep _ hB, List.map_map, List.map_map]
    congr 1
    exact List.map_congr_left fun b hb => (f b hb).2.2.2.2.1
  simp only
  rw [e1, e2, e3]
  exact ⟨rfl, rfl, rfl⟩

theorem four (p1 p2 p3 p4 T1 T2 T3 T4 T5 : Nat) (h1 : p1 ≤ 8) (h2 : p2 ≤ 8) (h3 : p3 ≤ 8) (h4 : p4 ≤ 8) (e1 : T1 = p1 + 256 * T2) (e2 : T2 = p2 + 256 * T3) (e3 : T3 = p3 + 256 * T4) (e4 : T4 = p4 + 256 * T5) :
    (T1 + T2 + T3 + T4) / 256 = T2 + T3 + T4 + T5 := by omega
theorem four_eq (p1 p2 p3 p4 T1 T2 T3 T4 T5 : Nat) (e1 : T1 = p1 + 256 * T2) (e2 : T2 = p2 + 256 * T3) (e3 : T3 = p3 + 256 * T4) (e4 : T4 = p4 + 256 * T5) :
    T1 + T2 + T3 + T4 = (p1 + p2 + p3 + p4) + 256 * (T2 + T3 + T4 + T5) := by omega
theorem by256 (a t y : Nat) (ha : a ≤ 64) (h : y = a + 256 * t) : y / 256 = t := by omega

theorem bnd0 (p T : Nat) (e : T = p + 256 * 0) (h : p ≤ 8) : T ≤ 8 := by omega
theorem bnd (p T T' k : Nat) (e : T = p + 256 * T') (h : p ≤ 8) (h' : T' ≤ k) : T ≤ 8 + 256 * k := by omega
theorem lin2 (p q y T U : Nat) (e : y = p + 256 * T) (f : T = q + 256 * U) : y + T = (p + q) + 256 * (T + U) := by omega
theorem lin3 (p0 p1 p2 p3 T1 T2 T3 T4 : Nat) (e : T2 = p2 + 256 * T3) (f : T3 = p3 + 256 * T4) : (p0 + p1) + 256 * (T1 + T2) + (T2 + T3) = (p0 + p1 + p2 + p3) + 256 * (T1 + T2 + T3 + T4) := by omega
theorem lin4 (p0 p1 p2 p3 p4 p5 p6 p7 T1 T2 T3 T4 T5 T6 T7 : Nat) : (p0 + p1 + p2 + p3) + 256 * (T1 + T2 + T3 + T4) + (p4 + p5 + p6 + p7 + 256 * (T5 + T6 + T7 + 0)) = (p0 + p1 + p2 + p3 + p4 + p5 + p6 + p7) + 256 * (T1 + T2 + T3 + T4 + T5 + T6 + T7) := by omega
theorem two8 {a b : Nat} (h : a ≤ 8) (k : b ≤ 8) : a + b ≤ 64 := by omega
theorem four8 {a b c d : Nat} (h : a ≤ 8) (k : b ≤ 8) (l : c ≤ 8) (m : d ≤ 8) : a + b + c + d ≤ 64 := by omega
theorem mod128 (s k x : Nat) (hs : s ≤ 64) (h : x = s + 256 * k) : x % 128 = s := by omega
theorem fin8 (p0 p1 p2 p3 p4 p5 p6 p7 T1 T2 T3 T4 T5 T6 T7 d1 d2 d3 : Nat) (h0 : p0 ≤ 8) (h1 : p1 ≤ 8) (h2 : p2 ≤ 8) (h3 : p3 ≤ 8) (h4 : p4 ≤ 8) (h5 : p5 ≤ 8) (h6 : p6 ≤ 8) (h7 : p7 ≤ 8)
    (b1 : T1 ≤ 2260630401189896) (b2 : T2 ≤ 8830587504648) (b3 : T3 ≤ 34494482440) (b4 : T4 ≤ 134744072) (b5 : T5 ≤ 526344) (b6 : T6 ≤ 2056) (b7 : T7 ≤ 8)
    (s1 : d1 = (p0 + p1) + 256 * (T1 + T2)) (s2 : d2 = (p0 + p1 + p2 + p3) + 256 * (T1 + T2 + T3 + T4)) (s3 : d3 = (p0 + p1 + p2 + p3 + p4 + p5 + p6 + p7) + 256 * (T1 + T2 + T3 + T4 + T5 + T6 + T7)) :
    d1 < 18446744073709551616 ∧ d2 < 18446744073709551616 ∧ d3 < 9223372036854775808 ∧ d3 % 128 = p0 + p1 + p2 + p3 + p4 + p5 + p6 + p7 := by
  have k1 : T1 + T2 + T3 + T4 + T5 + T6 + T7 ≤ 2269495618449464 := by omega
  have k2 : p0 + p1 + p2 + p3 + p4 + p5 + p6 + p7 ≤ 64 := by omega
  refine ⟨?_, ?_, ?_, mod128 _ _ _ k2 s3⟩
  · clear s2 s3; omega
  · clear s1 s3; omega
  · clear s1 s2; omega

theorem sum8 (p0 p1 p2 p3 p4 p5 p6 p7 : Nat) (h0 : p0 ≤ 8) (h1 : p1 ≤ 8) (h2 : p2 ≤ 8) (h3 : p3 ≤ 8) (h4 : p4 ≤ 8) (h5 : p5 ≤ 8) (h6 : p6 ≤ 8) (h7 : p7 ≤ 8) (y d1 d2 d3 T1 T2 T3 T4 T5 T6 T7 : Nat)
    (hy : y = p0 + 256 * T1) (hT1 : T1 = p1 + 256 * T2) (hT2 : T2 = p2 + 256 * T3) (hT3 : T3 = p3 + 256 * T4) (hT4 : T4 = p4 + 256 * T5) (hT5 : T5 = p5 + 256 * T6) (hT6 : T6 = p6 + 256 * T7) (hT7 : T7 = p7 + 256 * 0)
    (e1 : d1 = y + y / 256) (e2 : d2 = d1 + d1 / 65536) (e3 : d3 = d2 + d2 / 4294967296) :
    d1 < 18446744073709551616 ∧ d2 < 18446744073709551616 ∧ d3 < 9223372036854775808 ∧ d3 % 128 = p0 + p1 + p2 + p3 + p4 + p5 + p6 + p7 := by
  have q1 : y / 256 = T1 := by256 p0 T1 y (by omega) hy
  have r1 := four p1 p2 p3 p4 T1 T2 T3 T4 T5 h1 h2 h3 h4 hT1 hT2 hT3 hT4
  have r2 := four p2 p3 p4 p5 T2 T3 T4 T5 T6 h2 h3 h4 h5 hT2 hT3 hT4 hT5
  have r3 := four p3 p4 p5 p6 T3 T4 T5 T6 T7 h3 h4 h5 h6 hT3 hT4 hT5 hT6
  have f0 := four_eq p1 p2 p3 p4 T1 T2 T3 T4 T5 hT1 hT2 hT3 hT4
  have f4 := four_eq p4 p5 p6 p7 T4 T5 T6 T7 0 hT4 hT5 hT6 hT7
  have b7 : T7 ≤ 8 := bnd0 p7 T7 hT7 h7
  have b6 : T6 ≤ 2056 := bnd p6 T6 T7 8 hT6 h6 b7
  have b5 : T5 ≤ 526344 := bnd p5 T5 T6 2056 hT5 h5 b6
  have b4 : T4 ≤ 134744072 := bnd p4 T4 T5 526344 hT4 h4 b5
  have b3 : T3 ≤ 34494482440 := bnd p3 T3 T4 134744072 hT3 h3 b4
  have b2 : T2 ≤ 8830587504648 := bnd p2 T2 T3 34494482440 hT2 h2 b3
  have b1 : T1 ≤ 2260630401189896 := bnd p1 T1 T2 8830587504648 hT1 h1 b2
  have s1 : d1 = (p0 + p1) + 256 * (T1 + T2) := by rw [e1, q1, lin2 p0 p1 y T1 T2 hy hT1]
  have q2 : d1 / 65536 = T2 + T3 := by
    rw [show (65536 : Nat) = 256 * 256 from rfl, ← Nat.div_div_eq_div_mul, by256 (p0 + p1) (T1 + T2) d1 (two8 h0 h1) s1]
    exact by256 (p1 + p2) (T2 + T3) _ (two8 h1 h2) (lin2 p1 p2 T1 T2 T3 hT1 hT2)
  have s2 : d2 = (p0 + p1 + p2 + p3) + 256 * (T1 + T2 + T3 + T4) := by rw [e2, q2, s1]; exact lin3 p0 p1 p2 p3 T1 T2 T3 T4 hT2 hT3
  have q3 : d2 / 4294967296 = T4 + T5 + T6 + T7 := by
    rw [show (4294967296 : Nat) = 256 * 256 * 256 * 256 from rfl, ← Nat.div_div_eq_div_mul, ← Nat.div_div_eq_div_mul, ← Nat.div_div_eq_div_mul,
      by256 (p0 + p1 + p2 + p3) (T1 + T2 + T3 + T4) d2 (four8 h0 h1 h2 h3) s2, r1, r2, r3]
  have s3 : d3 = (p0 + p1 + p2 + p3 + p4 + p5 + p6 + p7) + 256 * (T1 + T2 + T3 + T4 + T5 + T6 + T7) := by rw [e3, q3, s2, f4]; exact lin4 ..
  exact fin8 _ _ _ _ _ _ _ _ _ _ _ _ _ _ _ d1 d2 d3 h0 h1 h2 h3 h4 h5 h6 h7 b1 b2 b3 b4 b5 b6 b7 s1 s2 s3

theorem pc8_card (b : Nat) : pc8 b = cardN b.testBit 8 := by
  simp only [cardN, Nat.testBit_eq_decide_div_mod_eq]
  unfold pc8
  have h : ∀ n : Nat, (decide (n % 2 = 1)).toNat = n % 2 := fun n => by
    rcases Nat.mod_two_eq_zero_or_one n with h | h <;> simp [h]
  simp only [h]
  simp
/-- The bits of a number by its bytes. -/
theorem card_bytes : ∀ (n x : Nat), x < 256 ^ n → ∃ l, l.length = n ∧ small l ∧ val l = x ∧ (l.map pc8).sum = cardN x.testBit (8 * n)
  | 0, x, h => ⟨[], rfl, (by intro b hb; cases hb), by simp at h; simp [val, h], by simp [cardN]⟩
  | n + 1, x, h => by
    have hx : x / 256 < 256 ^ n := by rw [Nat.pow_succ] at h; exact Nat.div_lt_of_lt_mul (by omega)
    obtain ⟨l, h1, h2, h3, h4⟩ := card_bytes n (x / 256) hx
    refine ⟨(x % 256) :: l, by simp [h1], ?_, ?_, ?_⟩
    · intro b hb
      rcases List.mem_cons.1 hb with rfl | hb
      · omega
      · exact h2 b hb
    · unfold val; rw [h3]; omega
    · rw [List.map_cons, List.sum_cons, h4, pc8_card, show 8 * (n + 1) = 8 + 8 * n by omega, cardN_add]
      have e1 : cardN (x % 256).testBit 8 = cardN x.testBit 8 := cardN_congr _ _ _ fun k hk => by
        rw [show (256 : Nat) = 2 ^ 8 from rfl, Nat.testBit_mod_two_pow]; simp [hk]
      have e2 : cardN (x / 256).testBit (8 * n) = cardN (fun k => x.testBit (8 + k)) (8 * n) := cardN_congr _ _ _ fun k _ => by
        rw [show (256 : Nat) = 2 ^ 8 from rfl, Nat.testBit_div_two_pow, Nat.add_comm]
      rw [e1, e2]

theorem step_lt {a v k : Nat} (ha : a < 256) (hv : v < k) : v * 256 + a < k * 256 := by omega
theorem val8_lt {b0 b1 b2 b3 b4 b5 b6 b7 : Nat} (h0 : b0 < 256) (h1 : b1 < 256) (h2 : b2 < 256) (h3 : b3 < 256) (h4 : b4 < 256) (h5 : b5 < 256) (h6 : b6 < 256) (h7 : b7 < 256) :
    (((((((0 * 256 + b7) * 256 + b6) * 256 + b5) * 256 + b4) * 256 + b3) * 256 + b2) * 256 + b1) * 256 + b0 < 18446744073709551616 :=
  step_lt h0 (step_lt h1 (step_lt h2 (step_lt h3 (step_lt h4 (step_lt h5 (step_lt h6 (step_lt h7 (k := 1) (by decide))))))))
theorem step_le {a v k : Nat} (ha : a ≤ 68) (hv : v ≤ k) : v * 256 + a ≤ k * 256 + 68 := by omega
theorem le68 {b : Nat} {p : Prop} (h : b % 16 ≤ 4 ∧ b / 16 ≤ 4 ∧ p) : b ≤ 68 := by have := h.1; have := h.2.1; omega
theorem val8_nib {b0 b1 b2 b3 b4 b5 b6 b7 : Nat} {q0 q1 q2 q3 q4 q5 q6 q7 : Prop} (h0 : b0 % 16 ≤ 4 ∧ b0 / 16 ≤ 4 ∧ q0) (h1 : b1 % 16 ≤ 4 ∧ b1 / 16 ≤ 4 ∧ q1) (h2 : b2 % 16 ≤ 4 ∧ b2 / 16 ≤ 4 ∧ q2) (h3 : b3 % 16 ≤ 4 ∧ b3 / 16 ≤ 4 ∧ q3)
    (h4 : b4 % 16 ≤ 4 ∧ b4 / 16 ≤ 4 ∧ q4) (h5 : b5 % 16 ≤ 4 ∧ b5 / 16 ≤ 4 ∧ q5) (h6 : b6 % 16 ≤ 4 ∧ b6 / 16 ≤ 4 ∧ q6) (h7 : b7 % 16 ≤ 4 ∧ b7 / 16 ≤ 4 ∧ q7) :
    (((((((0 * 256 + b7) * 256 + b6) * 256 + b5) * 256 + b4) * 256 + b3) * 256 + b2) * 256 + b1) * 256 + b0 ≤ 4919131752989213764 :=
  step_le (le68 h0) (step_le (le68 h1) (step_le (le68 h2) (step_le (le68 h3) (step_le (le68 h4) (step_le (le68 h5) (step_le (le68 h6) (step_le (le68 h7) (k := 0) (by decide))))))))

/-- What OnesCount64 reckons, step by step. -/
theorem ones_sum (x : Nat) (hx : x < 18446744073709551616) (y1 y2 y3 d1 d2 d3 : Nat)
    (e1 : y1 = (x / 2 &&& 6148914691236517205) + (x &&& 6148914691236517205)) (e2 : y2 = (y1 / 4 &&& 3689348814741910323) + (y1 &&& 3689348814741910323)) (e3 : y3 = (y2 / 16 + y2) &&& 1085102592571150095)
    (f1 : d1 = y3 + y3 / 256) (f2 : d2 = d1 + d1 / 65536) (f3 : d3 = d2 + d2 / 4294967296) :
    y1 < 18446744073709551616 ∧ y2 < 18446744073709551616 ∧ y2 / 16 + y2 < 18446744073709551616 ∧ y3 < 18446744073709551616 ∧ d1 < 18446744073709551616 ∧ d2 < 18446744073709551616 ∧ d3 < 9223372036854775808 ∧ d3 % 128 = cardN x.testBit 64 := by
  obtain ⟨l, hlen, hs, hv, hc⟩ := card_bytes 8 x (by simpa using hx)
  obtain ⟨a1, a2, a3⟩ := swar l hlen hs
  rw [hv] at a1 a2 a3
  have f := fun b (hb : b ∈ l) => byte_facts ⟨b, hs b hb⟩
  simp only at f
  match l, hlen with
  | [b0, b1, b2, b3, b4, b5, b6, b7], _ =>
    have g0 := f b0 (by simp)
    have g1 := f b1 (by simp)
    have g2 := f b2 (by simp)
    have g3 := f b3 (by simp)
    have g4 := f b4 (by simp)
    have g5 := f b5 (by simp)
    have g6 := f b6 (by simp)
    have g7 := f b7 (by simp)
    have E1 : y1 = val ([b0, b1, b2, b3, b4, b5, b6, b7].map fA) := by rw [e1]; exact a1
    have E2 : y2 = val (([b0, b1, b2, b3, b4, b5, b6, b7].map fA).map fB) := by rw [e2, e1]; exact a2
    have E3 : y3 = val ([b0, b1, b2, b3, b4, b5, b6, b7].map pc8) := by rw [e3, e2, e1]; exact a3
    simp only [List.map_cons, List.map_nil, val] at E1 E2 E3
    have S := sum8 (pc8 b0) (pc8 b1) (pc8 b2) (pc8 b3) (pc8 b4) (pc8 b5) (pc8 b6) (pc8 b7) g0.2.2.2.2.2 g1.2.2.2.2.2 g2.2.2.2.2.2 g3.2.2.2.2.2 g4.2.2.2.2.2 g5.2.2.2.2.2 g6.2.2.2.2.2 g7.2.2.2.2.2 y3 d1 d2 d3 _ _ _ _ _ _ _
      (by rw [E3, Nat.add_comm, Nat.mul_comm]) (by rw [Nat.add_comm, Nat.mul_comm]) (by rw [Nat.add_comm, Nat.mul_comm]) (by rw [Nat.add_comm, Nat.mul_comm]) (by rw [Nat.add_comm, Nat.mul_comm]) (by rw [Nat.add_comm, Nat.mul_comm]) (by rw [Nat.add_comm, Nat.mul_comm]) (by rw [Nat.add_comm, Nat.mul_comm]) f1 f2 f3
    refine ⟨?_, ?_, ?_, ?_, S.1, S.2.1, S.2.2.1, ?_⟩
    · rw [E1]; exact val8_lt g0.1 g1.1 g2.1 g3.1 g4.1 g5.1 g6.1 g7.1
    · rw [E2]; exact val8_lt g0.2.1 g1.2.1 g2.2.1 g3.2.1 g4.2.1 g5.2.1 g6.2.1 g7.2.1
    · have := val8_nib g0.2.2 g1.2.2 g2.2.2 g3.2.2 g4.2.2 g5.2.2 g6.2.2 g7.2.2
      rw [← E2] at this; clear E1 E2 E3 a1 a2 a3 S; omega
    · have := S.1; clear E1 E2 E3 a1 a2 a3 S; omega
    · rw [S.2.2.2, ← hc]; simp only [List.map_cons, List.map_nil, List.sum_cons, List.sum_nil]; omega
end Go.Proofs.YtihjmeoklbmnmaaDoor

/- More of package byteset: All, Within, Count, Of; and bolterref0.Eq. No condition. -/
namespace Go.Proofs.YtihjmeoklbmnmaaDoor
open Go Go.RowKit

theorem zeros_empty : (#[Value.agg #[.int .u64 0, .int .u64 0, .int .u64 0, .int .u64 0]] : Array Value) = #[.agg #[.int .u64 (wd emptyS 0), .int .u64 (wd emptyS 1), .int .u64 (wd emptyS 2), .int .u64 (wd emptyS 3)]] := by rw [wd_zero, wd_zero, wd_zero, wd_zero]

set_option maxRecDepth 100000 in
set_option maxHeartbeats 400000 in
theorem all_any (w : World) : Calls Tryd.prog 77 #[] w fun e w' => e = .returned (.agg #[.int .u64 (wd ((~~~emptyS)) 0), .int .u64 (wd ((~~~emptyS)) 1), .int .u64 (wd ((~~~emptyS)) 2), .int .u64 (wd ((~~~emptyS)) 3)]) ∧ Gr w w' := by
  go_enter Tryd.func77, Tryd.ntmps77
  go_wp2_with fail
  go_at_call 14
  refine name_calls (fun W hW => ?_)
  have hz : W.heap.size = w.heap.size + 1 := by subst hW; simp
  have c_r0 : W.cell? ⟨w.heap.size, 0, none⟩ = some (.int .u64 0) := by subst hW; go_simp
  have c_r1 : W.cell? ⟨w.heap.size, 1, none⟩ = some (.int .u64 0) := by subst hW; go_simp
  have c_r2 : W.cell? ⟨w.heap.size, 2, none⟩ = some (.int .u64 0) := by subst hW; go_simp
  have c_r3 : W.cell? ⟨w.heap.size, 3, none⟩ = some (.int .u64 0) := by subst hW; go_simp
  have m_r0 : W.frozen? ⟨w.heap.size, 0, none⟩ = false := by subst hW; go_simp
  have m_r1 : W.frozen? ⟨w.heap.size, 1, none⟩ = false := by subst hW; go_simp
  have m_r2 : W.frozen? ⟨w.heap.size, 2, none⟩ = false := by subst hW; go_simp
  have m_r3 : W.frozen? ⟨w.heap.size, 3, none⟩ = false := by subst hW; go_simp
  have hb0 : Gr w W := by subst hW; exact (Below.refl _ _).alloc (Nat.le_refl _) _
  clear hW
  rw [zeros_empty]
  refine (complement_any _ _).mono ?_; rintro e w' ⟨rfl, hb⟩
  have hc := Gr.cells hb
  have hm := Gr.marks hb
  go_wp2
  refine bodyPost_ret (v := .agg #[.int .u64 (wd ((~~~emptyS)) 0), .int .u64 (wd ((~~~emptyS)) 1), .int .u64 (wd ((~~~emptyS)) 2), .int .u64 (wd ((~~~emptyS)) 3)]) (by simp [results, Tryd.results77, go_sem, hc, hz, c_r0, c_r1, c_r2, c_r3]) rfl ⟨rfl, ?_⟩
  exact ((((hb0.trans hb).setCell (by simp) _).setCell (by simp) _).setCell (by simp) _).setCell (by simp) _

theorem wrap_u64_nat (n : Nat) (h : n < 18446744073709551616) : IntKind.u64.wrap (n : Int) = (n : Int) := by rw [IntKind.wrap_u64]; omega

theorem and127 (d : Nat) (h : d < 9223372036854775808) : bits .and .i64 (d : Int) 127 = ((d % 128 : Nat) : Int) := by
  have := bits_mask .i64 63 (by decide) (fun n h1 h2 => by rw [IntKind.wrap_i64]; omega) 7 (by decide) (d : Int) (by omega) (by omega)
  simpa using this

/-- How many bits word i of a set has. -/
def cardW (s : BitVec 256) (i : Nat) : Nat := cardN (s.extractLsb' (64 * i) 64).toNat.testBit 64

end Go.Proofs.YtihjmeoklbmnmaaDoor

/- Count, Of, Eq. No condition. -/
namespace Go.Proofs.YtihjmeoklbmnmaaDoor
open Go Go.RowKit

/-- How many bytes a set has. -/
def card (s : BitVec 256) : Nat := cardN s.getLsbD 256
theorem cardW_le (s : BitVec 256) (i : Nat) : cardW s i ≤ 64 := cardN_le _ _
theorem cardW_eq (s : BitVec 256) (i : Nat) : cardW s i = cardN (fun k => s.getLsbD (64 * i + k)) 64 :=
  cardN_congr _ _ _ fun k hk => by rw [BitVec.testBit_toNat, BitVec.getLsbD_extractLsb']; simp [hk]
theorem card_words (s : BitVec 256) : card s = cardW s 0 + cardW s 1 + cardW s 2 + cardW s 3 := by
  rw [cardW_eq, cardW_eq, cardW_eq, cardW_eq]
  unfold card
  have h1 : cardN s.getLsbD 256 = cardN s.getLsbD 64 + cardN (fun k => s.getLsbD (64 + k)) 192 := cardN_add s.getLsbD 64 192
  have h2 : cardN (fun k => s.getLsbD (64 + k)) 192 = cardN (fun k => s.getLsbD (64 + k)) 64 + cardN (fun k => s.getLsbD (64 + (64 + k))) 128 := cardN_add (fun k => s.getLsbD (64 + k)) 64 128
  have h3 : cardN (fun k => s.getLsbD (64 + (64 + k))) 128 = cardN (fun k => s.getLsbD (64 + (64 + k))) 64 + cardN (fun k => s.getLsbD (64 + (64 + (64 + k)))) 64 := cardN_add (fun k => s.getLsbD (64 + (64 + k))) 64 64
  rw [h1, h2, h3]
  have e0 : cardN s.getLsbD 64 = cardN (fun k => s.getLsbD (64 * 0 + k)) 64 := cardN_congr _ _ _ fun k _ => by rw [Nat.mul_zero, Nat.zero_add]
  have e2 : cardN (fun k => s.getLsbD (64 + (64 + k))) 64 = cardN (fun k => s.getLsbD (64 * 2 + k)) 64 := cardN_congr _ _ _ fun k _ => by rw [← Nat.add_assoc]
  have e3 : cardN (fun k => s.getLsbD (64 + (64 + (64 + k)))) 64 = cardN (fun k => s.getLsbD (64 * 3 + k)) 64 := cardN_congr _ _ _ fun k _ => by rw [← Nat.add_assoc, ← Nat.add_assoc]
  have e1 : cardN (fun k => s.getLsbD (64 + k)) 64 = cardN (fun k => s.getLsbD (64 * 1 + k)) 64 := rfl
  rw [e0, e1, e2, e3]; omega

end Go.Proofs.YtihjmeoklbmnmaaDoor

/- Of. No condition. -/
namespace Go.Proofs.YtihjmeoklbmnmaaDoor
open Go Go.RowKit

/-- The set of these bytes. -/
def ofList (l : List UInt8) : BitVec 256 := ofP (fun k => l.any fun b => b.toNat == k)
theorem getLsbD_ofList (l : List UInt8) (k : Nat) : (ofList l).getLsbD k = (decide (k < 256) && l.any fun b => b.toNat == k) := getLsbD_ofP _ _
theorem ofList_nil : ofList [] = emptyS := ofP_empty _ fun _ _ => rfl
theorem ofList_snoc (l : List UInt8) (b : UInt8) : ofList (l ++ [b]) = ofList l ||| bit b.toNat :=
  (ofP_bit _ _ _ fun k _ => by
    rw [List.any_append]; congr 1
    simp only [List.any_cons, List.any_nil, Bool.or_false]
    rw [Bool.eq_iff_iff]; simp only [beq_iff_eq, decide_eq_true_eq]; exact eq_comm).symm
theorem ofList_take (l : List UInt8) (k : Nat) (h : k < l.length) : ofList (l.take (k + 1)) = ofList (l.take k) ||| bit (l[k].toNat) := by
  rw [← ofList_snoc, List.take_succ_eq_append_getElem h]

set_option maxRecDepth 100000 in
set_option maxHeartbeats 1000000 in
theorem of_some (l : List UInt8) (b off cap : Nat) (w : World) (hn : l.length ≤ 9223372036854775807) (hb : l.length ≠ 0 → b < w.heap.size) (hc : ∀ (k : Nat) (x : UInt8), l[k]? = some x → w.cell? ⟨b, off + k, none⟩ = some (vB x)) :
    Calls Tryd.prog 19 #[.slice (some ⟨b, off, none⟩) l.length cap] w fun e w' => e = .returned (.agg #[.int .u64 (wd (ofList l) 0), .int .u64 (wd (ofList l) 1), .int .u64 (wd (ofList l) 2), .int .u64 (wd (ofList l) 3)]) ∧ Gr w w' := by
  go_enter Tryd.func19, Tryd.ntmps19
  go_wp2
  go_loopw [8] (fun i wr => ∃ (k : Nat) (S : BitVec 256), k ≤ l.length ∧ S = ofList (l.take k) ∧ i = .int .i64 k ∧ wr = ((w.alloc (.cells #[.int .u64 0, .int .u64 0, .int .u64 0, .int .u64 0] 29)).alloc (.cells #[.int .u64 (wd S 0), .int .u64 (wd S 1), .int .u64 (wd S 2), .int .u64 (wd S 3)] 29))) (fun i _ => l.length - (intOf i).toNat)
  case atStart => exact ⟨0, emptyS, by omega, by rw [List.take_zero, ofList_nil], rfl, by simp only [wd_zero]⟩
  case round =>
    obtain ⟨k, S, hk, hS, rfl, rfl⟩ := hrel
    have HS := Lib.hid hS
    clear hS
    by_cases hlt : k < l.length
    · have hcell : w.cell? ⟨b, off + k, none⟩ = some (.int .u8 (l[k].toNat : Int)) := hc k l[k] (List.getElem?_eq_getElem hlt)
      have hbl : b < w.heap.size := hb (by omega)
      have fin : S ||| bit (l[k].toNat) = ofList (l.take (k + 1)) := by rw [HS.out, ofList_take l k hlt]
      have hx := l[k].toNat_lt
      obtain ⟨x, ex⟩ : ∃ x : Nat, x = l[k].toNat := ⟨_, rfl⟩
      rw [← ex] at hcell fin hx
      clear ex hc
      obtain ⟨q, r, hr, hq, hqr⟩ : ∃ q r : Nat, r < 64 ∧ (q = 0 ∨ q = 1 ∨ q = 2 ∨ q = 3) ∧ x = 64 * q + r := ⟨x / 64, x % 64, by omega, by omega, by omega⟩
      have E := fun i (hi : i = x / 64) => wd_setBit S x i r (by omega) (by omega) hi
      have D := fun i (hi : i ≠ x / 64) => wd_setBit_other S x i hi
      have hm : (x : Int) % 64 = r := by omega
      have FIN := Lib.hid fin
      have HE := Lib.hid E
      have HD := Lib.hid D
      have hwr := pow_wrap r hr
      clear fin E D
      rcases hq with rfl | rfl | rfl | rfl
      · have hd : (x : Int) / 64 = 0 := by omega
        have hd2 : x / 64 = 0 := by omega
        clear hqr
        go_wp2
        have e0 := HE.out 0 (by omega)
        simp only [hwr, e0]
        go_roundw
        case rel =>
          have Hd := HD.out
          refine ⟨k + 1, S ||| bit x, by omega, FIN.out, by go_num, ?_⟩
          rw [Hd 1 (by omega), Hd 2 (by omega), Hd 3 (by omega)]
        case measure => simp [intOf]; omega
      · have hd : (x : Int) / 64 = 1 := by omega
        have hd2 : x / 64 = 1 := by omega
        clear hqr
        go_wp2
        have e1 := HE.out 1 (by omega)
        simp only [hwr, e1]
        go_roundw
        case rel =>
          have Hd := HD.out
          refine ⟨k + 1, S ||| bit x, by omega, FIN.out, by go_num, ?_⟩
          rw [Hd 0 (by omega), Hd 2 (by omega), Hd 3 (by omega)]
        case measure => simp [intOf]; omega
      · have hd : (x : Int) / 64 = 2 := by omega
        have hd2 : x / 64 = 2 := by omega
        clear hqr
        go_wp2
        have e2 := HE.out 2 (by omega)
        simp only [hwr, e2]
        go_roundw
        case rel =>
          have Hd := HD.out
          refine ⟨k + 1, S ||| bit x, by omega, FIN.out, by go_num, ?_⟩
          rw [Hd 0 (by omega), Hd 1 (by omega), Hd 3 (by omega)]
        case measure => simp [intOf]; omega
      · have hd : (x : Int) / 64 = 3 := by omega
        have hd2 : x / 64 = 3 := by omega
        clear hqr
        go_wp2
        have e3 := HE.out 3 (by omega)
        simp only [hwr, e3]
        go_roundw
        case rel =>
          have Hd := HD.out
          refine ⟨k + 1, S ||| bit x, by omega, FIN.out, by go_num, ?_⟩
          rw [Hd 0 (by omega), Hd 1 (by omega), Hd 2 (by omega)]
        case measure => simp [intOf]; omega
    · obtain rfl : k = l.length := by omega
      obtain rfl : S = ofList l := by rw [HS.out, List.take_length]
      clear HS
      go_wp2
      refine bodyPost_ret (v := .agg #[.int .u64 (wd (ofList l) 0), .int .u64 (wd (ofList l) 1), .int .u64 (wd (ofList l) 2), .int .u64 (wd (ofList l) 3)]) (by simp [results, Tryd.results19, go_sem]) rfl ⟨rfl, ?_⟩
      exact ((Below.refl _ _).alloc (Nat.le_refl _) _).alloc (by simp) _

set_option maxRecDepth 100000 in
theorem of_any (l : List UInt8) (v : Value) (w : World) (h : Sl w v 1 l.length (l.map vB)) :
    Calls Tryd.prog 19 #[v] w fun e w' => e = .returned (.agg #[.int .u64 (wd (ofList l) 0), .int .u64 (wd (ofList l) 1), .int .u64 (wd (ofList l) 2), .int .u64 (wd (ofList l) 3)]) ∧ Gr w w' := by
  obtain ⟨_, hn, h⟩ := h
  unfold maxLen at hn
  rcases h with ⟨⟨p0, c0, rfl⟩, h0⟩ | ⟨b, off, cap, rfl, hb, hc⟩
  · obtain rfl := List.eq_nil_of_length_eq_zero h0
    go_enter Tryd.func19, Tryd.ntmps19
    go_wp2
    refine wp_loop_rounds 1 ?_
    rw [rounds_succ]
    go_wp2
    refine bodyPost_ret (v := .agg #[.int .u64 (wd (ofList []) 0), .int .u64 (wd (ofList []) 1), .int .u64 (wd (ofList []) 2), .int .u64 (wd (ofList []) 3)]) (by simp [results, Tryd.results19, go_sem, ofList_nil, wd_zero]) rfl ⟨rfl, ?_⟩
    exact ((Below.refl _ _).alloc (Nat.le_refl _) _).alloc (by simp) _
  · exact of_some l b off cap w hn hb (fun k x hx => hc k _ (by rw [List.getElem?_map, hx]; rfl))

end Go.Proofs.YtihjmeoklbmnmaaDoor

/- Strings as lists of bytes. Plain; no condition. -/
namespace Go.Proofs.YtihjmeoklbmnmaaDoor
open Go

/-- The string of a list of bytes. -/
def st (l : List UInt8) : ByteArray := ⟨l.toArray⟩
theorem st_of (s : ByteArray) : s = st s.data.toList := by cases s; simp [st]
theorem st_size (l : List UInt8) : (st l).size = l.length := by simp [st, ByteArray.size]
theorem st_list (l : List UInt8) : (st l).toList = l := ByteArray.toList_mk l
theorem st_data (l : List UInt8) : (st l).data.toList = l := by simp [st]
theorem st_append (a b : List UInt8) : st a ++ st b = st (a ++ b) := ByteArray.mk_append_mk a b
theorem st_extract (l : List UInt8) (a b : Nat) : (st l).extract a b = st ((l.drop a).take (b - a)) := ByteArray.extract_mk l a b
theorem st_from (l : List UInt8) (a : Nat) (h : a ≤ l.length) : (st l).extract a l.length = st (l.drop a) := by
  rw [st_extract, List.take_of_length_le (by rw [List.length_drop]; omega)]
theorem st_get (l : List UInt8) (n : Nat) (h : n < (st l).size) : (st l)[n]'h = l[n]'(by rw [st_size] at h; exact h) := by
  simp [st, ByteArray.getElem_eq_getElem_data]
theorem st_inj {a b : List UInt8} (h : st a = st b) : a = b := by
  have := congrArg (fun s => s.data.toList) h
  simpa [st_data] using this
theorem st_beq (a b : List UInt8) : ((st a).toList == (st b).toList) = (a == b) := by rw [st_list, st_list]
/-- A byte of a string. -/
theorem run_at {P : Program} (w : World) (t : TypeId) (l : List UInt8) (i : Nat) (b : UInt8) (k : IntKind) (ht : P.underlying t = some .string) (hb : l[i]? = some b) :
    (Instr.index t (.string (st l)) (.int k (i : Int))).run P w = .ok (.int .u8 (b.toNat : Int)) w := by
  obtain ⟨hl, rfl⟩ := List.getElem?_eq_some_iff.1 hb
  rw [run_index_string w t (st l) k i ht, dif_pos (by rw [st_size]; omega)]
  congr 2
/-- A string from a place on. -/
theorem run_from {P : Program} (w : World) (t : TypeId) (l : List UInt8) (i : Nat) (k : IntKind) (ht : P.underlying t = some .string) (h : i ≤ l.length) :
    (Instr.slice t (.string (st l)) (some (.int k (i : Int))) none none).run P w = .ok (.string (st (l.drop i))) w := by
  rw [run_slice_string_from_if w t (st l) k i ht, if_pos (by rw [st_size]; omega), st_size, Int.toNat_natCast, st_from l i h]
theorem run_cat {P : Program} (w : World) (a b : List UInt8) (h : a.length + b.length ≤ 9223372036854775807) :
    (Op.stringOp .add (st a) (st b)).run P w = .ok (.string (st (a ++ b))) w := by
  rw [run_string_add_sum w _ _ (by rw [st_size, st_size]; exact h), st_append]

theorem fold_push : ∀ (l : List UInt8) (s : List UInt8), (l.map fun b => (b.toNat : Int)).foldl (fun r n => r.push (UInt8.ofNat n.toNat)) (st s) = st (s ++ l)
  | [], s => by simp
  | b :: l, s => by
    rw [List.map_cons, List.foldl_cons]
    have : (st s).push (UInt8.ofNat ((b.toNat : Int)).toNat) = st (s ++ [b]) := by
      rw [Int.toNat_natCast, UInt8.ofNat_toNat]
      apply ByteArray.ext
      simp [st, ByteArray.push]
    rw [this, fold_push l, List.append_assoc]; rfl
/-- Bytes turned to a string. -/
theorem conv_bytes {P : Program} (w : World) (src dst e : TypeId) (a : Addr) (c n : Nat) (l : List UInt8) (hs : P.underlying src = some (.slice e)) (he : P.underlying e = some (.int .u8)) (hd : P.underlying dst = some .string) (hn : l.length = n)
    (h : ∀ j v, (l.map vB)[j]? = some v → w.cell? (a.add j) = some v) : (convert src dst (.slice (some a) n c)).run P w = .ok (.string (st l)) w := by
  subst hn
  rw [run_convert_bytes_string w src dst e (some a) _ c hs he hd]
  have h2 : (loadCells a l.length).run P w = .ok ((l.map fun b => (b.toNat : Int)).map (Value.int .u8)).toArray w := by
    have := run_loadCells_list (P := P) w a (l.map vB) h
    rw [List.length_map] at this
    rw [this, List.map_map]; rfl
  rw [run_bytesToString w a _ c _ h2]
  have := fold_push l []
  rw [List.nil_append] at this
  exact congrArg (fun x => Result.ok (Value.string x) w) this
theorem conv_none {P : Program} (w : World) (src dst e : TypeId) (c : Nat) (hs : P.underlying src = some (.slice e)) (he : P.underlying e = some (.int .u8)) (hd : P.underlying dst = some .string) :
    (convert src dst (.slice none 0 c)).run P w = .ok (.string (st [])) w := by
  rw [run_convert_bytes_string w src dst e none _ c hs he hd]
  simp [Conv.bytesToString, st]; rfl

end Go.Proofs.YtihjmeoklbmnmaaDoor

/- OfSpans. No condition. -/
namespace Go.Proofs.YtihjmeoklbmnmaaDoor
open Go Go.RowKit

abbrev Sp := UInt8 × UInt8
def spCells (p : Sp) : List Value := [vB p.1, vB p.2]
def spsCells (l : List Sp) : List Value := l.flatMap spCells
theorem spCells_len (p : Sp) : (spCells p).length = 2 := rfl

/-- All bytes of these spans. -/
def ofSpans : List Sp → BitVec 256
  | [] => emptyS
  | p :: l => rangeSet p.1.toNat p.2.toNat ||| ofSpans l
theorem or_emptyS (s : BitVec 256) : s ||| emptyS = s := by unfold emptyS; simp
theorem emptyS_or (s : BitVec 256) : emptyS ||| s = s := by unfold emptyS; simp
theorem ofSpans_append : ∀ (l m : List Sp), ofSpans (l ++ m) = ofSpans l ||| ofSpans m
  | [], m => by simp [ofSpans, emptyS_or]
  | p :: l, m => by simp only [List.cons_append, ofSpans, ofSpans_append l m, BitVec.or_assoc]
theorem ofSpans_take (l : List Sp) (k : Nat) (h : k < l.length) : ofSpans (l.take (k + 1)) = ofSpans (l.take k) ||| rangeSet l[k].1.toNat l[k].2.toNat := by
  rw [List.take_succ_eq_append_getElem h, ofSpans_append]; simp only [ofSpans, or_emptyS]

set_option maxRecDepth 100000 in
set_option maxHeartbeats 1000000 in
theorem ofSpans_some (l : List Sp) (b off cap : Nat) (w : World) (hn : l.length ≤ 9223372036854775807) (hb : l.length ≠ 0 → b < w.heap.size)
    (hc : ∀ (k : Nat) (x : Sp), l[k]? = some x → w.cell? ⟨b, off + k * 2, none⟩ = some (vB x.1) ∧ w.cell? ⟨b, off + k * 2 + 1, none⟩ = some (vB x.2)) :
    Calls Tryd.prog 76 #[.slice (some ⟨b, off, none⟩) l.length cap] w fun e w' => e = .returned (.agg #[.int .u64 (wd (ofSpans l) 0), .int .u64 (wd (ofSpans l) 1), .int .u64 (wd (ofSpans l) 2), .int .u64 (wd (ofSpans l) 3)]) ∧ Gr w w' := by
  go_enter Tryd.func76, Tryd.ntmps76
  go_wp2
  go_loopw [8] (fun i wr => ∃ (k : Nat) (S : BitVec 256), k ≤ l.length ∧ S = ofSpans (l.take k) ∧ i = .int .i64 k ∧ w.heap.size + 2 ≤ wr.heap.size ∧ Gr w wr ∧ boxAt wr (w.heap.size) [.int .u64 0, .int .u64 0, .int .u64 0, .int .u64 0] ∧ boxAt wr (w.heap.size + 1) [.int .u64 (wd S 0), .int .u64 (wd S 1), .int .u64 (wd S 2), .int .u64 (wd S 3)]) (fun i _ => l.length - (intOf i).toNat)
  case atStart =>
    refine ⟨0, emptyS, by omega, rfl, rfl, by simp, ((Below.refl _ _).alloc (Nat.le_refl _) _).alloc (by simp) _, ?_, ?_⟩
    · exact boxAt.later (boxAt.new _ _ rfl) (Gr.alloc _ _)
    · simp only [wd_zero]
      have := boxAt.new (w := w.alloc (.cells #[.int .u64 0, .int .u64 0, .int .u64 0, .int .u64 0] 29)) [.int .u64 0, .int .u64 0, .int .u64 0, .int .u64 0] 29 rfl
      simpa using this
  case round =>
    obtain ⟨k, S, hk, hS, rfl, hz, hg, hr, hs⟩ := hrel
    have HS := Lib.hid hS
    clear hS
    by_cases hlt : k < l.length
    · have hcell := hc k l[k] (List.getElem?_eq_getElem hlt)
      have hbl : b < w.heap.size := hb (by omega)
      have fin : S ||| rangeSet l[k].1.toNat l[k].2.toNat = ofSpans (l.take (k + 1)) := by rw [HS.out, ofSpans_take l k hlt]
      have c1 := (hg.cell hcell.1)
      have c2 := (hg.cell hcell.2)
      clear hcell
      have hx := l[k].1.toNat_lt
      have hy := l[k].2.toNat_lt
      unfold vB at c1 c2
      obtain ⟨x, ex⟩ : ∃ x : Nat, x = l[k].1.toNat := ⟨_, rfl⟩
      obtain ⟨y, ey⟩ : ∃ x : Nat, x = l[k].2.toNat := ⟨_, rfl⟩
      rw [← ex] at c1 fin hx
      rw [← ey] at c2 fin hy
      clear ex ey hc
      go_wp2
      refine name_world (fun W hW => ?_)
      have hxb : boxAt W wr.heap.size [.int .u8 x, .int .u8 y] := by
        subst hW
        intro j u hj
        match j, hj with
        | 0, hj => simp at hj; subst hj; constructor <;> go_simp
        | 1, hj => simp at hj; subst hj; constructor <;> go_simp
      have hgW : Gr wr W := by subst hW; exact Gr.alloc _ _
      have hz1 : w.heap.size + 1 < W.heap.size := by subst hW; simp; omega
      have hz2 : wr.heap.size < W.heap.size := by subst hW; simp
      clear hW
      have hsW := hs.later hgW
      have c_s0 := hsW.cell 0 _ rfl
      have c_s1 := hsW.cell 1 _ rfl
      have c_s2 := hsW.cell 2 _ rfl
      have c_s3 := hsW.cell 3 _ rfl
      have m_s0 := hsW.mark 0 _ rfl
      have m_s1 := hsW.mark 1 _ rfl
      have m_s2 := hsW.mark 2 _ rfl
      have m_s3 := hsW.mark 3 _ rfl
      have l_s := hsW.lt (Nat.succ_pos _)
      have c_x0 := hxb.cell 0 _ rfl
      have c_x1 := hxb.cell 1 _ rfl
      have m_x0 := hxb.mark 0 _ rfl
      have m_x1 := hxb.mark 1 _ rfl
      have l_x := hxb.lt (Nat.succ_pos _)
      clear hsW hxb
      have HF := Lib.hid fin
      clear fin c1 c2 hb
      refine wp_region_G (.take 0 (.take 1 (.take 2 (.take 3 (.take 4 (.run 5 false (.run 6 false (.run 7 true .nil)))))))) (by kernel_rfl) (by kernel_rfl) ?_
      simp only [pickOps, nthOp]
      intro wq hG
      repeat (first | (refine wpG_skip_take ?_ ?_; (focus rfl); try simp only [Act.put, List.setIfInBounds_toArray, List.set_cons_zero, List.set_cons_succ]) | (refine wpG_skip_run ?_ ?_; (focus rfl); try simp only [Act.put, List.setIfInBounds_toArray, List.set_cons_zero, List.set_cons_succ]) | (refine wpG_take ?_ ?_; (focus rfl); apply Exists.intro; refine ⟨fun w' hw' => ?_, ?_⟩; (focus (have hc := Gr.cells hw'; go_simp; (try rfl); done)); try simp only [Act.put, List.setIfInBounds_toArray, List.set_cons_zero, List.set_cons_succ]) | (refine wpG_run ?_ (fun K hK => ?_); (focus rfl); go_simp; (first | (go_at_call 68; refine (range_any x y _ (by omega) (by omega)).mono ?_; rintro e w' ⟨rfl, hb⟩) | (go_at_call 15; refine (union_any _ _ _).mono ?_; rintro e w' ⟨rfl, hb⟩)); (try dsimp only); replace hG := hG.trans hb; refine hK.out _ _ hG ?_; clear hK K hb; try simp only [Act.put, List.setIfInBounds_toArray, List.set_cons_zero, List.set_cons_succ]))
      rename_i w2
      refine wpG_last ?_ (fun K hK => ?_); (focus rfl)
      have hc := hG.cells
      have hm := hG.marks
      go_simp
      refine hK.out _ _ ?_
      try simp only [Act.put, List.setIfInBounds_toArray, List.set_cons_zero, List.set_cons_succ]
      clear hK K hc hm
      refine wpG_done ?_
      go_wp2
      go_roundw
      case rel =>
        refine ⟨k + 1, S ||| rangeSet x y, by omega, HF.out, by go_num, ?_, ?_, ?_, ?_⟩
        · rw [size_put4]; have := hG.size; omega
        · exact Below.put4 ((hg.trans hgW).trans hG) (by omega) _ _ _ _
        · exact ((hr.later hgW).later hG).far4 (by omega) _ _ _ _
        · exact ((hs.later hgW).later hG).put4 _ _ _ _
      case measure => simp [intOf]; omega
    · obtain rfl : k = l.length := by omega
      obtain rfl : S = ofSpans l := by rw [HS.out, List.take_length]
      clear HS
      have c_s0 := hs.cell 0 _ rfl
      have c_s1 := hs.cell 1 _ rfl
      have c_s2 := hs.cell 2 _ rfl
      have c_s3 := hs.cell 3 _ rfl
      have m_s0 := hs.mark 0 _ rfl
      have m_s1 := hs.mark 1 _ rfl
      have m_s2 := hs.mark 2 _ rfl
      have m_s3 := hs.mark 3 _ rfl
      have l_s := hs.lt (Nat.succ_pos _)
      have c_r0 := hr.cell 0 _ rfl
      have c_r1 := hr.cell 1 _ rfl
      have c_r2 := hr.cell 2 _ rfl
      have c_r3 := hr.cell 3 _ rfl
      have m_r0 := hr.mark 0 _ rfl
      have m_r1 := hr.mark 1 _ rfl
      have m_r2 := hr.mark 2 _ rfl
      have m_r3 := hr.mark 3 _ rfl
      have l_r := hr.lt (Nat.succ_pos _)
      go_wp2
      refine bodyPost_ret (v := .agg #[.int .u64 (wd (ofSpans l) 0), .int .u64 (wd (ofSpans l) 1), .int .u64 (wd (ofSpans l) 2), .int .u64 (wd (ofSpans l) 3)]) (by simp [results, Tryd.results76, go_sem, c_r0, c_r1, c_r2, c_r3]) rfl ⟨rfl, ?_⟩
      exact Below.put4 hg (by omega) _ _ _ _

theorem spsCells_get (l : List Sp) (k : Nat) (x : Sp) (h : l[k]? = some x) : (spsCells l)[k * 2]? = some (vB x.1) ∧ (spsCells l)[k * 2 + 1]? = some (vB x.2) := by
  have h0 := flatMap_get spCells 2 spCells_len l k 0 x h (by omega)
  have h1 := flatMap_get spCells 2 spCells_len l k 1 x h (by omega)
  exact ⟨h0, h1⟩
set_option maxRecDepth 100000 in
theorem ofSpans_any (l : List Sp) (v : Value) (w : World) (h : Sl w v 2 l.length (spsCells l)) :
    Calls Tryd.prog 76 #[v] w fun e w' => e = .returned (.agg #[.int .u64 (wd (ofSpans l) 0), .int .u64 (wd (ofSpans l) 1), .int .u64 (wd (ofSpans l) 2), .int .u64 (wd (ofSpans l) 3)]) ∧ Gr w w' := by
  obtain ⟨_, hn, h⟩ := h
  unfold maxLen at hn
  rcases h with ⟨⟨p0, c0, rfl⟩, h0⟩ | ⟨b, off, cap, rfl, hb, hc⟩
  · obtain rfl := List.eq_nil_of_length_eq_zero h0
    go_enter Tryd.func76, Tryd.ntmps76
    go_wp2
    refine wp_loop_rounds 1 ?_
    rw [rounds_succ]
    go_wp2
    refine bodyPost_ret (v := .agg #[.int .u64 (wd (ofSpans []) 0), .int .u64 (wd (ofSpans []) 1), .int .u64 (wd (ofSpans []) 2), .int .u64 (wd (ofSpans []) 3)]) (by simp [results, Tryd.results76, go_sem, ofSpans, wd_zero]) rfl ⟨rfl, ?_⟩
    exact ((Below.refl _ _).alloc (Nat.le_refl _) _).alloc (by simp) _
  · exact ofSpans_some l b off cap w hn hb (fun k x hx => by
      have := spsCells_get l k x hx
      exact ⟨hc _ _ this.1, by rw [Nat.add_assoc]; exact hc _ _ this.2⟩)

end Go.Proofs.YtihjmeoklbmnmaaDoor

/- The longest rows of neighbours of a rising list of bytes. Plain; no condition. -/
namespace Go.Proofs.YtihjmeoklbmnmaaDoor
open Go

/-- acc: the longest rows of neighbours of the rising list l, built up byte by byte. -/
inductive Runs : List Sp → List UInt8 → Prop
  | nil : Runs [] []
  | new (acc : List Sp) (l : List UInt8) (b : UInt8) : Runs acc l → (∀ p, acc.getLast? = some p → p.2.toNat + 2 ≤ b.toNat) → Runs (acc ++ [(b, b)]) (l ++ [b])
  | ext (acc : List Sp) (p : Sp) (l : List UInt8) (b : UInt8) : Runs (acc ++ [p]) l → p.2.toNat + 1 = b.toNat → Runs (acc ++ [(p.1, b)]) (l ++ [b])

theorem Runs.mem {acc : List Sp} {l : List UInt8} (h : Runs acc l) : ∀ p ∈ acc, p.1.toNat ≤ p.2.toNat ∧ p.2 ∈ l := by
  induction h with
  | nil => simp
  | new acc l b _ _ ih =>
    intro p hp
    rcases List.mem_append.1 hp with hp | hp
    · exact ⟨(ih p hp).1, List.mem_append_left _ (ih p hp).2⟩
    · simp at hp; subst hp; simp
  | ext acc q l b _ hq ih =>
    intro p hp
    rcases List.mem_append.1 hp with hp | hp
    · exact ⟨(ih p (List.mem_append_left _ hp)).1, List.mem_append_left _ (ih p (List.mem_append_left _ hp)).2⟩
    · simp at hp; subst hp
      have := (ih q (by simp)).1
      refine ⟨by simp only; omega, by simp⟩
theorem Runs.gap {acc : List Sp} {l : List UInt8} (h : Runs acc l) : ∀ i p q, acc[i]? = some p → acc[i + 1]? = some q → p.2.toNat + 2 ≤ q.1.toNat := by
  induction h with
  | nil => intro i p q h; simp at h
  | new acc l b _ hl ih =>
    intro i p q h1 h2
    rcases Nat.lt_trichotomy (i + 1) acc.length with h | h | h
    · rw [List.getElem?_append_left (by omega)] at h1 h2
      exact ih i p q h1 h2
    · rw [List.getElem?_append_left (by omega)] at h1
      rw [List.getElem?_append_right (by omega), h, Nat.sub_self] at h2
      simp at h2; subst h2
      refine hl p ?_
      rw [List.getLast?_eq_getElem?, ← h1]; congr 1; omega
    · rw [List.getElem?_append_right (by omega)] at h2
      have : i + 1 - acc.length ≠ 0 := by omega
      obtain ⟨k, hk⟩ := Nat.exists_eq_succ_of_ne_zero this
      rw [hk] at h2; simp at h2
  | ext acc q0 l b _ hq ih =>
    intro i p q h1 h2
    rcases Nat.lt_trichotomy (i + 1) acc.length with h | h | h
    · rw [List.getElem?_append_left (by omega)] at h1 h2
      exact ih i p q (by rw [List.getElem?_append_left (by omega)]; exact h1) (by rw [List.getElem?_append_left (by omega)]; exact h2)
    · rw [List.getElem?_append_left (by omega)] at h1
      rw [List.getElem?_append_right (by omega), h, Nat.sub_self] at h2
      simp at h2; subst h2
      exact ih i p q0 (by rw [List.getElem?_append_left (by omega)]; exact h1) (by rw [List.getElem?_append_right (by omega), h, Nat.sub_self]; rfl)
    · rw [List.getElem?_append_right (by omega)] at h2
      have : i + 1 - acc.length ≠ 0 := by omega
      obtain ⟨k, hk⟩ := Nat.exists_eq_succ_of_ne_zero this
      rw [hk] at h2; simp at h2
/-- How many bytes the spans have together. -/
def spanSum : List Sp → Nat
  | [] => 0
  | p :: l => (p.2.toNat - p.1.toNat + 1) + spanSum l
theorem spanSum_append (a b : List Sp) : spanSum (a ++ b) = spanSum a + spanSum b := by
  induction a with
  | nil => simp [spanSum]
  | cons p a ih => rw [List.cons_append, spanSum, ih, spanSum]; omega
theorem Runs.sum {acc : List Sp} {l : List UInt8} (h : Runs acc l) : spanSum acc = l.length := by
  induction h with
  | nil => rfl
  | new acc l b _ _ ih => rw [spanSum_append, ih]; simp [spanSum]
  | ext acc q l b hr hq ih =>
    have := (hr.mem q (by simp)).1
    rw [spanSum_append] at ih ⊢
    simp only [spanSum, List.length_append, List.length_cons, List.length_nil] at ih ⊢
    omega
theorem range_snoc (lo hi b : Nat) (h : lo ≤ hi) (hb : hi + 1 = b) : rangeSet lo b = rangeSet lo hi ||| bit b :=
  set_ext _ _ fun k hk => by
    simp only [BitVec.getLsbD_or, getLsbD_rangeSet, getLsbD_bit]
    rw [Bool.eq_iff_iff]; simp [hk]; omega
theorem range_one (b : Nat) : rangeSet b b = bit b :=
  set_ext _ _ fun k hk => by
    simp only [getLsbD_rangeSet, getLsbD_bit]
    rw [Bool.eq_iff_iff]; simp [hk]; omega
theorem Runs.set {acc : List Sp} {l : List UInt8} (h : Runs acc l) : ofSpans acc = ofList l := by
  induction h with
  | nil => exact ofList_nil.symm
  | new acc l b _ _ ih => rw [ofSpans_append, ih, ofList_snoc]; simp only [ofSpans, or_emptyS, range_one]
  | ext acc q l b hr hq ih =>
    have := (hr.mem q (by simp)).1
    rw [ofSpans_append] at ih ⊢
    rw [ofList_snoc, ← ih]
    simp only [ofSpans, or_emptyS]
    rw [range_snoc _ _ _ this hq, BitVec.or_assoc]
theorem Runs.len {acc : List Sp} {l : List UInt8} (h : Runs acc l) : acc.length ≤ l.length := by
  induction h with
  | nil => simp
  | new acc l b _ _ ih => simp; omega
  | ext acc q l b _ _ ih => simp at ih ⊢; omega

end Go.Proofs.YtihjmeoklbmnmaaDoor
