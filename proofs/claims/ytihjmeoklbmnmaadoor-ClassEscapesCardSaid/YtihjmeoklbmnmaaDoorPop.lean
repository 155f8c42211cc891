/- How many bits of 64 are set: the sum by halves that math/bits uses. Plain arithmetic; no condition. -/
import Derived.Laws.Entries
import Derived.Laws.Bits64
import Derived.Laws.Bits64b
import Derived.Laws.BitsLemmas
import Derived.WalkArith
namespace Go.Proofs.YtihjmeoklbmnmaaDoor
open Go

/-- How many k below n there are of which p says yes. -/
def cardN (p : Nat → Bool) : Nat → Nat
  | 0 => 0
  | n + 1 => cardN p n + (p n).toNat

theorem cardN_le (p : Nat → Bool) (n : Nat) : cardN p n ≤ n := by
  induction n with
  | zero => exact Nat.le_refl _
  | succ n ih => unfold cardN; cases p n <;> simp <;> omega
theorem cardN_congr (p q : Nat → Bool) (n : Nat) (h : ∀ k, k < n → p k = q k) : cardN p n = cardN q n := by
  induction n with
  | zero => rfl
  | succ n ih => unfold cardN; rw [h n (by omega), ih (fun k hk => h k (by omega))]
theorem cardN_add (p : Nat → Bool) (m n : Nat) : cardN p (m + n) = cardN p m + cardN (fun k => p (m + k)) n := by
  induction n with
  | zero => rfl
  | succ n ih => show cardN p (m + n) + (p (m + n)).toNat = cardN p m + (cardN (fun k => p (m + k)) n + (p (m + n)).toNat); rw [ih]; omega

/-- A number out of its bytes, the least first. -/
def val : List Nat → Nat
  | [] => 0
  | b :: l => val l * 256 + b
def small (l : List Nat) : Prop := ∀ b ∈ l, b < 256

theorem and_split (a b c d : Nat) (hb : b < 256) (hd : d < 256) : (a * 256 + b) &&& (c * 256 + d) = (a &&& c) * 256 + (b &&& d) := by
  have h1 : ((a * 256 + b) &&& (c * 256 + d)) / 2 ^ 8 = a &&& c := by
    rw [Nat.and_div_two_pow]; congr 1 <;> omega
  have h2 : ((a * 256 + b) &&& (c * 256 + d)) % 2 ^ 8 = b &&& d := by
    rw [Nat.and_mod_two_pow]; congr 1 <;> omega
  have h3 := Nat.div_add_mod ((a * 256 + b) &&& (c * 256 + d)) (2 ^ 8)
  rw [h1, h2] at h3
  omega

def rep (m : Nat) : Nat → Nat
  | 0 => 0
  | n + 1 => rep m n * 256 + m

theorem and_rep (m : Nat) (hm : m < 256) : ∀ l, small l → val l &&& rep m l.length = val (l.map (· &&& m))
  | [], _ => by simp [val, rep]
  | b :: l, h => by
    have hb : b < 256 := h b (by simp)
    rw [List.length_cons, rep, val, and_split _ _ _ _ hb hm, and_rep m hm l (fun x hx => h x (by simp [hx]))]
    rfl

theorem half_bits : ∀ p : Fin 2, ∀ b : Fin 256, ((p.val * 128 + b.val / 2) &&& 85) = ((b.val / 2) &&& 85) := by decide +kernel
theorem quart_bits : ∀ p : Fin 4, ∀ b : Fin 256, ((p.val * 64 + b.val / 4) &&& 51) = ((b.val / 4) &&& 51) := by decide +kernel

theorem half_rep : ∀ l, small l → val l / 2 &&& rep 85 l.length = val (l.map fun b => (b / 2) &&& 85)
  | [], _ => by simp [val, rep]
  | b :: l, h => by
    have hb : b < 256 := h b (by simp)
    have e : (val l * 256 + b) / 2 = val l / 2 * 256 + (val l % 2 * 128 + b / 2) := by omega
    rw [List.length_cons, rep, val, e, and_split _ _ _ _ (by omega) (by decide), half_rep l (fun x hx => h x (by simp [hx]))]
    have := half_bits ⟨val l % 2, by omega⟩ ⟨b, hb⟩
    simp only at this
    rw [this]; rfl
theorem quart_rep : ∀ l, small l → val l / 4 &&& rep 51 l.length = val (l.map fun b => (b / 4) &&& 51)
  | [], _ => by simp [val, rep]
  | b :: l, h => by
    have hb : b < 256 := h b (by simp)
    have e : (val l * 256 + b) / 4 = val l / 4 * 256 + (val l % 4 * 64 + b / 4) := by omega
    rw [List.length_cons, rep, val, e, and_split _ _ _ _ (by omega) (by decide), quart_rep l (fun x hx => h x (by simp [hx]))]
    have := quart_bits ⟨val l % 4, by omega⟩ ⟨b, hb⟩
    simp only at this
    rw [this]; rfl

theorem val_add : ∀ (l : List Nat) (f g : Nat → Nat), val (l.map f) + val (l.map g) = val (l.map fun b => f b + g b)
  | [], _, _ => rfl
  | b :: l, f, g => by simp only [List.map_cons, val]; rw [← val_add l f g]; omega

def fA (b : Nat) : Nat := ((b / 2) &&& 85) + (b &&& 85)
def fB (b : Nat) : Nat := ((b / 4) &&& 51) + (b &&& 51)
def fC (b : Nat) : Nat := (b / 16 + b) &&& 15
def pc8 (b : Nat) : Nat := b % 2 + b / 2 % 2 + b / 4 % 2 + b / 8 % 2 + b / 16 % 2 + b / 32 % 2 + b / 64 % 2 + b / 128 % 2

theorem byte_facts : ∀ b : Fin 256, fA b.val < 256 ∧ fB (fA b.val) < 256 ∧ fB (fA b.val) % 16 ≤ 4 ∧ fB (fA b.val) / 16 ≤ 4 ∧ fC (fB (fA b.val)) = pc8 b.val ∧ pc8 b.val ≤ 8 := by decide +kernel

theorem nib_bits : ∀ p : Fin 5, ∀ b : Fin 256, b.val / 16 ≤ 4 → ((p.val * 16 + b.val / 16 + b.val) &&& 15) = ((b.val / 16 + b.val) &&& 15) := by decide +kernel

def nib (l : List Nat) : Prop := ∀ b ∈ l, b < 256 ∧ b % 16 ≤ 4 ∧ b / 16 ≤ 4
theorem val_mod16 : ∀ l, nib l → val l % 16 ≤ 4
  | [], _ => by simp [val]
  | b :: l, h => by have := h b (by simp); unfold val; omega
theorem nib_rep : ∀ l, nib l → (val l / 16 + val l) &&& rep 15 l.length = val (l.map fC)
  | [], _ => by simp [val, rep]
  | b :: l, h => by
    obtain ⟨hb, h1, h2⟩ := h b (by simp)
    have hl : nib l := fun x hx => h x (by simp [hx])
    have hm := val_mod16 l hl
    have e : (val l * 256 + b) / 16 + (val l * 256 + b) = (val l / 16 + val l) * 256 + (val l % 16 * 16 + b / 16 + b) := by omega
    rw [List.length_cons, rep, val, e, and_split _ _ _ _ (by omega) (by decide), nib_rep l hl]
    have := nib_bits ⟨val l % 16, by omega⟩ ⟨b, hb⟩ h2
    simp only at this
    rw [this]; rfl

/-- The whole sum, of eight bytes. -/
theorem swar (l : List Nat) (hl : l.length = 8) (hs : small l) :
    let y1 := (val l / 2 &&& 6148914691236517205) + (val l &&& 6148914691236517205)
    let y2 := (y1 / 4 &&& 3689348814741910323) + (y1 &&& 3689348814741910323)
    let y3 := (y2 / 16 + y2) &&& 1085102592571150095
    y1 = val (l.map fA) ∧ y2 = val ((l.map fA).map fB) ∧ y3 = val (l.map pc8) := by
  have r0 : (6148914691236517205 : Nat) = rep 85 l.length := by rw [hl]; decide
  have r1 : (3689348814741910323 : Nat) = rep 51 l.length := by rw [hl]; decide
  have r2 : (1085102592571150095 : Nat) = rep 15 l.length := by rw [hl]; decide
  have f := fun b (hb : b ∈ l) => byte_facts ⟨b, hs b hb⟩
  simp only at f
  have e1 : (val l / 2 &&& 6148914691236517205) + (val l &&& 6148914691236517205) = val (l.map fA) := by
    rw [r0, half_rep l hs, and_rep 85 (by decide) l hs, val_add]; rfl
  have hA : small (l.map fA) := fun x hx => by
    obtain ⟨b, hb, rfl⟩ := List.mem_map.1 hx; exact (f b hb).1
  have e2 : (val (l.map fA) / 4 &&& 3689348814741910323) + (val (l.map fA) &&& 3689348814741910323) = val ((l.map fA).map fB) := by
    rw [r1, show l.length = (l.map fA).length by simp, quart_rep _ hA, and_rep 51 (by decide) _ hA, val_add]; rfl
  have hB : nib ((l.map fA).map fB) := fun x hx => by
    obtain ⟨c, hc, rfl⟩ := List.mem_map.1 hx
    obtain ⟨b, hb, rfl⟩ := List.mem_map.1 hc
    exact ⟨(f b hb).2.1, (f b hb).2.2.1, (f b hb).2.2.2.1⟩
  have e3 : (val ((l.map fA).map fB) / 16 + val ((l.map fA).map fB)) &&& 1085102592571150095 = val (l.map pc8) := by
    rw [r2, show l.length = ((l.map fA).map fB).length by simp, nib_rep _ hB, List.map_map, List.map_map]
    congr 1
    exact List.map_congr_left fun b hb => (f b hb).2.2.2.2.1
  simp only
  rw [e1, e2, e3]
  exact ⟨rfl, rfl, rfl⟩

theorem four (p1 p2 p3 p4 T1 T2 T3 T4 T5 : Nat) (h1 : p1 ≤ 8) (h2 : p2 ≤ 8) (h3 : p3 ≤ 8) (h4 : p4 ≤ 8) (e1 : T1 = p1 + 256 * T2) (e2 : T2 = p2 + 256 * T3) (e3 : T3 = p3 + 256 * T4) (e4 : T4 = p4 + 256 * T5) :
    (T1 + T2 + T3 + T4) / 256 = T2 + T3 + T4 + T5 := by omega
theorem four_eq (p1 p2 p3 p4 T1 T2 T3 T4 T5 : Nat) (e1 : T1 = p1 + 256 * T2) (e2 : T2 = p2 + 256 * T3) (e3 : T3 = p3 + 256 * T4) (e4 : T4 = p4 + 256 * T5) :
    T1 + T2 + T3 + T4 = (p1 + p2 + p3 + p4) + 256 * (T2 + T3 + T4 + T5) := by omega
theorem by256 (a t y : Nat) (ha : a ≤ 64) (h : y = a + 256 * t) : y / 256 = t := by omega

theorem bnd0 (p T : Nat) (e : T = p + 256 * 0) (h : p ≤ 8) : T ≤ 8 := by omega
theorem bnd (p T T' k : Nat) (e : T = p + 256 * T') (h : p ≤ 8) (h' : T' ≤ k) : T ≤ 8 + 256 * k := by omega
theorem lin2 (p q y T U : Nat) (e : y = p + 256 * T) (f : T = q + 256 * U) : y + T = (p + q) + 256 * (T + U) := by omega
theorem lin3 (p0 p1 p2 p3 T1 T2 T3 T4 : Nat) (e : T2 = p2 + 256 * T3) (f : T3 = p3 + 256 * T4) : (p0 + p1) + 256 * (T1 + T2) + (T2 + T3) = (p0 + p1 + p2 + p3) + 256 * (T1 + T2 + T3 + T4) := by omega
theorem lin4 (p0 p1 p2 p3 p4 p5 p6 p7 T1 T2 T3 T4 T5 T6 T7 : Nat) : (p0 + p1 + p2 + p3) + 256 * (T1 + T2 + T3 + T4) + (p4 + p5 + p6 + p7 + 256 * (T5 + T6 + T7 + 0)) = (p0 + p1 + p2 + p3 + p4 + p5 + p6 + p7) + 256 * (T1 + T2 + T3 + T4 + T5 + T6 + T7) := by omega
theorem two8 {a b : Nat} (h : a ≤ 8) (k : b ≤ 8) : a + b ≤ 64 := by omega
theorem four8 {a b c d : Nat} (h : a ≤ 8) (k : b ≤ 8) (l : c ≤ 8) (m : d ≤ 8) : a + b + c + d ≤ 64 := by omega
theorem mod128 (s k x : Nat) (hs : s ≤ 64) (h : x = s + 256 * k) : x % 128 = s := by omega
theorem fin8 (p0 p1 p2 p3 p4 p5 p6 p7 T1 T2 T3 T4 T5 T6 T7 d1 d2 d3 : Nat) (h0 : p0 ≤ 8) (h1 : p1 ≤ 8) (h2 : p2 ≤ 8) (h3 : p3 ≤ 8) (h4 : p4 ≤ 8) (h5 : p5 ≤ 8) (h6 : p6 ≤ 8) (h7 : p7 ≤ 8)
    (b1 : T1 ≤ 2260630401189896) (b2 : T2 ≤ 8830587504648) (b3 : T3 ≤ 34494482440) (b4 : T4 ≤ 134744072) (b5 : T5 ≤ 526344) (b6 : T6 ≤ 2056) (b7 : T7 ≤ 8)
    (s1 : d1 = (p0 + p1) + 256 * (T1 + T2)) (s2 : d2 = (p0 + p1 + p2 + p3) + 256 * (T1 + T2 + T3 + T4)) (s3 : d3 = (p0 + p1 + p2 + p3 + p4 + p5 + p6 + p7) + 256 * (T1 + T2 + T3 + T4 + T5 + T6 + T7)) :
    d1 < 18446744073709551616 ∧ d2 < 18446744073709551616 ∧ d3 < 9223372036854775808 ∧ d3 % 128 = p0 + p1 + p2 + p3 + p4 + p5 + p6 + p7 := by
  have k1 : T1 + T2 + T3 + T4 + T5 + T6 + T7 ≤ 2269495618449464 := by omega
  have k2 : p0 + p1 + p2 + p3 + p4 + p5 + p6 + p7 ≤ 64 := by omega
  refine ⟨?_, ?_, ?_, mod128 _ _ _ k2 s3⟩
  · clear s2 s3; omega
  · clear s1 s3; omega
  · clear s1 s2; omega

theorem sum8 (p0 p1 p2 p3 p4 p5 p6 p7 : Nat) (h0 : p0 ≤ 8) (h1 : p1 ≤ 8) (h2 : p2 ≤ 8) (h3 : p3 ≤ 8) (h4 : p4 ≤ 8) (h5 : p5 ≤ 8) (h6 : p6 ≤ 8) (h7 : p7 ≤ 8) (y d1 d2 d3 T1 T2 T3 T4 T5 T6 T7 : Nat)
    (hy : y = p0 + 256 * T1) (hT1 : T1 = p1 + 256 * T2) (hT2 : T2 = p2 + 256 * T3) (hT3 : T3 = p3 + 256 * T4) (hT4 : T4 = p4 + 256 * T5) (hT5 : T5 = p5 + 256 * T6) (hT6 : T6 = p6 + 256 * T7) (hT7 : T7 = p7 + 256 * 0)
    (e1 : d1 = y + y / 256) (e2 : d2 = d1 + d1 / 65536) (e3 : d3 = d2 + d2 / 4294967296) :
    d1 < 18446744073709551616 ∧ d2 < 18446744073709551616 ∧ d3 < 9223372036854775808 ∧ d3 % 128 = p0 + p1 + p2 + p3 + p4 + p5 + p6 + p7 := by
  have q1 : y / 256 = T1 := by256 p0 T1 y (by omega) hy
  have r1 := four p1 p2 p3 p4 T1 T2 T3 T4 T5 h1 h2 h3 h4 hT1 hT2 hT3 hT4
  have r2 := four p2 p3 p4 p5 T2 T3 T4 T5 T6 h2 h3 h4 h5 hT2 hT3 hT4 hT5
  have r3 := four p3 p4 p5 p6 T3 T4 T5 T6 T7 h3 h4 h5 h6 hT3 hT4 hT5 hT6
  have f0 := four_eq p1 p2 p3 p4 T1 T2 T3 T4 T5 hT1 hT2 hT3 hT4
  have f4 := four_eq p4 p5 p6 p7 T4 T5 T6 T7 0 hT4 hT5 hT6 hT7
  have b7 : T7 ≤ 8 := bnd0 p7 T7 hT7 h7
  have b6 : T6 ≤ 2056 := bnd p6 T6 T7 8 hT6 h6 b7
  have b5 : T5 ≤ 526344 := bnd p5 T5 T6 2056 hT5 h5 b6
  have b4 : T4 ≤ 134744072 := bnd p4 T4 T5 526344 hT4 h4 b5
  have b3 : T3 ≤ 34494482440 := bnd p3 T3 T4 134744072 hT3 h3 b4
  have b2 : T2 ≤ 8830587504648 := bnd p2 T2 T3 34494482440 hT2 h2 b3
  have b1 : T1 ≤ 2260630401189896 := bnd p1 T1 T2 8830587504648 hT1 h1 b2
  have s1 : d1 = (p0 + p1) + 256 * (T1 + T2) := by rw [e1, q1, lin2 p0 p1 y T1 T2 hy hT1]
  have q2 : d1 / 65536 = T2 + T3 := by
    rw [show (65536 : Nat) = 256 * 256 from rfl, ← Nat.div_div_eq_div_mul, by256 (p0 + p1) (T1 + T2) d1 (two8 h0 h1) s1]
    exact by256 (p1 + p2) (T2 + T3) _ (two8 h1 h2) (lin2 p1 p2 T1 T2 T3 hT1 hT2)
  have s2 : d2 = (p0 + p1 + p2 + p3) + 256 * (T1 + T2 + T3 + T4) := by rw [e2, q2, s1]; exact lin3 p0 p1 p2 p3 T1 T2 T3 T4 hT2 hT3
  have q3 : d2 / 4294967296 = T4 + T5 + T6 + T7 := by
    rw [show (4294967296 : Nat) = 256 * 256 * 256 * 256 from rfl, ← Nat.div_div_eq_div_mul, ← Nat.div_div_eq_div_mul, ← Nat.div_div_eq_div_mul,
      by256 (p0 + p1 + p2 + p3) (T1 + T2 + T3 + T4) d2 (four8 h0 h1 h2 h3) s2, r1, r2, r3]
  have s3 : d3 = (p0 + p1 + p2 + p3 + p4 + p5 + p6 + p7) + 256 * (T1 + T2 + T3 + T4 + T5 + T6 + T7) := by rw [e3, q3, s2, f4]; exact lin4 ..
  exact fin8 _ _ _ _ _ _ _ _ _ _ _ _ _ _ _ d1 d2 d3 h0 h1 h2 h3 h4 h5 h6 h7 b1 b2 b3 b4 b5 b6 b7 s1 s2 s3

theorem pc8_card (b : Nat) : pc8 b = cardN b.testBit 8 := by
  simp only [cardN, Nat.testBit_eq_decide_div_mod_eq]
  unfold pc8
  have h : ∀ n : Nat, (decide (n % 2 = 1)).toNat = n % 2 := fun n => by
    rcases Nat.mod_two_eq_zero_or_one n with h | h <;> simp [h]
  simp only [h]
  simp
/-- The bits of a number by its bytes. -/
theorem card_bytes : ∀ (n x : Nat), x < 256 ^ n → ∃ l, l.length = n ∧ small l ∧ val l = x ∧ (l.map pc8).sum = cardN x.testBit (8 * n)
  | 0, x, h => ⟨[], rfl, (by intro b hb; cases hb), by simp at h; simp [val, h], by simp [cardN]⟩
  | n + 1, x, h => by
    have hx : x / 256 < 256 ^ n := by rw [Nat.pow_succ] at h; exact Nat.div_lt_of_lt_mul (by omega)
    obtain ⟨l, h1, h2, h3, h4⟩ := card_bytes n (x / 256) hx
    refine ⟨(x % 256) :: l, by simp [h1], ?_, ?_, ?_⟩
    · intro b hb
      rcases List.mem_cons.1 hb with rfl | hb
      · omega
      · exact h2 b hb
    · unfold val; rw [h3]; omega
    · rw [List.map_cons, List.sum_cons, h4, pc8_card, show 8 * (n + 1) = 8 + 8 * n by omega, cardN_add]
      have e1 : cardN (x % 256).testBit 8 = cardN x.testBit 8 := cardN_congr _ _ _ fun k hk => by
        rw [show (256 : Nat) = 2 ^ 8 from rfl, Nat.testBit_mod_two_pow]; simp [hk]
      have e2 : cardN (x / 256).testBit (8 * n) = cardN (fun k => x.testBit (8 + k)) (8 * n) := cardN_congr _ _ _ fun k _ => by
        rw [show (256 : Nat) = 2 ^ 8 from rfl, Nat.testBit_div_two_pow, Nat.add_comm]
      rw [e1, e2]

theorem step_lt {a v k : Nat} (ha : a < 256) (hv : v < k) : v * 256 + a < k * 256 := by omega
theorem val8_lt {b0 b1 b2 b3 b4 b5 b6 b7 : Nat} (h0 : b0 < 256) (h1 : b1 < 256) (h2 : b2 < 256) (h3 : b3 < 256) (h4 : b4 < 256) (h5 : b5 < 256) (h6 : b6 < 256) (h7 : b7 < 256) :
    (((((((0 * 256 + b7) * 256 + b6) * 256 + b5) * 256 + b4) * 256 + b3) * 256 + b2) * 256 + b1) * 256 + b0 < 18446744073709551616 :=
  step_lt h0 (step_lt h1 (step_lt h2 (step_lt h3 (step_lt h4 (step_lt h5 (step_lt h6 (step_lt h7 (k := 1) (by decide))))))))
theorem step_le {a v k : Nat} (ha : a ≤ 68) (hv : v ≤ k) : v * 256 + a ≤ k * 256 + 68 := by omega
theorem le68 {b : Nat} {p : Prop} (h : b % 16 ≤ 4 ∧ b / 16 ≤ 4 ∧ p) : b ≤ 68 := by have := h.1; have := h.2.1; omega
theorem val8_nib {b0 b1 b2 b3 b4 b5 b6 b7 : Nat} {q0 q1 q2 q3 q4 q5 q6 q7 : Prop} (h0 : b0 % 16 ≤ 4 ∧ b0 / 16 ≤ 4 ∧ q0) (h1 : b1 % 16 ≤ 4 ∧ b1 / 16 ≤ 4 ∧ q1) (h2 : b2 % 16 ≤ 4 ∧ b2 / 16 ≤ 4 ∧ q2) (h3 : b3 % 16 ≤ 4 ∧ b3 / 16 ≤ 4 ∧ q3)
    (h4 : b4 % 16 ≤ 4 ∧ b4 / 16 ≤ 4 ∧ q4) (h5 : b5 % 16 ≤ 4 ∧ b5 / 16 ≤ 4 ∧ q5) (h6 : b6 % 16 ≤ 4 ∧ b6 / 16 ≤ 4 ∧ q6) (h7 : b7 % 16 ≤ 4 ∧ b7 / 16 ≤ 4 ∧ q7) :
    (((((((0 * 256 + b7) * 256 + b6) * 256 + b5) * 256 + b4) * 256 + b3) * 256 + b2) * 256 + b1) * 256 + b0 ≤ 4919131752989213764 :=
  step_le (le68 h0) (step_le (le68 h1) (step_le (le68 h2) (step_le (le68 h3) (step_le (le68 h4) (step_le (le68 h5) (step_le (le68 h6) (step_le (le68 h7) (k := 0) (by decide))))))))

/-- What OnesCount64 reckons, step by step. -/
theorem ones_sum (x : Nat) (hx : x < 18446744073709551616) (y1 y2 y3 d1 d2 d3 : Nat)
    (e1 : y1 = (x / 2 &&& 6148914691236517205) + (x &&& 6148914691236517205)) (e2 : y2 = (y1 / 4 &&& 3689348814741910323) + (y1 &&& 3689348814741910323)) (e3 : y3 = (y2 / 16 + y2) &&& 1085102592571150095)
    (f1 : d1 = y3 + y3 / 256) (f2 : d2 = d1 + d1 / 65536) (f3 : d3 = d2 + d2 / 4294967296) :
    y1 < 18446744073709551616 ∧ y2 < 18446744073709551616 ∧ y2 / 16 + y2 < 18446744073709551616 ∧ y3 < 18446744073709551616 ∧ d1 < 18446744073709551616 ∧ d2 < 18446744073709551616 ∧ d3 < 9223372036854775808 ∧ d3 % 128 = cardN x.testBit 64 := by
  obtain ⟨l, hlen, hs, hv, hc⟩ := card_bytes 8 x (by simpa using hx)
  obtain ⟨a1, a2, a3⟩ := swar l hlen hs
  rw [hv] at a1 a2 a3
  have f := fun b (hb : b ∈ l) => byte_facts ⟨b, hs b hb⟩
  simp only at f
  match l, hlen with
  | [b0, b1, b2, b3, b4, b5, b6, b7], _ =>
    have g0 := f b0 (by simp)
    have g1 := f b1 (by simp)
    have g2 := f b2 (by simp)
    have g3 := f b3 (by simp)
    have g4 := f b4 (by simp)
    have g5 := f b5 (by simp)
    have g6 := f b6 (by simp)
    have g7 := f b7 (by simp)
    have E1 : y1 = val ([b0, b1, b2, b3, b4, b5, b6, b7].map fA) := by rw [e1]; exact a1
    have E2 : y2 = val (([b0, b1, b2, b3, b4, b5, b6, b7].map fA).map fB) := by rw [e2, e1]; exact a2
    have E3 : y3 = val ([b0, b1, b2, b3, b4, b5, b6, b7].map pc8) := by rw [e3, e2, e1]; exact a3
    simp only [List.map_cons, List.map_nil, val] at E1 E2 E3
    have S := sum8 (pc8 b0) (pc8 b1) (pc8 b2) (pc8 b3) (pc8 b4) (pc8 b5) (pc8 b6) (pc8 b7) g0.2.2.2.2.2 g1.2.2.2.2.2 g2.2.2.2.2.2 g3.2.2.2.2.2 g4.2.2.2.2.2 g5.2.2.2.2.2 g6.2.2.2.2.2 g7.2.2.2.2.2 y3 d1 d2 d3 _ _ _ _ _ _ _
      (by rw [E3, Nat.add_comm, Nat.mul_comm]) (by rw [Nat.add_comm, Nat.mul_comm]) (by rw [Nat.add_comm, Nat.mul_comm]) (by rw [Nat.add_comm, Nat.mul_comm]) (by rw [Nat.add_comm, Nat.mul_comm]) (by rw [Nat.add_comm, Nat.mul_comm]) (by rw [Nat.add_comm, Nat.mul_comm]) (by rw [Nat.add_comm, Nat.mul_comm]) f1 f2 f3
    refine ⟨?_, ?_, ?_, ?_, S.1, S.2.1, S.2.2.1, ?_⟩
    · rw [E1]; exact val8_lt g0.1 g1.1 g2.1 g3.1 g4.1 g5.1 g6.1 g7.1
    · rw [E2]; exact val8_lt g0.2.1 g1.2.1 g2.2.1 g3.2.1 g4.2.1 g5.2.1 g6.2.1 g7.2.1
    · have := val8_nib g0.2.2 g1.2.2 g2.2.2 g3.2.2 g4.2.2 g5.2.2 g6.2.2 g7.2.2
      rw [← E2] at this; clear E1 E2 E3 a1 a2 a3 S; omega
    · have := S.1; clear E1 E2 E3 a1 a2 a3 S; omega
    · rw [S.2.2.2, ← hc]; simp only [List.map_cons, List.map_nil, List.sum_cons, List.sum_nil]; omega
end Go.Proofs.YtihjmeoklbmnmaaDoor
