/- bolterlaw17.ImageHurt. No condition but that the errors' variables hold them. -/
import Derived.Test.YtcbfmajojkcibaaDoorPImgV
namespace Go.Proofs.YtcbfmajojkcibaaDoor
open Go Go.RowKit

theorem u8_xor_byte (x y : UInt8) : bits .xor .u8 (x.toNat : Int) (y.toNat : Int) = ((x ^^^ y).toNat : Int) := by
  have h : ∀ a b : Fin 256, bits .xor .u8 ((a.val : Nat) : Int) ((b.val : Nat) : Int) = ((a.val ^^^ b.val : Nat) : Int) := by
    intro a b
    have ha := a.isLt
    have hb := b.isLt
    show IntKind.u8.wrap ((BitVec.ofInt 8 (a.val : Int) ^^^ BitVec.ofInt 8 (b.val : Int)).toNat : Int) = _
    rw [BitVec.toNat_xor]
    have e : ∀ n : Nat, n < 256 → (BitVec.ofInt 8 (n : Int)).toNat = n := fun n hn => by simp [BitVec.toNat_ofInt]; omega
    rw [e _ ha, e _ hb]
    have : a.val ^^^ b.val < 2 ^ 8 := Nat.xor_lt_two_pow (by omega) (by omega)
    unfold IntKind.wrap
    simp [IntKind.bits, IntKind.signed]
    omega
  have := h ⟨x.toNat, x.toNat_lt⟩ ⟨y.toNat, y.toNat_lt⟩
  rw [this, UInt8.toNat_xor]
theorem xor_back (x y : UInt8) : (x ^^^ y) ^^^ y = x := by
  rw [UInt8.xor_assoc, UInt8.xor_self, UInt8.xor_zero]
set_option maxRecDepth 100000 in
set_option maxHeartbeats 1000000 in
theorem within_kit (i : Int) (n : Nat) (w : World) (hn : 0 < n) (hn2 : n ≤ 4611686018427387904) (hi : -9223372036854775808 ≤ i ∧ i ≤ 9223372036854775807) :
    Calls Tryd.prog 26 #[.int .i64 i, .int .i64 (n : Int)] w fun e w' => (∃ k : Nat, k < n ∧ e = .returned (.int .i64 (k : Int))) ∧ w = w' := by
  obtain ⟨r, hr⟩ : ∃ r, i.tmod (n : Int) = r := ⟨_, rfl⟩
  have hb : -(n : Int) < r ∧ r < n := by
    rw [← hr]
    have h1 := Int.tmod_lt_of_pos i (show (0 : Int) < n by omega)
    have h2 : -(n : Int) < i.tmod n := by
      have := Int.neg_tmod (a := i) (b := (n : Int))
      have h3 := Int.tmod_lt_of_pos (-i) (show (0 : Int) < n by omega)
      omega
    exact ⟨h2, h1⟩
  obtain ⟨h1, h2⟩ := hb
  have hnz : ((n : Int) == 0) = false := by rw [beq_eq_false_iff_ne]; omega
  by_cases h0 : r < 0
  · go_enter Tryd.func26, Tryd.ntmps26
    go_wp2_with fail
    go_ret
    exact ⟨⟨(r + n).toNat, by omega, by rw [Int.toNat_of_nonneg (by omega)]; rfl⟩, rfl⟩
  · go_enter Tryd.func26, Tryd.ntmps26
    go_wp2_with fail
    go_ret
    exact ⟨⟨r.toNat, by omega, by rw [Int.toNat_of_nonneg (by omega)]; rfl⟩, rfl⟩

end Go.Proofs.YtcbfmajojkcibaaDoor
