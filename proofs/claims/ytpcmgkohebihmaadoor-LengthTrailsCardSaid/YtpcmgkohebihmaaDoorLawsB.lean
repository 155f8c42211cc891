/- set, sum of bolterlaw8. No condition but bounds. -/
import Derived.Test.YtpcmgkohebihmaaDoorLenOf
namespace Go.Proofs.YtpcmgkohebihmaaDoor
open Go Go.RowKit

def sumL (a b : Int) : Int := if a < 0 ∨ b < 0 then -1 else a + b
set_option maxHeartbeats 1000000 in
theorem sum_any (a b : Int) (w : World) (ha : -1 ≤ a ∧ a ≤ 1099511627776) (hb : -1 ≤ b ∧ b ≤ 1099511627776) : Calls Tryd.prog 10 #[.int .i64 a, .int .i64 b] w fun e' w' => e' = .returned (.int .i64 (sumL a b)) ∧ Gr w w' := by
  obtain ⟨a1, a2⟩ := ha
  obtain ⟨b1, b2⟩ := hb
  have H := Lib.hid (show sumL a b = if a < 0 ∨ b < 0 then -1 else a + b from rfl)
  go_enter Tryd.func10, Tryd.ntmps10
  by_cases h1 : a < 0
  · have HR := Lib.hid (show sumL a b = -1 by rw [sumL, if_pos (.inl h1)])
    go_wp2_with fail
    go_ret
    exact ⟨ret_int HR.out.symm, Gr.refl _⟩
  · by_cases h2 : b < 0
    · have HR := Lib.hid (show sumL a b = -1 by rw [sumL, if_pos (.inr h2)])
      go_wp2_with fail
      go_ret
      exact ⟨ret_int HR.out.symm, Gr.refl _⟩
    · have HR := Lib.hid (show sumL a b = a + b by rw [sumL, if_neg (by omega)])
      go_wp2_with fail
      go_ret
      exact ⟨ret_int HR.out.symm, Gr.refl _⟩

/-- The bytes 'a' and 'b' as sets. -/
def setA : BitVec 256 := 1#256 <<< 97
def setB : BitVec 256 := 1#256 <<< 98
theorem wd_a : wd setA 0 = 0 ∧ wd setA 1 = 8589934592 ∧ wd setA 2 = 0 ∧ wd setA 3 = 0 := by decide +kernel
theorem wd_b : wd setB 0 = 0 ∧ wd setB 1 = 17179869184 ∧ wd setB 2 = 0 ∧ wd setB 3 = 0 := by decide +kernel
def byteE (s : BitVec 256) : Ex := .mk 2 0 s ⟨#[]⟩ 0 0 []
theorem byteE_in (s : BitVec 256) (w : World) : ExIn w (byteE s) (exCells 2 0 s ⟨#[]⟩ 0 0 (.slice none 0 0)) :=
  .mk 2 0 s ⟨#[]⟩ 0 0 _ [] (by unfold fit64; omega) (by unfold fit64; omega) (by unfold fit64; omega) (by unfold fit64; omega) (by decide) (by simp) (Sl.nil _ _) (.inl rfl) (by simp) (by simp)
theorem byteE_core (s : BitVec 256) : isCore (byteE s) = true := by
  unfold isCore byteE
  rw [partsE, if_neg (by simp [leanB, kindB]), partsL]; rfl
set_option maxRecDepth 100000 in
set_option maxHeartbeats 2000000 in
theorem set_a (w : World) : Calls Tryd.prog 20 #[.int .u8 97] w fun e' w' => e' = .returned (.agg #[.int .i64 2, .int .i64 0, .int .u64 (wd setA 0), .int .u64 (wd setA 1), .int .u64 (wd setA 2), .int .u64 (wd setA 3), .string ⟨#[]⟩, .int .i64 0, .int .i64 0, (.slice none 0 0)]) ∧ Gr w w' := by
  have H0 := Lib.hid wd_a.1
  have H1 := Lib.hid wd_a.2.1
  have H2 := Lib.hid wd_a.2.2.1
  have H3 := Lib.hid wd_a.2.2.2
  go_enter Tryd.func20, Tryd.ntmps20
  go_wp2_with fail
  exact bodyPost_ret (v := .agg #[.int .i64 2, .int .i64 0, .int .u64 0, .int .u64 8589934592, .int .u64 0, .int .u64 0, .string ⟨#[]⟩, .int .i64 0, .int .i64 0, .slice none 0 0]) (by simp [results, Tryd.results20, go_sem]) rfl ⟨by rw [wd_a.1, wd_a.2.1, wd_a.2.2.1, wd_a.2.2.2], (Gr.alloc _ _).trans (Gr.alloc _ _)⟩
set_option maxRecDepth 100000 in
set_option maxHeartbeats 2000000 in
theorem set_b (w : World) : Calls Tryd.prog 20 #[.int .u8 98] w fun e' w' => e' = .returned (.agg #[.int .i64 2, .int .i64 0, .int .u64 (wd setB 0), .int .u64 (wd setB 1), .int .u64 (wd setB 2), .int .u64 (wd setB 3), .string ⟨#[]⟩, .int .i64 0, .int .i64 0, (.slice none 0 0)]) ∧ Gr w w' := by
  have H0 := Lib.hid wd_b.1
  have H1 := Lib.hid wd_b.2.1
  have H2 := Lib.hid wd_b.2.2.1
  have H3 := Lib.hid wd_b.2.2.2
  go_enter Tryd.func20, Tryd.ntmps20
  go_wp2_with fail
  exact bodyPost_ret (v := .agg #[.int .i64 2, .int .i64 0, .int .u64 0, .int .u64 17179869184, .int .u64 0, .int .u64 0, .string ⟨#[]⟩, .int .i64 0, .int .i64 0, .slice none 0 0]) (by simp [results, Tryd.results20, go_sem]) rfl ⟨by rw [wd_b.1, wd_b.2.1, wd_b.2.2.1, wd_b.2.2.2], (Gr.alloc _ _).trans (Gr.alloc _ _)⟩

end Go.Proofs.YtpcmgkohebihmaaDoor
