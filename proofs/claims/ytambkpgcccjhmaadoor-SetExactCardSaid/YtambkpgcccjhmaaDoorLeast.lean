/- TrailingZeros64 over its table; Least. No condition but the table's. -/
import Derived.Test.YtambkpgcccjhmaaDoorLow
import Derived.Test.YtambkpgcccjhmaaDoorMem
import Derived.Test.YtambkpgcccjhmaaDoorSetB
import Derived.Laws.Bits64b
namespace Go.Proofs.YtambkpgcccjhmaaDoor
open Go Go.RowKit

/-- The table of math/bits in its variable. -/
def Tab (w : World) : Prop := ∀ j, j < 64 → w.cell? ⟨0, j, none⟩ = some (.int .u8 (Lib.deBruijn64tab.getD j 0))
theorem Tab.later {w w' : World} (h : Tab w) (hG : Gr w w') : Tab w' := fun j hj => hG.cell (h j hj)

theorem tz_key (x a : Nat) (hx : x < 18446744073709551616) (hx0 : x ≠ 0) (hlow : x &&& (18446744073709551616 - x) = a) :
    IntKind.u64.wrap (bits BinOp.and IntKind.u64 (x : Int) (IntKind.u64.wrap (-(x : Int))) * 285870213051353865) / 288230376151711744 = ((a * 285870213051353865 % 18446744073709551616 / 288230376151711744 : Nat) : Int) := by
  have e1 : IntKind.u64.wrap (-(x : Int)) = ((18446744073709551616 - x : Nat) : Int) := by rw [IntKind.wrap_u64]; omega
  rw [e1, bits_and_u64_nat x _ hx (by omega), hlow, IntKind.wrap_u64]
  omega
theorem tz_core (x k idx : Nat) (w : World) (hx0 : ((x : Int) == 0) = false)
    (key : IntKind.u64.wrap (bits BinOp.and IntKind.u64 (x : Int) (IntKind.u64.wrap (-(x : Int))) * 285870213051353865) / 288230376151711744 = (idx : Int))
    (hi : idx < 64) (hk : k < 64) (hcell : w.cell? ⟨0, idx, none⟩ = some (.int .u8 k)) :
    Calls Tryd.prog 37 #[.int .u64 x] w fun e w' => e = .returned (.int .i64 k) ∧ w' = w := by
  go_enter Tryd.func37, Tryd.ntmps37
  go_wp2_with (simp only [key])
  go_ret
  exact ⟨rfl, rfl⟩
theorem tz_any (x r : Nat) (hx : x < 18446744073709551616) (hx0 : x ≠ 0) (hr : Lib.ctz 64 x = r) (w : World) (hT : Tab w) :
    Calls Tryd.prog 37 #[.int .u64 x] w fun e w' => e = .returned (.int .i64 r) ∧ w' = w := by
  obtain ⟨hlow, hk⟩ := Lib.lowest_bit 64 x hx0 hx
  obtain ⟨hi, htab⟩ := Lib.deBruijn64_at _ hk
  have hcell := hT _ hi
  rw [htab] at hcell
  rw [hr] at hk hlow hi hcell
  exact tz_core x r _ w (by simp; omega) (tz_key x _ hx hx0 hlow) hi hk hcell

theorem least_none (w : World) : Calls Tryd.prog 13 #[.agg #[.int .u64 (wd emptyS 0), .int .u64 (wd emptyS 1), .int .u64 (wd emptyS 2), .int .u64 (wd emptyS 3)]] w fun e w' => e = .returned (.tuple #[.int .u8 0, .bool false]) ∧ Gr w w' := by
  simp only [wd_zero]
  have i0 : ∀ (a b c d : Int) (w : World), (Instr.index 24 (.agg #[.int .u64 a, .int .u64 b, .int .u64 c, .int .u64 d]) (.int .i64 0)).run Tryd.prog w = .ok (.int .u64 a) w := fun _ _ _ _ _ => by kernel_rfl
  have i1 : ∀ (a b c d : Int) (w : World), (Instr.index 24 (.agg #[.int .u64 a, .int .u64 b, .int .u64 c, .int .u64 d]) (.int .i64 1)).run Tryd.prog w = .ok (.int .u64 b) w := fun _ _ _ _ _ => by kernel_rfl
  have i2 : ∀ (a b c d : Int) (w : World), (Instr.index 24 (.agg #[.int .u64 a, .int .u64 b, .int .u64 c, .int .u64 d]) (.int .i64 2)).run Tryd.prog w = .ok (.int .u64 c) w := fun _ _ _ _ _ => by kernel_rfl
  have i3 : ∀ (a b c d : Int) (w : World), (Instr.index 24 (.agg #[.int .u64 a, .int .u64 b, .int .u64 c, .int .u64 d]) (.int .i64 3)).run Tryd.prog w = .ok (.int .u64 d) w := fun _ _ _ _ _ => by kernel_rfl
  go_enter Tryd.func13, Tryd.ntmps13
  go_wp2_with fail
  refine wp_loop_rounds 5 ?_
  rw [rounds_succ]
  go_wp2_with fail
  rw [rounds_succ]
  go_wp2_with fail
  rw [rounds_succ]
  go_wp2_with fail
  rw [rounds_succ]
  go_wp2_with fail
  rw [rounds_succ]
  go_wp2_with fail
  exact bodyPost_ret (v := .tuple #[.int .u8 0, .bool false]) (by simp [results, Tryd.results13, go_sem]) rfl ⟨rfl, Gr.alloc _ _⟩

theorem least_at0 (x r : Nat) (a1 a2 a3 : Int) (hx : x < 18446744073709551616) (hx0 : x ≠ 0) (hr : Lib.ctz 64 x = r) (hr64 : r < 64) (w : World) (hT : Tab w) :
    Calls Tryd.prog 13 #[.agg #[.int .u64 (x : Int), .int .u64 a1, .int .u64 a2, .int .u64 a3]] w fun e w' => e = .returned (.tuple #[.int .u8 (0 + (r : Int)), .bool true]) ∧ Gr w w' := by
  have hxI : (x : Int) ≠ 0 := by omega
  have hrI : (r : Int) < 64 := by omega
  have HX := Lib.hid hx
  have HR := Lib.hid hr
  have HX0 := Lib.hid hx0
  clear hx hr hx0 hr64
  have HT := Lib.hid hT
  clear hT
  have ew : IntKind.i64.wrap (0 + (r : Int)) = 0 + (r : Int) := IntWalk.i64_in _ (by omega)
  have eu : IntKind.u8.wrap (0 + (r : Int)) = 0 + (r : Int) := by rw [IntKind.wrap_u8]; omega
  have i0 : ∀ (a b c d : Int) (w : World), (Instr.index 24 (.agg #[.int .u64 a, .int .u64 b, .int .u64 c, .int .u64 d]) (.int .i64 0)).run Tryd.prog w = .ok (.int .u64 a) w := fun _ _ _ _ _ => by kernel_rfl
  have i1 : ∀ (a b c d : Int) (w : World), (Instr.index 24 (.agg #[.int .u64 a, .int .u64 b, .int .u64 c, .int .u64 d]) (.int .i64 1)).run Tryd.prog w = .ok (.int .u64 b) w := fun _ _ _ _ _ => by kernel_rfl
  have i2 : ∀ (a b c d : Int) (w : World), (Instr.index 24 (.agg #[.int .u64 a, .int .u64 b, .int .u64 c, .int .u64 d]) (.int .i64 2)).run Tryd.prog w = .ok (.int .u64 c) w := fun _ _ _ _ _ => by kernel_rfl
  have i3 : ∀ (a b c d : Int) (w : World), (Instr.index 24 (.agg #[.int .u64 a, .int .u64 b, .int .u64 c, .int .u64 d]) (.int .i64 3)).run Tryd.prog w = .ok (.int .u64 d) w := fun _ _ _ _ _ => by kernel_rfl
  go_enter Tryd.func13, Tryd.ntmps13
  go_wp2_with fail
  refine wp_loop_rounds 5 ?_
  rw [rounds_succ]
  go_wp2_with fail
  go_at_call 37
  refine (tz_any x r HX.out HX0.out HR.out _ (HT.out.later (Gr.alloc _ _))).mono ?_; rintro e w' ⟨rfl, rfl⟩
  go_wp2_with fail
  exact bodyPost_ret (v := .tuple #[.int .u8 (0 + (r : Int)), .bool true]) (by simp [results, Tryd.results13, go_sem]) rfl ⟨rfl, Gr.alloc _ _⟩

theorem least_at1 (x r : Nat) (a2 a3 : Int) (hx : x < 18446744073709551616) (hx0 : x ≠ 0) (hr : Lib.ctz 64 x = r) (hr64 : r < 64) (w : World) (hT : Tab w) :
    Calls Tryd.prog 13 #[.agg #[.int .u64 0, .int .u64 (x : Int), .int .u64 a2, .int .u64 a3]] w fun e w' => e = .returned (.tuple #[.int .u8 (64 + (r : Int)), .bool true]) ∧ Gr w w' := by
  have hxI : (x : Int) ≠ 0 := by omega
  have hrI : (r : Int) < 64 := by omega
  have HX := Lib.hid hx
  have HR := Lib.hid hr
  have HX0 := Lib.hid hx0
  clear hx hr hx0 hr64
  have HT := Lib.hid hT
  clear hT
  have ew : IntKind.i64.wrap (64 + (r : Int)) = 64 + (r : Int) := IntWalk.i64_in _ (by omega)
  have eu : IntKind.u8.wrap (64 + (r : Int)) = 64 + (r : Int) := by rw [IntKind.wrap_u8]; omega
  have i0 : ∀ (a b c d : Int) (w : World), (Instr.index 24 (.agg #[.int .u64 a, .int .u64 b, .int .u64 c, .int .u64 d]) (.int .i64 0)).run Tryd.prog w = .ok (.int .u64 a) w := fun _ _ _ _ _ => by kernel_rfl
  have i1 : ∀ (a b c d : Int) (w : World), (Instr.index 24 (.agg #[.int .u64 a, .int .u64 b, .int .u64 c, .int .u64 d]) (.int .i64 1)).run Tryd.prog w = .ok (.int .u64 b) w := fun _ _ _ _ _ => by kernel_rfl
  have i2 : ∀ (a b c d : Int) (w : World), (Instr.index 24 (.agg #[.int .u64 a, .int .u64 b, .int .u64 c, .int .u64 d]) (.int .i64 2)).run Tryd.prog w = .ok (.int .u64 c) w := fun _ _ _ _ _ => by kernel_rfl
  have i3 : ∀ (a b c d : Int) (w : World), (Instr.index 24 (.agg #[.int .u64 a, .int .u64 b, .int .u64 c, .int .u64 d]) (.int .i64 3)).run Tryd.prog w = .ok (.int .u64 d) w := fun _ _ _ _ _ => by kernel_rfl
  go_enter Tryd.func13, Tryd.ntmps13
  go_wp2_with fail
  refine wp_loop_rounds 5 ?_
  rw [rounds_succ]
  go_wp2_with fail
  rw [rounds_succ]
  go_wp2_with fail
  go_at_call 37
  refine (tz_any x r HX.out HX0.out HR.out _ (HT.out.later (Gr.alloc _ _))).mono ?_; rintro e w' ⟨rfl, rfl⟩
  go_wp2_with fail
  exact bodyPost_ret (v := .tuple #[.int .u8 (64 + (r : Int)), .bool true]) (by simp [results, Tryd.results13, go_sem]) rfl ⟨rfl, Gr.alloc _ _⟩

theorem least_at2 (x r : Nat) (a3 : Int) (hx : x < 18446744073709551616) (hx0 : x ≠ 0) (hr : Lib.ctz 64 x = r) (hr64 : r < 64) (w : World) (hT : Tab w) :
    Calls Tryd.prog 13 #[.agg #[.int .u64 0, .int .u64 0, .int .u64 (x : Int), .int .u64 a3]] w fun e w' => e = .returned (.tuple #[.int .u8 (128 + (r : Int)), .bool true]) ∧ Gr w w' := by
  have hxI : (x : Int) ≠ 0 := by omega
  have hrI : (r : Int) < 64 := by omega
  have HX := Lib.hid hx
  have HR := Lib.hid hr
  have HX0 := Lib.hid hx0
  clear hx hr hx0 hr64
  have HT := Lib.hid hT
  clear hT
  have ew : IntKind.i64.wrap (128 + (r : Int)) = 128 + (r : Int) := IntWalk.i64_in _ (by omega)
  have eu : IntKind.u8.wrap (128 + (r : Int)) = 128 + (r : Int) := by rw [IntKind.wrap_u8]; omega
  have i0 : ∀ (a b c d : Int) (w : World), (Instr.index 24 (.agg #[.int .u64 a, .int .u64 b, .int .u64 c, .int .u64 d]) (.int .i64 0)).run Tryd.prog w = .ok (.int .u64 a) w := fun _ _ _ _ _ => by kernel_rfl
  have i1 : ∀ (a b c d : Int) (w : World), (Instr.index 24 (.agg #[.int .u64 a, .int .u64 b, .int .u64 c, .int .u64 d]) (.int .i64 1)).run Tryd.prog w = .ok (.int .u64 b) w := fun _ _ _ _ _ => by kernel_rfl
  have i2 : ∀ (a b c d : Int) (w : World), (Instr.index 24 (.agg #[.int .u64 a, .int .u64 b, .int .u64 c, .int .u64 d]) (.int .i64 2)).run Tryd.prog w = .ok (.int .u64 c) w := fun _ _ _ _ _ => by kernel_rfl
  have i3 : ∀ (a b c d : Int) (w : World), (Instr.index 24 (.agg #[.int .u64 a, .int .u64 b, .int .u64 c, .int .u64 d]) (.int .i64 3)).run Tryd.prog w = .ok (.int .u64 d) w := fun _ _ _ _ _ => by kernel_rfl
  go_enter Tryd.func13, Tryd.ntmps13
  go_wp2_with fail
  refine wp_loop_rounds 5 ?_
  rw [rounds_succ]
  go_wp2_with fail
  rw [rounds_succ]
  go_wp2_with fail
  rw [rounds_succ]
  go_wp2_with fail
  go_at_call 37
  refine (tz_any x r HX.out HX0.out HR.out _ (HT.out.later (Gr.alloc _ _))).mono ?_; rintro e w' ⟨rfl, rfl⟩
  go_wp2_with fail
  exact bodyPost_ret (v := .tuple #[.int .u8 (128 + (r : Int)), .bool true]) (by simp [results, Tryd.results13, go_sem]) rfl ⟨rfl, Gr.alloc _ _⟩

theorem least_at3 (x r : Nat) (hx : x < 18446744073709551616) (hx0 : x ≠ 0) (hr : Lib.ctz 64 x = r) (hr64 : r < 64) (w : World) (hT : Tab w) :
    Calls Tryd.prog 13 #[.agg #[.int .u64 0, .int .u64 0, .int .u64 0, .int .u64 (x : Int)]] w fun e w' => e = .returned (.tuple #[.int .u8 (192 + (r : Int)), .bool true]) ∧ Gr w w' := by
  have hxI : (x : Int) ≠ 0 := by omega
  have hrI : (r : Int) < 64 := by omega
  have HX := Lib.hid hx
  have HR := Lib.hid hr
  have HX0 := Lib.hid hx0
  clear hx hr hx0 hr64
  have HT := Lib.hid hT
  clear hT
  have ew : IntKind.i64.wrap (192 + (r : Int)) = 192 + (r : Int) := IntWalk.i64_in _ (by omega)
  have eu : IntKind.u8.wrap (192 + (r : Int)) = 192 + (r : Int) := by rw [IntKind.wrap_u8]; omega
  have i0 : ∀ (a b c d : Int) (w : World), (Instr.index 24 (.agg #[.int .u64 a, .int .u64 b, .int .u64 c, .int .u64 d]) (.int .i64 0)).run Tryd.prog w = .ok (.int .u64 a) w := fun _ _ _ _ _ => by kernel_rfl
  have i1 : ∀ (a b c d : Int) (w : World), (Instr.index 24 (.agg #[.int .u64 a, .int .u64 b, .int .u64 c, .int .u64 d]) (.int .i64 1)).run Tryd.prog w = .ok (.int .u64 b) w := fun _ _ _ _ _ => by kernel_rfl
  have i2 : ∀ (a b c d : Int) (w : World), (Instr.index 24 (.agg #[.int .u64 a, .int .u64 b, .int .u64 c, .int .u64 d]) (.int .i64 2)).run Tryd.prog w = .ok (.int .u64 c) w := fun _ _ _ _ _ => by kernel_rfl
  have i3 : ∀ (a b c d : Int) (w : World), (Instr.index 24 (.agg #[.int .u64 a, .int .u64 b, .int .u64 c, .int .u64 d]) (.int .i64 3)).run Tryd.prog w = .ok (.int .u64 d) w := fun _ _ _ _ _ => by kernel_rfl
  go_enter Tryd.func13, Tryd.ntmps13
  go_wp2_with fail
  refine wp_loop_rounds 5 ?_
  rw [rounds_succ]
  go_wp2_with fail
  rw [rounds_succ]
  go_wp2_with fail
  rw [rounds_succ]
  go_wp2_with fail
  rw [rounds_succ]
  go_wp2_with fail
  go_at_call 37
  refine (tz_any x r HX.out HX0.out HR.out _ (HT.out.later (Gr.alloc _ _))).mono ?_; rintro e w' ⟨rfl, rfl⟩
  go_wp2_with fail
  exact bodyPost_ret (v := .tuple #[.int .u8 (192 + (r : Int)), .bool true]) (by simp [results, Tryd.results13, go_sem]) rfl ⟨rfl, Gr.alloc _ _⟩

theorem least_any (S : BitVec 256) (k : Nat) (h : IsLow S k) (w : World) (hT : Tab w) : Calls Tryd.prog 13 #[.agg #[.int .u64 (wd S 0), .int .u64 (wd S 1), .int .u64 (wd S 2), .int .u64 (wd S 3)]] w fun e w' => e = .returned (.tuple #[.int .u8 (k : Int), .bool true]) ∧ Gr w w' := by
  obtain ⟨h0, x, hx, h1, h2, h3⟩ := low_words S k h
  have hk := h.1
  have hr : k % 64 < 64 := by omega
  have e4 : k / 64 = 0 ∨ k / 64 = 1 ∨ k / 64 = 2 ∨ k / 64 = 3 := by omega
  rcases e4 with e | e | e | e <;> rw [e] at hx h0 <;> rw [hx]
  · have := least_at0 x (k % 64) (wd S 1) (wd S 2) (wd S 3) h1 h2 h3 hr w hT
    rwa [show (0 + ((k % 64 : Nat) : Int)) = (k : Int) by omega] at this
  · rw [h0 0 (by omega)]
    have := least_at1 x (k % 64) (wd S 2) (wd S 3) h1 h2 h3 hr w hT
    rwa [show (64 + ((k % 64 : Nat) : Int)) = (k : Int) by omega] at this
  · rw [h0 0 (by omega), h0 1 (by omega)]
    have := least_at2 x (k % 64) (wd S 3) h1 h2 h3 hr w hT
    rwa [show (128 + ((k % 64 : Nat) : Int)) = (k : Int) by omega] at this
  · rw [h0 0 (by omega), h0 1 (by omega), h0 2 (by omega)]
    have := least_at3 x (k % 64) h1 h2 h3 hr w hT
    rwa [show (192 + ((k % 64 : Nat) : Int)) = (k : Int) by omega] at this

end Go.Proofs.YtambkpgcccjhmaaDoor
