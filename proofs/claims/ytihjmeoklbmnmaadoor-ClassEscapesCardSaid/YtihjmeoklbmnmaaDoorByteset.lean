/- What the functions of package byteset compute: one contract a function. No condition. -/
import Derived.Test.YtihjmeoklbmnmaaDoorRows
import Derived.Test.YtihjmeoklbmnmaaDoorSet
import Derived.WalkKit
import Derived.WalkSpells
import Derived.WalkLawsBesides
import Derived.Lib.Hide
import Derived.Deep.RegionHeld3
namespace Go.Proofs.YtihjmeoklbmnmaaDoor
open Go.RowKit

/-- Old cells and old marks, behind a call that only makes memory. -/
theorem bcell {W w1 : World} (hb : Below W.heap.size W w1) : (∀ b o, b < W.heap.size → w1.cell? ⟨b, o, none⟩ = W.cell? ⟨b, o, none⟩) ∧ (∀ b o, b < W.heap.size → w1.frozen? ⟨b, o, none⟩ = W.frozen? ⟨b, o, none⟩) :=
  ⟨fun b o h => hb.cell (p := ⟨b, o, none⟩) h, fun b o h => hb.frozen (p := ⟨b, o, none⟩) h⟩

@[go_sem] theorem setCell_drewN (w : World) (n : Nat) (a : Addr) (v : Value) : (w.drewN n).setCell a v = (w.setCell a v).drewN n := rfl
@[go_sem] theorem alloc_drewN (w : World) (n : Nat) (o : Obj) : (w.drewN n).alloc o = (w.alloc o).drewN n := rfl

set_option maxRecDepth 100000 in
set_option maxHeartbeats 400000 in
theorem union_any (s t : BitVec 256) (w : World) :
    Calls Tryd.prog 15 #[.agg #[.int .u64 (wd s 0), .int .u64 (wd s 1), .int .u64 (wd s 2), .int .u64 (wd s 3)], .agg #[.int .u64 (wd t 0), .int .u64 (wd t 1), .int .u64 (wd t 2), .int .u64 (wd t 3)]] w fun e w' => e = .returned (.agg #[.int .u64 (wd ((s ||| t)) 0), .int .u64 (wd ((s ||| t)) 1), .int .u64 (wd ((s ||| t)) 2), .int .u64 (wd ((s ||| t)) 3)]) ∧ Below w.heap.size w w' := by
  have o0 := wd_or s t 0
  have o1 := wd_or s t 1
  have o2 := wd_or s t 2
  have o3 := wd_or s t 3
  go_enter Tryd.func15, Tryd.ntmps15
  go_wp2
  refine wp_loop_rounds 5 ?_; rw [rounds_succ]
  go_wp2
  go_region
  go_wp2
  rw [rounds_succ]
  go_wp2
  go_region
  go_wp2
  rw [rounds_succ]
  go_wp2
  go_region
  go_wp2
  rw [rounds_succ]
  go_wp2
  go_region
  go_wp2
  rw [rounds_succ]
  go_wp2
  exact bodyPost_ret (v := .agg #[.int .u64 (wd ((s ||| t)) 0), .int .u64 (wd ((s ||| t)) 1), .int .u64 (wd ((s ||| t)) 2), .int .u64 (wd ((s ||| t)) 3)]) (by simp [results, Tryd.results15, go_sem]) rfl ⟨rfl, ((((((Below.refl _ _).alloc (Nat.le_refl _) _).alloc (by simp) _).alloc (by simp; omega) _).drew).drew).drew.drew⟩

set_option maxRecDepth 100000 in
set_option maxHeartbeats 400000 in
theorem complement_any (s : BitVec 256) (w : World) :
    Calls Tryd.prog 14 #[.agg #[.int .u64 (wd s 0), .int .u64 (wd s 1), .int .u64 (wd s 2), .int .u64 (wd s 3)]] w fun e w' => e = .returned (.agg #[.int .u64 (wd ((~~~s)) 0), .int .u64 (wd ((~~~s)) 1), .int .u64 (wd ((~~~s)) 2), .int .u64 (wd ((~~~s)) 3)]) ∧ Below w.heap.size w w' := by
  have o0 := wd_not s 0 (by decide)
  have o1 := wd_not s 1 (by decide)
  have o2 := wd_not s 2 (by decide)
  have o3 := wd_not s 3 (by decide)
  go_enter Tryd.func14, Tryd.ntmps14
  go_wp2
  refine wp_loop_rounds 5 ?_; rw [rounds_succ]
  go_wp2
  rw [rounds_succ]
  go_wp2
  rw [rounds_succ]
  go_wp2
  rw [rounds_succ]
  go_wp2
  rw [rounds_succ]
  go_wp2
  exact bodyPost_ret (v := .agg #[.int .u64 (wd ((~~~s)) 0), .int .u64 (wd ((~~~s)) 1), .int .u64 (wd ((~~~s)) 2), .int .u64 (wd ((~~~s)) 3)]) (by simp [results, Tryd.results14, go_sem]) rfl ⟨rfl, (((Below.refl _ _).alloc (Nat.le_refl _) _).alloc (by simp) _)⟩

set_option maxRecDepth 100000 in
set_option maxHeartbeats 400000 in
theorem has_0 (s : BitVec 256) (x : Int) (r : Nat) (w : World) (hd : x / 64 = 0) (hm : x % 64 = (r : Int)) (h0 : 0 ≤ x) (h1 : x < 256) (hlo : 0 ≤ wd s 0) (hhi : wd s 0 < 18446744073709551616) (hx : (bits .and .u64 (wd s 0 / 2 ^ r) 1 == 1) = s.getLsbD (64 * 0 + r)) :
    Calls Tryd.prog 45 #[.agg #[.int .u64 (wd s 0), .int .u64 (wd s 1), .int .u64 (wd s 2), .int .u64 (wd s 3)], .int .u8 x] w fun e w' => e = .returned (.bool (s.getLsbD (64 * 0 + r))) ∧ Below w.heap.size w w' := by
  have HX := Lib.hid hx
  clear hx
  go_enter Tryd.func45, Tryd.ntmps45
  go_wp2
  go_ret
  exact ⟨by rw [← HX.out]; rfl, (Below.refl _ _).alloc (Nat.le_refl _) _⟩

set_option maxRecDepth 100000 in
set_option maxHeartbeats 400000 in
theorem has_1 (s : BitVec 256) (x : Int) (r : Nat) (w : World) (hd : x / 64 = 1) (hm : x % 64 = (r : Int)) (h0 : 0 ≤ x) (h1 : x < 256) (hlo : 0 ≤ wd s 1) (hhi : wd s 1 < 18446744073709551616) (hx : (bits .and .u64 (wd s 1 / 2 ^ r) 1 == 1) = s.getLsbD (64 * 1 + r)) :
    Calls Tryd.prog 45 #[.agg #[.int .u64 (wd s 0), .int .u64 (wd s 1), .int .u64 (wd s 2), .int .u64 (wd s 3)], .int .u8 x] w fun e w' => e = .returned (.bool (s.getLsbD (64 * 1 + r))) ∧ Below w.heap.size w w' := by
  have HX := Lib.hid hx
  clear hx
  go_enter Tryd.func45, Tryd.ntmps45
  go_wp2
  go_ret
  exact ⟨by rw [← HX.out]; rfl, (Below.refl _ _).alloc (Nat.le_refl _) _⟩

set_option maxRecDepth 100000 in
set_option maxHeartbeats 400000 in
theorem has_2 (s : BitVec 256) (x : Int) (r : Nat) (w : World) (hd : x / 64 = 2) (hm : x % 64 = (r : Int)) (h0 : 0 ≤ x) (h1 : x < 256) (hlo : 0 ≤ wd s 2) (hhi : wd s 2 < 18446744073709551616) (hx : (bits .and .u64 (wd s 2 / 2 ^ r) 1 == 1) = s.getLsbD (64 * 2 + r)) :
    Calls Tryd.prog 45 #[.agg #[.int .u64 (wd s 0), .int .u64 (wd s 1), .int .u64 (wd s 2), .int .u64 (wd s 3)], .int .u8 x] w fun e w' => e = .returned (.bool (s.getLsbD (64 * 2 + r))) ∧ Below w.heap.size w w' := by
  have HX := Lib.hid hx
  clear hx
  go_enter Tryd.func45, Tryd.ntmps45
  go_wp2
  go_ret
  exact ⟨by rw [← HX.out]; rfl, (Below.refl _ _).alloc (Nat.le_refl _) _⟩

set_option maxRecDepth 100000 in
set_option maxHeartbeats 400000 in
theorem has_3 (s : BitVec 256) (x : Int) (r : Nat) (w : World) (hd : x / 64 = 3) (hm : x % 64 = (r : Int)) (h0 : 0 ≤ x) (h1 : x < 256) (hlo : 0 ≤ wd s 3) (hhi : wd s 3 < 18446744073709551616) (hx : (bits .and .u64 (wd s 3 / 2 ^ r) 1 == 1) = s.getLsbD (64 * 3 + r)) :
    Calls Tryd.prog 45 #[.agg #[.int .u64 (wd s 0), .int .u64 (wd s 1), .int .u64 (wd s 2), .int .u64 (wd s 3)], .int .u8 x] w fun e w' => e = .returned (.bool (s.getLsbD (64 * 3 + r))) ∧ Below w.heap.size w w' := by
  have HX := Lib.hid hx
  clear hx
  go_enter Tryd.func45, Tryd.ntmps45
  go_wp2
  go_ret
  exact ⟨by rw [← HX.out]; rfl, (Below.refl _ _).alloc (Nat.le_refl _) _⟩

theorem has_any (s : BitVec 256) (b : Nat) (w : World) (hb : b < 256) :
    Calls Tryd.prog 45 #[.agg #[.int .u64 (wd s 0), .int .u64 (wd s 1), .int .u64 (wd s 2), .int .u64 (wd s 3)], .int .u8 b] w fun e w' => e = .returned (.bool (s.getLsbD b)) ∧ Below w.heap.size w w' := by
  have hlo := wd_lo s
  have hhi := wd_hi s
  have hx := fun i => wd_test s i (b % 64) (by omega)
  have hm : (b : Int) % 64 = ((b % 64 : Nat) : Int) := by omega
  have hcase : b / 64 = 0 ∨ b / 64 = 1 ∨ b / 64 = 2 ∨ b / 64 = 3 := by omega
  rcases hcase with h | h | h | h
  · have e : 64 * 0 + b % 64 = b := by omega
    have := has_0 s b (b % 64) w (by omega) hm (by omega) (by omega) (hlo _) (hhi _) (hx _)
    rw [e] at this; exact this
  · have e : 64 * 1 + b % 64 = b := by omega
    have := has_1 s b (b % 64) w (by omega) hm (by omega) (by omega) (hlo _) (hhi _) (hx _)
    rw [e] at this; exact this
  · have e : 64 * 2 + b % 64 = b := by omega
    have := has_2 s b (b % 64) w (by omega) hm (by omega) (by omega) (hlo _) (hhi _) (hx _)
    rw [e] at this; exact this
  · have e : 64 * 3 + b % 64 = b := by omega
    have := has_3 s b (b % 64) w (by omega) hm (by omega) (by omega) (hlo _) (hhi _) (hx _)
    rw [e] at this; exact this

set_option maxRecDepth 100000 in
set_option maxHeartbeats 400000 in
theorem inter_any (s t : BitVec 256) (w : World) :
    Calls Tryd.prog 16 #[.agg #[.int .u64 (wd s 0), .int .u64 (wd s 1), .int .u64 (wd s 2), .int .u64 (wd s 3)], .agg #[.int .u64 (wd t 0), .int .u64 (wd t 1), .int .u64 (wd t 2), .int .u64 (wd t 3)]] w fun e w' => e = .returned (.agg #[.int .u64 (wd ((s &&& t)) 0), .int .u64 (wd ((s &&& t)) 1), .int .u64 (wd ((s &&& t)) 2), .int .u64 (wd ((s &&& t)) 3)]) ∧ Below w.heap.size w w' := by
  have o0 := wd_and s t 0
  have o1 := wd_and s t 1
  have o2 := wd_and s t 2
  have o3 := wd_and s t 3
  go_enter Tryd.func16, Tryd.ntmps16
  go_wp2
  refine wp_loop_rounds 5 ?_; rw [rounds_succ]
  go_wp2
  go_region
  go_wp2
  rw [rounds_succ]
  go_wp2
  go_region
  go_wp2
  rw [rounds_succ]
  go_wp2
  go_region
  go_wp2
  rw [rounds_succ]
  go_wp2
  go_region
  go_wp2
  rw [rounds_succ]
  go_wp2
  exact bodyPost_ret (v := .agg #[.int .u64 (wd ((s &&& t)) 0), .int .u64 (wd ((s &&& t)) 1), .int .u64 (wd ((s &&& t)) 2), .int .u64 (wd ((s &&& t)) 3)]) (by simp [results, Tryd.results16, go_sem]) rfl ⟨rfl, ((((((Below.refl _ _).alloc (Nat.le_refl _) _).alloc (by simp) _).alloc (by simp; omega) _).drew).drew).drew.drew⟩

end Go.Proofs.YtihjmeoklbmnmaaDoor
