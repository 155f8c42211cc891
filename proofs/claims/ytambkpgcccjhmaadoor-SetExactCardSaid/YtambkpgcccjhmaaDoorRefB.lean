/- bolterref1: sets made byte by byte. No condition but bytes' bounds. -/
import Derived.Test.YtambkpgcccjhmaaDoorRefA
namespace Go.Proofs.YtambkpgcccjhmaaDoor
open Go Go.RowKit

/-- Those below k of which p says yes. -/
def upTo (p : Nat → Bool) (k : Nat) : BitVec 256 := ofP (fun j => p j && decide (j < k))
theorem upTo_zero (p : Nat → Bool) : upTo p 0 = emptyS := ofP_empty _ fun j _ => by simp
theorem upTo_yes (p : Nat → Bool) (k : Nat) (h : p k = true) : upTo p (k + 1) = upTo p k ||| bit k :=
  (ofP_bit _ _ _ fun j _ => by
    by_cases hj : j = k
    · subst hj; simp [h]
    · have : decide (j < k + 1) = decide (j < k) := by simp; omega
      simp [hj, this]).symm
theorem upTo_no (p : Nat → Bool) (k : Nat) (h : p k = false) : upTo p (k + 1) = upTo p k :=
  ofP_congr _ _ fun j _ => by
    by_cases hj : j = k
    · subst hj; simp [h]
    · have : decide (j < k + 1) = decide (j < k) := by simp; omega
      simp [this]
theorem upTo_all (p : Nat → Bool) (s : BitVec 256) (h : ∀ j, j < 256 → p j = s.getLsbD j) : upTo p 256 = s :=
  set_ext _ _ fun j hj => by unfold upTo; rw [getLsbD_ofP, h j hj]; simp [hj]
theorem or_upTo_yes (a : BitVec 256) (p : Nat → Bool) (k : Nat) (h : p k = true) : a ||| upTo p (k + 1) = a ||| upTo p k ||| bit k := by rw [upTo_yes p k h, BitVec.or_assoc]
theorem or_upTo_no (a : BitVec 256) (p : Nat → Bool) (k : Nat) (h : p k = false) : a ||| upTo p (k + 1) = a ||| upTo p k := by rw [upTo_no p k h]
theorem or_upTo_zero (a : BitVec 256) (p : Nat → Bool) : a ||| upTo p 0 = a := by rw [upTo_zero, or_emptyS]

set_option maxHeartbeats 1000000 in
theorem r1range (lo hi : Nat) (w : World) (hlo : lo < 256) (hhi : hi < 256) :
    Calls Tryd.prog 24 #[.int .i64 (lo : Int), .int .i64 (hi : Int)] w fun e w' => e = .returned (.agg #[.int .u64 (wd ((rangeSet lo hi)) 0), .int .u64 (wd ((rangeSet lo hi)) 1), .int .u64 (wd ((rangeSet lo hi)) 2), .int .u64 (wd ((rangeSet lo hi)) 3)]) ∧ Gr w w' := by
  have HLO := Lib.hid hlo
  have HHI := Lib.hid hhi
  go_enter Tryd.func24, Tryd.ntmps24
  go_wp2_with fail
  go_loopw [6] (fun i wr => ∃ (k : Nat) (S : BitVec 256), k ≤ 256 ∧ lo ≤ k ∧ (k ≤ hi + 1 ∨ k = lo) ∧ Hid (S = ofP (fun b => decide (lo ≤ b) && decide (b < k))) ∧ i = .int .i64 (k : Int) ∧ w.heap.size + 2 ≤ wr.heap.size ∧ Gr w wr ∧ boxAt wr w.heap.size [.int .u64 0, .int .u64 0, .int .u64 0, .int .u64 0] ∧ boxAt wr (w.heap.size + 1) [.int .u64 (wd S 0), .int .u64 (wd S 1), .int .u64 (wd S 2), .int .u64 (wd S 3)]) (fun i _ => 256 - (intOf i).toNat)
  case atStart =>
    obtain ⟨h0, h1, h2, h3⟩ := boxes2 w [.int .u64 0, .int .u64 0, .int .u64 0, .int .u64 0] [.int .u64 0, .int .u64 0, .int .u64 0, .int .u64 0] 24 24
    exact ⟨lo, emptyS, by omega, by omega, by omega, Lib.hid (rangeTo_start lo).symm, rfl, by rw [h3]; exact Nat.le_refl _, h2, h0, by simp only [wd_zero]; exact h1⟩
  case round =>
    obtain ⟨k, S, hk, hk2, hk3, HS, rfl, hz, hg, xr, xs⟩ := hrel
    by_cases hle : k ≤ hi
    · have hleI : (k : Int) ≤ (hi : Int) := by omega
      have hkI : (k : Int) < 256 := by omega
      have HF := Lib.hid (show S ||| bit k = ofP (fun b => decide (lo ≤ b) && decide (b < k + 1)) by rw [HS.out]; exact rangeTo_step lo k hk2)
      have HLE := Lib.hid hle
      have HK2 := Lib.hid hk2
      clear hle hk hk2 hk3 hlo hhi
      have c_s0 := xs.cell 0 _ rfl
      have c_s1 := xs.cell 1 _ rfl
      have c_s2 := xs.cell 2 _ rfl
      have c_s3 := xs.cell 3 _ rfl
      have m_s0 := xs.mark 0 _ rfl
      have m_s1 := xs.mark 1 _ rfl
      have m_s2 := xs.mark 2 _ rfl
      have m_s3 := xs.mark 3 _ rfl
      have l_s := xs.lt (Nat.succ_pos _)
      go_wp2_with fail
      clear c_s0 c_s1 c_s2 c_s3 m_s0 m_s1 m_s2 m_s3 l_s
      go_at_call 39
      refine (r1with S k _ (by have := HLE.out; have := HHI.out; omega)).mono ?_; rintro e w1 ⟨rfl, hb⟩
      replace xs := xs.later hb
      replace xr := xr.later hb
      have c_s0 := xs.cell 0 _ rfl
      have c_s1 := xs.cell 1 _ rfl
      have c_s2 := xs.cell 2 _ rfl
      have c_s3 := xs.cell 3 _ rfl
      have m_s0 := xs.mark 0 _ rfl
      have m_s1 := xs.mark 1 _ rfl
      have m_s2 := xs.mark 2 _ rfl
      have m_s3 := xs.mark 3 _ rfl
      have l_s := xs.lt (Nat.succ_pos _)
      have hz1 : w.heap.size + 2 ≤ w1.heap.size := by have := hb.size; omega
      replace hg := hg.trans hb
      clear hb hz
      go_wp2_with fail
      go_roundw
      case rel =>
        refine ⟨k + 1, S ||| bit k, by have := HLE.out; have := HHI.out; omega, by have := HK2.out; omega, by have := HLE.out; omega, HF, by go_num, ?_, ?_, ?_, ?_⟩
        · rw [size_put4]; exact hz1
        · exact Below.put4 hg (by omega) _ _ _ _
        · exact xr.far4 (by omega) _ _ _ _
        · exact xs.put4 _ _ _ _
      case measure => have := HLE.out; have := HHI.out; simp [intOf]; omega
    · have hleI : ¬ (k : Int) ≤ (hi : Int) := by omega
      have hS : S = rangeSet lo hi := by
        rw [HS.out]
        rcases hk3 with h | h
        · rcases Nat.lt_or_ge hi lo with h1 | h1
          · by_cases h2 : k = lo
            · exact rangeTo_none lo hi k h2 h1
            · omega
          · exact rangeTo_end lo hi k (by omega)
        · exact rangeTo_none lo hi k h (by omega)
      subst hS
      clear hle hk hk2 hk3 hlo hhi HS
      have c_s0 := xs.cell 0 _ rfl
      have c_s1 := xs.cell 1 _ rfl
      have c_s2 := xs.cell 2 _ rfl
      have c_s3 := xs.cell 3 _ rfl
      have m_s0 := xs.mark 0 _ rfl
      have m_s1 := xs.mark 1 _ rfl
      have m_s2 := xs.mark 2 _ rfl
      have m_s3 := xs.mark 3 _ rfl
      have l_s := xs.lt (Nat.succ_pos _)
      have c_r0 := xr.cell 0 _ rfl
      have c_r1 := xr.cell 1 _ rfl
      have c_r2 := xr.cell 2 _ rfl
      have c_r3 := xr.cell 3 _ rfl
      have m_r0 := xr.mark 0 _ rfl
      have m_r1 := xr.mark 1 _ rfl
      have m_r2 := xr.mark 2 _ rfl
      have m_r3 := xr.mark 3 _ rfl
      have l_r := xr.lt (Nat.succ_pos _)
      go_wp2_with fail
      refine bodyPost_ret (v := .agg #[.int .u64 (wd ((rangeSet lo hi)) 0), .int .u64 (wd ((rangeSet lo hi)) 1), .int .u64 (wd ((rangeSet lo hi)) 2), .int .u64 (wd ((rangeSet lo hi)) 3)]) (by simp [results, Tryd.results24, go_sem, c_r0, c_r1, c_r2, c_r3]) rfl ⟨rfl, ?_⟩
      exact Below.put4 hg (by omega) _ _ _ _

theorem range_all' : rangeSet 0 255 = ~~~emptyS := set_ext _ _ fun j hj => by
  rw [getLsbD_rangeSet, BitVec.getLsbD_not, getLsbD_empty]; simp [hj]; omega
set_option maxHeartbeats 400000 in
theorem r1all (w : World) : Calls Tryd.prog 22 #[] w fun e w' => e = .returned (.agg #[.int .u64 (wd ((~~~emptyS)) 0), .int .u64 (wd ((~~~emptyS)) 1), .int .u64 (wd ((~~~emptyS)) 2), .int .u64 (wd ((~~~emptyS)) 3)]) ∧ Gr w w' := by
  go_enter Tryd.func22, Tryd.ntmps22
  go_wp2_with fail
  go_at_call 24
  refine name_calls (fun W hW => ?_)
  have xr : boxAt W w.heap.size [.int .u64 0, .int .u64 0, .int .u64 0, .int .u64 0] := by subst hW; exact boxAt.new _ _ rfl
  have hgW : Gr w W := by rw [hW]; exact Gr.alloc _ _
  clear hW
  refine (r1range 0 255 W (by omega) (by omega)).mono ?_; rintro e w1 ⟨rfl, hb⟩
  replace xr := xr.later hb
  replace hgW := hgW.trans hb
  clear hb
  rw [range_all']
  have c_r0 := xr.cell 0 _ rfl
  have c_r1 := xr.cell 1 _ rfl
  have c_r2 := xr.cell 2 _ rfl
  have c_r3 := xr.cell 3 _ rfl
  have m_r0 := xr.mark 0 _ rfl
  have m_r1 := xr.mark 1 _ rfl
  have m_r2 := xr.mark 2 _ rfl
  have m_r3 := xr.mark 3 _ rfl
  have l_r := xr.lt (Nat.succ_pos _)
  go_wp2_with fail
  refine bodyPost_ret (v := .agg #[.int .u64 (wd ((~~~emptyS)) 0), .int .u64 (wd ((~~~emptyS)) 1), .int .u64 (wd ((~~~emptyS)) 2), .int .u64 (wd ((~~~emptyS)) 3)]) (by simp [results, Tryd.results22, go_sem, c_r0, c_r1, c_r2, c_r3]) rfl ⟨rfl, ?_⟩
  exact Below.put4 hgW (by omega) _ _ _ _

set_option maxHeartbeats 1000000 in
theorem r1union (s t : BitVec 256) (w : World) :
    Calls Tryd.prog 25 #[.agg #[.int .u64 (wd s 0), .int .u64 (wd s 1), .int .u64 (wd s 2), .int .u64 (wd s 3)], .agg #[.int .u64 (wd t 0), .int .u64 (wd t 1), .int .u64 (wd t 2), .int .u64 (wd t 3)]] w fun e w' => e = .returned (.agg #[.int .u64 (wd ((s ||| t)) 0), .int .u64 (wd ((s ||| t)) 1), .int .u64 (wd ((s ||| t)) 2), .int .u64 (wd ((s ||| t)) 3)]) ∧ Gr w w' := by
  go_enter Tryd.func25, Tryd.ntmps25
  go_wp2_with fail
  go_loopw [5] (fun i wr => ∃ (k : Nat) (S : BitVec 256), k ≤ 256 ∧ Hid (S = s ||| upTo t.getLsbD k) ∧ i = .int .i64 (k : Int) ∧ w.heap.size + 3 ≤ wr.heap.size ∧ Gr w wr ∧ boxAt wr w.heap.size [.int .u64 (wd S 0), .int .u64 (wd S 1), .int .u64 (wd S 2), .int .u64 (wd S 3)] ∧ boxAt wr (w.heap.size + 1) [.int .u64 (wd t 0), .int .u64 (wd t 1), .int .u64 (wd t 2), .int .u64 (wd t 3)] ∧ boxAt wr (w.heap.size + 2) [.int .u64 0, .int .u64 0, .int .u64 0, .int .u64 0]) (fun i _ => 256 - (intOf i).toNat)
  case atStart =>
    obtain ⟨h0, h1, h2, h3, h4⟩ := boxes3 w [.int .u64 (wd s 0), .int .u64 (wd s 1), .int .u64 (wd s 2), .int .u64 (wd s 3)] [.int .u64 (wd t 0), .int .u64 (wd t 1), .int .u64 (wd t 2), .int .u64 (wd t 3)] [.int .u64 0, .int .u64 0, .int .u64 0, .int .u64 0] 24 24 24
    exact ⟨0, s, by omega, Lib.hid (or_upTo_zero _ _).symm, rfl, by rw [h4]; exact Nat.le_refl _, h3, h0, h1, h2⟩
  case round =>
    obtain ⟨k, S, hk, HS, rfl, hz, hg, xs, xt, xr⟩ := hrel
    by_cases hlt : k < 256
    · have hkI : (k : Int) < 256 := by omega
      have HLT := Lib.hid hlt
      obtain ⟨x, hx⟩ : ∃ x, t.getLsbD k = x := ⟨_, rfl⟩
      have HX := Lib.hid hx
      clear hlt hk hx
      have c_t0 := xt.cell 0 _ rfl
      have c_t1 := xt.cell 1 _ rfl
      have c_t2 := xt.cell 2 _ rfl
      have c_t3 := xt.cell 3 _ rfl
      have m_t0 := xt.mark 0 _ rfl
      have m_t1 := xt.mark 1 _ rfl
      have m_t2 := xt.mark 2 _ rfl
      have m_t3 := xt.mark 3 _ rfl
      have l_t := xt.lt (Nat.succ_pos _)
      go_wp2_with fail
      clear c_t0 c_t1 c_t2 c_t3 m_t0 m_t1 m_t2 m_t3 l_t
      go_at_call 40
      refine (r1has t k x _ HLT.out HX.out).mono ?_; rintro e w1 ⟨rfl, hb⟩
      replace xs := xs.later hb
      replace xt := xt.later hb
      replace xr := xr.later hb
      have hz1 : w.heap.size + 3 ≤ w1.heap.size := by have := hb.size; omega
      replace hg := hg.trans hb
      clear hb hz
      cases x
      · go_wp2_with fail
        go_roundw
        case rel =>
          exact ⟨k + 1, S, by have := HLT.out; omega, Lib.hid (by rw [or_upTo_no _ _ _ HX.out]; exact HS.out), by go_num, hz1, hg, xs, xt, xr⟩
        case measure => have := HLT.out; simp [intOf]; omega
      · have c_s0 := xs.cell 0 _ rfl
        have c_s1 := xs.cell 1 _ rfl
        have c_s2 := xs.cell 2 _ rfl
        have c_s3 := xs.cell 3 _ rfl
        have m_s0 := xs.mark 0 _ rfl
        have m_s1 := xs.mark 1 _ rfl
        have m_s2 := xs.mark 2 _ rfl
        have m_s3 := xs.mark 3 _ rfl
        have l_s := xs.lt (Nat.succ_pos _)
        go_wp2_with fail
        clear c_s0 c_s1 c_s2 c_s3 m_s0 m_s1 m_s2 m_s3 l_s
        go_at_call 39
        refine (r1with S k _ HLT.out).mono ?_; rintro e w2 ⟨rfl, hb⟩
        replace xs := xs.later hb
        replace xt := xt.later hb
        replace xr := xr.later hb
        have c_s0 := xs.cell 0 _ rfl
        have c_s1 := xs.cell 1 _ rfl
        have c_s2 := xs.cell 2 _ rfl
        have c_s3 := xs.cell 3 _ rfl
        have m_s0 := xs.mark 0 _ rfl
        have m_s1 := xs.mark 1 _ rfl
        have m_s2 := xs.mark 2 _ rfl
        have m_s3 := xs.mark 3 _ rfl
        have l_s := xs.lt (Nat.succ_pos _)
        have hz2 : w.heap.size + 3 ≤ w2.heap.size := by have := hb.size; omega
        replace hg := hg.trans hb
        clear hb hz1
        go_wp2_with fail
        go_roundw
        case rel =>
          refine ⟨k + 1, S ||| bit k, by have := HLT.out; omega, Lib.hid (by rw [or_upTo_yes _ _ _ HX.out, ← HS.out]), by go_num, ?_, ?_, ?_, ?_, ?_⟩
          · rw [size_put4]; exact hz2
          · exact Below.put4 hg (by omega) _ _ _ _
          · exact xs.put4 _ _ _ _
          · exact xt.far4 (by omega) _ _ _ _
          · exact xr.far4 (by omega) _ _ _ _
        case measure => have := HLT.out; simp [intOf]; omega
    · obtain rfl : k = 256 := by omega
      obtain rfl : S = s ||| t := by rw [HS.out, upTo_all _ t (fun _ _ => rfl)]
      clear hlt hk HS
      have c_s0 := xs.cell 0 _ rfl
      have c_s1 := xs.cell 1 _ rfl
      have c_s2 := xs.cell 2 _ rfl
      have c_s3 := xs.cell 3 _ rfl
      have m_s0 := xs.mark 0 _ rfl
      have m_s1 := xs.mark 1 _ rfl
      have m_s2 := xs.mark 2 _ rfl
      have m_s3 := xs.mark 3 _ rfl
      have l_s := xs.lt (Nat.succ_pos _)
      have c_r0 := xr.cell 0 _ rfl
      have c_r1 := xr.cell 1 _ rfl
      have c_r2 := xr.cell 2 _ rfl
      have c_r3 := xr.cell 3 _ rfl
      have m_r0 := xr.mark 0 _ rfl
      have m_r1 := xr.mark 1 _ rfl
      have m_r2 := xr.mark 2 _ rfl
      have m_r3 := xr.mark 3 _ rfl
      have l_r := xr.lt (Nat.succ_pos _)
      go_wp2_with fail
      refine bodyPost_ret (v := .agg #[.int .u64 (wd ((s ||| t)) 0), .int .u64 (wd ((s ||| t)) 1), .int .u64 (wd ((s ||| t)) 2), .int .u64 (wd ((s ||| t)) 3)]) (by simp [results, Tryd.results25, go_sem, c_r0, c_r1, c_r2, c_r3]) rfl ⟨rfl, ?_⟩
      exact Below.put4 hg (by omega) _ _ _ _

set_option maxHeartbeats 1000000 in
theorem r1inter (s t : BitVec 256) (w : World) :
    Calls Tryd.prog 27 #[.agg #[.int .u64 (wd s 0), .int .u64 (wd s 1), .int .u64 (wd s 2), .int .u64 (wd s 3)], .agg #[.int .u64 (wd t 0), .int .u64 (wd t 1), .int .u64 (wd t 2), .int .u64 (wd t 3)]] w fun e w' => e = .returned (.agg #[.int .u64 (wd ((s &&& t)) 0), .int .u64 (wd ((s &&& t)) 1), .int .u64 (wd ((s &&& t)) 2), .int .u64 (wd ((s &&& t)) 3)]) ∧ Gr w w' := by
  go_enter Tryd.func27, Tryd.ntmps27
  go_wp2_with fail
  go_loopw [6] (fun i wr => ∃ (k : Nat) (S : BitVec 256), k ≤ 256 ∧ Hid (S = upTo (fun j => s.getLsbD j && t.getLsbD j) k) ∧ i = .int .i64 (k : Int) ∧ w.heap.size + 4 ≤ wr.heap.size ∧ Gr w wr ∧ boxAt wr w.heap.size [.int .u64 (wd s 0), .int .u64 (wd s 1), .int .u64 (wd s 2), .int .u64 (wd s 3)] ∧ boxAt wr (w.heap.size + 1) [.int .u64 (wd t 0), .int .u64 (wd t 1), .int .u64 (wd t 2), .int .u64 (wd t 3)] ∧ boxAt wr (w.heap.size + 2) [.int .u64 0, .int .u64 0, .int .u64 0, .int .u64 0] ∧ boxAt wr (w.heap.size + 3) [.int .u64 (wd S 0), .int .u64 (wd S 1), .int .u64 (wd S 2), .int .u64 (wd S 3)]) (fun i _ => 256 - (intOf i).toNat)
  case atStart =>
    obtain ⟨h0, h1, h2, h3, h4, h5⟩ := boxes4 w [.int .u64 (wd s 0), .int .u64 (wd s 1), .int .u64 (wd s 2), .int .u64 (wd s 3)] [.int .u64 (wd t 0), .int .u64 (wd t 1), .int .u64 (wd t 2), .int .u64 (wd t 3)] [.int .u64 0, .int .u64 0, .int .u64 0, .int .u64 0] [.int .u64 0, .int .u64 0, .int .u64 0, .int .u64 0] 24 24 24 24
    exact ⟨0, emptyS, by omega, Lib.hid (upTo_zero _).symm, rfl, by rw [h5]; exact Nat.le_refl _, h4, h0, h1, h2, by simp only [wd_zero]; exact h3⟩
  case round =>
    obtain ⟨k, S, hk, HS, rfl, hz, hg, xs, xt, xr, xa⟩ := hrel
    by_cases hlt : k < 256
    · have hkI : (k : Int) < 256 := by omega
      have HLT := Lib.hid hlt
      obtain ⟨x, hx⟩ : ∃ x, s.getLsbD k = x := ⟨_, rfl⟩
      obtain ⟨y, hy⟩ : ∃ y, t.getLsbD k = y := ⟨_, rfl⟩
      have HX := Lib.hid hx
      have HY := Lib.hid hy
      clear hlt hk hx hy
      have c_s0 := xs.cell 0 _ rfl
      have c_s1 := xs.cell 1 _ rfl
      have c_s2 := xs.cell 2 _ rfl
      have c_s3 := xs.cell 3 _ rfl
      have m_s0 := xs.mark 0 _ rfl
      have m_s1 := xs.mark 1 _ rfl
      have m_s2 := xs.mark 2 _ rfl
      have m_s3 := xs.mark 3 _ rfl
      have l_s := xs.lt (Nat.succ_pos _)
      go_wp2_with fail
      clear c_s0 c_s1 c_s2 c_s3 m_s0 m_s1 m_s2 m_s3 l_s
      go_at_call 40
      refine (r1has s k x _ HLT.out HX.out).mono ?_; rintro e w1 ⟨rfl, hb⟩
      replace xs := xs.later hb
      replace xt := xt.later hb
      replace xr := xr.later hb
      replace xa := xa.later hb
      have hz1 : w.heap.size + 4 ≤ w1.heap.size := by have := hb.size; omega
      replace hg := hg.trans hb
      clear hb hz
      cases x
      · go_wp2_with fail
        go_roundw
        case rel =>
          exact ⟨k + 1, S, by have := HLT.out; omega, Lib.hid (by rw [upTo_no _ _ (by simp only [HX.out, Bool.false_and])]; exact HS.out), by go_num, hz1, hg, xs, xt, xr, xa⟩
        case measure => have := HLT.out; simp [intOf]; omega
      · have c_t0 := xt.cell 0 _ rfl
        have c_t1 := xt.cell 1 _ rfl
        have c_t2 := xt.cell 2 _ rfl
        have c_t3 := xt.cell 3 _ rfl
        have m_t0 := xt.mark 0 _ rfl
        have m_t1 := xt.mark 1 _ rfl
        have m_t2 := xt.mark 2 _ rfl
        have m_t3 := xt.mark 3 _ rfl
        have l_t := xt.lt (Nat.succ_pos _)
        go_wp2_with fail
        clear c_t0 c_t1 c_t2 c_t3 m_t0 m_t1 m_t2 m_t3 l_t
        go_at_call 40
        refine (r1has t k y _ HLT.out HY.out).mono ?_; rintro e w2 ⟨rfl, hb⟩
        replace xs := xs.later hb
        replace xt := xt.later hb
        replace xr := xr.later hb
        replace xa := xa.later hb
        have hz2 : w.heap.size + 4 ≤ w2.heap.size := by have := hb.size; omega
        replace hg := hg.trans hb
        clear hb hz1
        have c_a0 := xa.cell 0 _ rfl
        have c_a1 := xa.cell 1 _ rfl
        have c_a2 := xa.cell 2 _ rfl
        have c_a3 := xa.cell 3 _ rfl
        have m_a0 := xa.mark 0 _ rfl
        have m_a1 := xa.mark 1 _ rfl
        have m_a2 := xa.mark 2 _ rfl
        have m_a3 := xa.mark 3 _ rfl
        have l_a := xa.lt (Nat.succ_pos _)
        cases y
        · go_wp2_with fail
          go_roundw
          case rel =>
            exact ⟨k + 1, S, by have := HLT.out; omega, Lib.hid (by rw [upTo_no _ _ (by simp [HX.out, HY.out])]; exact HS.out), by go_num, hz2, hg, xs, xt, xr, xa⟩
          case measure => have := HLT.out; simp [intOf]; omega
        · go_wp2_with fail
          clear c_a0 c_a1 c_a2 c_a3 m_a0 m_a1 m_a2 m_a3 l_a
          go_at_call 39
          refine (r1with S k _ HLT.out).mono ?_; rintro e w3 ⟨rfl, hb⟩
          replace xs := xs.later hb
          replace xt := xt.later hb
          replace xr := xr.later hb
          replace xa := xa.later hb
          have c_a0 := xa.cell 0 _ rfl
          have c_a1 := xa.cell 1 _ rfl
          have c_a2 := xa.cell 2 _ rfl
          have c_a3 := xa.cell 3 _ rfl
          have m_a0 := xa.mark 0 _ rfl
          have m_a1 := xa.mark 1 _ rfl
          have m_a2 := xa.mark 2 _ rfl
          have m_a3 := xa.mark 3 _ rfl
          have l_a := xa.lt (Nat.succ_pos _)
          have hz3 : w.heap.size + 4 ≤ w3.heap.size := by have := hb.size; omega
          replace hg := hg.trans hb
          clear hb hz2
          go_wp2_with fail
          go_roundw
          case rel =>
            refine ⟨k + 1, S ||| bit k, by have := HLT.out; omega, Lib.hid (by rw [upTo_yes _ _ (by simp [HX.out, HY.out]), ← HS.out]), by go_num, ?_, ?_, ?_, ?_, ?_, ?_⟩
            · rw [size_put4]; exact hz3
            · exact Below.put4 hg (by omega) _ _ _ _
            · exact xs.far4 (by omega) _ _ _ _
            · exact xt.far4 (by omega) _ _ _ _
            · exact xr.far4 (by omega) _ _ _ _
            · exact xa.put4 _ _ _ _
          case measure => have := HLT.out; simp [intOf]; omega
    · obtain rfl : k = 256 := by omega
      obtain rfl : S = s &&& t := by rw [HS.out]; exact upTo_all _ _ (fun j hj => by simp [hj])
      clear hlt hk HS
      have c_a0 := xa.cell 0 _ rfl
      have c_a1 := xa.cell 1 _ rfl
      have c_a2 := xa.cell 2 _ rfl
      have c_a3 := xa.cell 3 _ rfl
      have m_a0 := xa.mark 0 _ rfl
      have m_a1 := xa.mark 1 _ rfl
      have m_a2 := xa.mark 2 _ rfl
      have m_a3 := xa.mark 3 _ rfl
      have l_a := xa.lt (Nat.succ_pos _)
      have c_r0 := xr.cell 0 _ rfl
      have c_r1 := xr.cell 1 _ rfl
      have c_r2 := xr.cell 2 _ rfl
      have c_r3 := xr.cell 3 _ rfl
      have m_r0 := xr.mark 0 _ rfl
      have m_r1 := xr.mark 1 _ rfl
      have m_r2 := xr.mark 2 _ rfl
      have m_r3 := xr.mark 3 _ rfl
      have l_r := xr.lt (Nat.succ_pos _)
      go_wp2_with fail
      refine bodyPost_ret (v := .agg #[.int .u64 (wd ((s &&& t)) 0), .int .u64 (wd ((s &&& t)) 1), .int .u64 (wd ((s &&& t)) 2), .int .u64 (wd ((s &&& t)) 3)]) (by simp [results, Tryd.results27, go_sem, c_r0, c_r1, c_r2, c_r3]) rfl ⟨rfl, ?_⟩
      exact Below.put4 hg (by omega) _ _ _ _

set_option maxHeartbeats 1000000 in
theorem r1minus (s t : BitVec 256) (w : World) :
    Calls Tryd.prog 29 #[.agg #[.int .u64 (wd s 0), .int .u64 (wd s 1), .int .u64 (wd s 2), .int .u64 (wd s 3)], .agg #[.int .u64 (wd t 0), .int .u64 (wd t 1), .int .u64 (wd t 2), .int .u64 (wd t 3)]] w fun e w' => e = .returned (.agg #[.int .u64 (wd ((s &&& ~~~t)) 0), .int .u64 (wd ((s &&& ~~~t)) 1), .int .u64 (wd ((s &&& ~~~t)) 2), .int .u64 (wd ((s &&& ~~~t)) 3)]) ∧ Gr w w' := by
  go_enter Tryd.func29, Tryd.ntmps29
  go_wp2_with fail
  go_loopw [6] (fun i wr => ∃ (k : Nat) (S : BitVec 256), k ≤ 256 ∧ Hid (S = upTo (fun j => s.getLsbD j && !t.getLsbD j) k) ∧ i = .int .i64 (k : Int) ∧ w.heap.size + 4 ≤ wr.heap.size ∧ Gr w wr ∧ boxAt wr w.heap.size [.int .u64 (wd s 0), .int .u64 (wd s 1), .int .u64 (wd s 2), .int .u64 (wd s 3)] ∧ boxAt wr (w.heap.size + 1) [.int .u64 (wd t 0), .int .u64 (wd t 1), .int .u64 (wd t 2), .int .u64 (wd t 3)] ∧ boxAt wr (w.heap.size + 2) [.int .u64 0, .int .u64 0, .int .u64 0, .int .u64 0] ∧ boxAt wr (w.heap.size + 3) [.int .u64 (wd S 0), .int .u64 (wd S 1), .int .u64 (wd S 2), .int .u64 (wd S 3)]) (fun i _ => 256 - (intOf i).toNat)
  case atStart =>
    obtain ⟨h0, h1, h2, h3, h4, h5⟩ := boxes4 w [.int .u64 (wd s 0), .int .u64 (wd s 1), .int .u64 (wd s 2), .int .u64 (wd s 3)] [.int .u64 (wd t 0), .int .u64 (wd t 1), .int .u64 (wd t 2), .int .u64 (wd t 3)] [.int .u64 0, .int .u64 0, .int .u64 0, .int .u64 0] [.int .u64 0, .int .u64 0, .int .u64 0, .int .u64 0] 24 24 24 24
    exact ⟨0, emptyS, by omega, Lib.hid (upTo_zero _).symm, rfl, by rw [h5]; exact Nat.le_refl _, h4, h0, h1, h2, by simp only [wd_zero]; exact h3⟩
  case round =>
    obtain ⟨k, S, hk, HS, rfl, hz, hg, xs, xt, xr, xa⟩ := hrel
    by_cases hlt : k < 256
    · have hkI : (k : Int) < 256 := by omega
      have HLT := Lib.hid hlt
      obtain ⟨x, hx⟩ : ∃ x, s.getLsbD k = x := ⟨_, rfl⟩
      obtain ⟨y, hy⟩ : ∃ y, t.getLsbD k = y := ⟨_, rfl⟩
      have HX := Lib.hid hx
      have HY := Lib.hid hy
      clear hlt hk hx hy
      have c_s0 := xs.cell 0 _ rfl
      have c_s1 := xs.cell 1 _ rfl
      have c_s2 := xs.cell 2 _ rfl
      have c_s3 := xs.cell 3 _ rfl
      have m_s0 := xs.mark 0 _ rfl
      have m_s1 := xs.mark 1 _ rfl
      have m_s2 := xs.mark 2 _ rfl
      have m_s3 := xs.mark 3 _ rfl
      have l_s := xs.lt (Nat.succ_pos _)
      go_wp2_with fail
      clear c_s0 c_s1 c_s2 c_s3 m_s0 m_s1 m_s2 m_s3 l_s
      go_at_call 40
      refine (r1has s k x _ HLT.out HX.out).mono ?_; rintro e w1 ⟨rfl, hb⟩
      replace xs := xs.later hb
      replace xt := xt.later hb
      replace xr := xr.later hb
      replace xa := xa.later hb
      have hz1 : w.heap.size + 4 ≤ w1.heap.size := by have := hb.size; omega
      replace hg := hg.trans hb
      clear hb hz
      cases x
      · go_wp2_with fail
        go_roundw
        case rel =>
          exact ⟨k + 1, S, by have := HLT.out; omega, Lib.hid (by rw [upTo_no _ _ (by simp only [HX.out, Bool.false_and])]; exact HS.out), by go_num, hz1, hg, xs, xt, xr, xa⟩
        case measure => have := HLT.out; simp [intOf]; omega
      · have c_t0 := xt.cell 0 _ rfl
        have c_t1 := xt.cell 1 _ rfl
        have c_t2 := xt.cell 2 _ rfl
        have c_t3 := xt.cell 3 _ rfl
        have m_t0 := xt.mark 0 _ rfl
        have m_t1 := xt.mark 1 _ rfl
        have m_t2 := xt.mark 2 _ rfl
        have m_t3 := xt.mark 3 _ rfl
        have l_t := xt.lt (Nat.succ_pos _)
        go_wp2_with fail
        clear c_t0 c_t1 c_t2 c_t3 m_t0 m_t1 m_t2 m_t3 l_t
        go_at_call 40
        refine (r1has t k y _ HLT.out HY.out).mono ?_; rintro e w2 ⟨rfl, hb⟩
        replace xs := xs.later hb
        replace xt := xt.later hb
        replace xr := xr.later hb
        replace xa := xa.later hb
        have hz2 : w.heap.size + 4 ≤ w2.heap.size := by have := hb.size; omega
        replace hg := hg.trans hb
        clear hb hz1
        have c_a0 := xa.cell 0 _ rfl
        have c_a1 := xa.cell 1 _ rfl
        have c_a2 := xa.cell 2 _ rfl
        have c_a3 := xa.cell 3 _ rfl
        have m_a0 := xa.mark 0 _ rfl
        have m_a1 := xa.mark 1 _ rfl
        have m_a2 := xa.mark 2 _ rfl
        have m_a3 := xa.mark 3 _ rfl
        have l_a := xa.lt (Nat.succ_pos _)
        cases y
        · go_wp2_with fail
          clear c_a0 c_a1 c_a2 c_a3 m_a0 m_a1 m_a2 m_a3 l_a
          go_at_call 39
          refine (r1with S k _ HLT.out).mono ?_; rintro e w3 ⟨rfl, hb⟩
          replace xs := xs.later hb
          replace xt := xt.later hb
          replace xr := xr.later hb
          replace xa := xa.later hb
          have c_a0 := xa.cell 0 _ rfl
          have c_a1 := xa.cell 1 _ rfl
          have c_a2 := xa.cell 2 _ rfl
          have c_a3 := xa.cell 3 _ rfl
          have m_a0 := xa.mark 0 _ rfl
          have m_a1 := xa.mark 1 _ rfl
          have m_a2 := xa.mark 2 _ rfl
          have m_a3 := xa.mark 3 _ rfl
          have l_a := xa.lt (Nat.succ_pos _)
          have hz3 : w.heap.size + 4 ≤ w3.heap.size := by have := hb.size; omega
          replace hg := hg.trans hb
          clear hb hz2
          go_wp2_with fail
          go_roundw
          case rel =>
            refine ⟨k + 1, S ||| bit k, by have := HLT.out; omega, Lib.hid (by rw [upTo_yes _ _ (by simp [HX.out, HY.out]), ← HS.out]), by go_num, ?_, ?_, ?_, ?_, ?_, ?_⟩
            · rw [size_put4]; exact hz3
            · exact Below.put4 hg (by omega) _ _ _ _
            · exact xs.far4 (by omega) _ _ _ _
            · exact xt.far4 (by omega) _ _ _ _
            · exact xr.far4 (by omega) _ _ _ _
            · exact xa.put4 _ _ _ _
          case measure => have := HLT.out; simp [intOf]; omega
        · go_wp2_with fail
          go_roundw
          case rel =>
            exact ⟨k + 1, S, by have := HLT.out; omega, Lib.hid (by rw [upTo_no _ _ (by simp [HX.out, HY.out])]; exact HS.out), by go_num, hz2, hg, xs, xt, xr, xa⟩
          case measure => have := HLT.out; simp [intOf]; omega
    · obtain rfl : k = 256 := by omega
      obtain rfl : S = s &&& ~~~t := by rw [HS.out]; exact upTo_all _ _ (fun j hj => by simp [hj])
      clear hlt hk HS
      have c_a0 := xa.cell 0 _ rfl
      have c_a1 := xa.cell 1 _ rfl
      have c_a2 := xa.cell 2 _ rfl
      have c_a3 := xa.cell 3 _ rfl
      have m_a0 := xa.mark 0 _ rfl
      have m_a1 := xa.mark 1 _ rfl
      have m_a2 := xa.mark 2 _ rfl
      have m_a3 := xa.mark 3 _ rfl
      have l_a := xa.lt (Nat.succ_pos _)
      have c_r0 := xr.cell 0 _ rfl
      have c_r1 := xr.cell 1 _ rfl
      have c_r2 := xr.cell 2 _ rfl
      have c_r3 := xr.cell 3 _ rfl
      have m_r0 := xr.mark 0 _ rfl
      have m_r1 := xr.mark 1 _ rfl
      have m_r2 := xr.mark 2 _ rfl
      have m_r3 := xr.mark 3 _ rfl
      have l_r := xr.lt (Nat.succ_pos _)
      go_wp2_with fail
      refine bodyPost_ret (v := .agg #[.int .u64 (wd ((s &&& ~~~t)) 0), .int .u64 (wd ((s &&& ~~~t)) 1), .int .u64 (wd ((s &&& ~~~t)) 2), .int .u64 (wd ((s &&& ~~~t)) 3)]) (by simp [results, Tryd.results29, go_sem, c_r0, c_r1, c_r2, c_r3]) rfl ⟨rfl, ?_⟩
      exact Below.put4 hg (by omega) _ _ _ _

end Go.Proofs.YtambkpgcccjhmaaDoor
