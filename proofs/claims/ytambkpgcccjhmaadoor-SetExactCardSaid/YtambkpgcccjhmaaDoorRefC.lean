/- bolterref1: Complement, Within, Compare, Of, OfSpans. No condition. -/
import Derived.Test.YtambkpgcccjhmaaDoorRefB
namespace Go.Proofs.YtambkpgcccjhmaaDoor
open Go Go.RowKit

set_option maxHeartbeats 1000000 in
theorem r1compl (s : BitVec 256) (w : World) : Calls Tryd.prog 31 #[.agg #[.int .u64 (wd s 0), .int .u64 (wd s 1), .int .u64 (wd s 2), .int .u64 (wd s 3)]] w fun e w' => e = .returned (.agg #[.int .u64 (wd ((~~~s)) 0), .int .u64 (wd ((~~~s)) 1), .int .u64 (wd ((~~~s)) 2), .int .u64 (wd ((~~~s)) 3)]) ∧ Gr w w' := by
  have he : ~~~emptyS &&& ~~~s = ~~~s := set_ext _ _ fun j hj => by
    simp only [BitVec.getLsbD_and, BitVec.getLsbD_not, getLsbD_empty, hj]; simp
  have HE := Lib.hid he
  clear he
  go_enter Tryd.func31, Tryd.ntmps31
  go_wp2_with fail
  refine name_world (fun W hW => ?_)
  obtain ⟨xs, xr, hgW, hsz⟩ : boxAt W w.heap.size [.int .u64 (wd s 0), .int .u64 (wd s 1), .int .u64 (wd s 2), .int .u64 (wd s 3)] ∧ boxAt W (w.heap.size + 1) [.int .u64 0, .int .u64 0, .int .u64 0, .int .u64 0] ∧ Gr w W ∧ W.heap.size = w.heap.size + 2 := by
    subst hW; exact boxes2 _ _ _ _ _
  clear hW
  have c_s0 := xs.cell 0 _ rfl
  have c_s1 := xs.cell 1 _ rfl
  have c_s2 := xs.cell 2 _ rfl
  have c_s3 := xs.cell 3 _ rfl
  have m_s0 := xs.mark 0 _ rfl
  have m_s1 := xs.mark 1 _ rfl
  have m_s2 := xs.mark 2 _ rfl
  have m_s3 := xs.mark 3 _ rfl
  have l_s := xs.lt (Nat.succ_pos _)
  have c_r0 := xr.cell 0 _ rfl
  have c_r1 := xr.cell 1 _ rfl
  have c_r2 := xr.cell 2 _ rfl
  have c_r3 := xr.cell 3 _ rfl
  have m_r0 := xr.mark 0 _ rfl
  have m_r1 := xr.mark 1 _ rfl
  have m_r2 := xr.mark 2 _ rfl
  have m_r3 := xr.mark 3 _ rfl
  have l_r := xr.lt (Nat.succ_pos _)
  refine wp_region_G (.take 1 (.run 0 false (.run 2 false (.run 3 true .nil)))) (by kernel_rfl) (by kernel_rfl) ?_
  simp only [pickOps, nthOp]
  intro wq hG
  repeat (first | (refine wpG_skip_take ?_ ?_; (focus rfl); try simp only [Act.put, List.setIfInBounds_toArray, List.set_cons_zero, List.set_cons_succ]) | (refine wpG_skip_run ?_ ?_; (focus rfl); try simp only [Act.put, List.setIfInBounds_toArray, List.set_cons_zero, List.set_cons_succ]) | (refine wpG_take ?_ ?_; (focus rfl); apply Exists.intro; refine ⟨fun w' hw' => ?_, ?_⟩; (focus (have hc := Gr.cells hw'; go_simp; (try rfl); done)); try simp only [Act.put, List.setIfInBounds_toArray, List.set_cons_zero, List.set_cons_succ]) | (refine wpG_run ?_ (fun K hK => ?_); (focus rfl); go_simp; (first | (go_at_call 22; (with_reducible refine (r1all _).mono ?_); rintro e w' ⟨rfl, hb⟩) | (go_at_call 29; (with_reducible refine (r1minus _ _ _).mono ?_); rintro e w' ⟨rfl, hb⟩)); (try dsimp only); replace hG := hG.trans hb; refine hK.out _ _ hG ?_; clear hK K hb; try simp only [Act.put, List.setIfInBounds_toArray, List.set_cons_zero, List.set_cons_succ]))
  rename_i w2
  refine wpG_last ?_ (fun K hK => ?_); (focus rfl)
  have hc := hG.cells
  have hm := hG.marks
  go_simp
  refine hK.out _ _ ?_
  try simp only [Act.put, List.setIfInBounds_toArray, List.set_cons_zero, List.set_cons_succ]
  clear hK K hc hm
  refine wpG_done ?_
  have yr := (xr.later hG).put4 (.int .u64 (wd (~~~emptyS &&& ~~~s) 0)) (.int .u64 (wd (~~~emptyS &&& ~~~s) 1)) (.int .u64 (wd (~~~emptyS &&& ~~~s) 2)) (.int .u64 (wd (~~~emptyS &&& ~~~s) 3))
  go_wp2
  refine bodyPost_ret (v := .agg #[.int .u64 (wd ((~~~emptyS &&& ~~~s)) 0), .int .u64 (wd ((~~~emptyS &&& ~~~s)) 1), .int .u64 (wd ((~~~emptyS &&& ~~~s)) 2), .int .u64 (wd ((~~~emptyS &&& ~~~s)) 3)]) (by simp [results, Tryd.results31, go_sem, yr.cell 0 _ rfl, yr.cell 1 _ rfl, yr.cell 2 _ rfl, yr.cell 3 _ rfl]) rfl ⟨by rw [HE.out], ?_⟩
  exact Below.put4 (hgW.trans hG) (by omega) _ _ _ _

theorem minus_none (s t : BitVec 256) : (s &&& ~~~t == emptyS) = (s &&& t == s) := by
  rw [Bool.eq_iff_iff, beq_iff_eq, beq_iff_eq]
  constructor
  · intro h; refine set_ext _ _ fun j hj => ?_
    have := congrArg (fun x => x.getLsbD j) h
    simp only [BitVec.getLsbD_and, BitVec.getLsbD_not, getLsbD_empty, hj] at this ⊢
    revert this; cases s.getLsbD j <;> cases t.getLsbD j <;> simp
  · intro h; refine set_ext _ _ fun j hj => ?_
    have := congrArg (fun x => x.getLsbD j) h
    simp only [BitVec.getLsbD_and, BitVec.getLsbD_not, getLsbD_empty, hj] at this ⊢
    revert this; cases s.getLsbD j <;> cases t.getLsbD j <;> simp
set_option maxHeartbeats 1000000 in
theorem r1within (s t : BitVec 256) (w : World) : Calls Tryd.prog 33 #[.agg #[.int .u64 (wd s 0), .int .u64 (wd s 1), .int .u64 (wd s 2), .int .u64 (wd s 3)], .agg #[.int .u64 (wd t 0), .int .u64 (wd t 1), .int .u64 (wd t 2), .int .u64 (wd t 3)]] w fun e w' => e = .returned (.bool (s &&& t == s)) ∧ Gr w w' := by
  have HE := Lib.hid (minus_none s t)
  go_enter Tryd.func33, Tryd.ntmps33
  go_wp2_with fail
  go_at_call 29
  refine name_calls (fun W hW => ?_)
  have hgW : Gr w W := by rw [hW]; exact (Gr.alloc _ _).trans (Gr.alloc _ _)
  clear hW
  refine (r1minus s t W).mono ?_; rintro e w1 ⟨rfl, hb⟩
  go_wp2_with fail
  go_ret
  exact ⟨ret_bool HE.out, hgW.trans hb⟩

set_option maxHeartbeats 2000000 in
theorem r1compare (s t : BitVec 256) (c : Int) (h : IsCmp s t c) (w : World) : Calls Tryd.prog 34 #[.agg #[.int .u64 (wd s 0), .int .u64 (wd s 1), .int .u64 (wd s 2), .int .u64 (wd s 3)], .agg #[.int .u64 (wd t 0), .int .u64 (wd t 1), .int .u64 (wd t 2), .int .u64 (wd t 3)]] w fun e w' => e = .returned (.int .i64 c) ∧ Gr w w' := by
  have HC := Lib.hid h
  clear h
  go_enter Tryd.func34, Tryd.ntmps34
  go_wp2_with fail
  go_loopw [5] (fun i wr => ∃ k : Nat, k ≤ 256 ∧ Hid (∀ j, j < k → s.getLsbD j = t.getLsbD j) ∧ i = .int .i64 (k : Int) ∧ Gr w wr ∧ boxAt wr w.heap.size [.int .u64 (wd s 0), .int .u64 (wd s 1), .int .u64 (wd s 2), .int .u64 (wd s 3)] ∧ boxAt wr (w.heap.size + 1) [.int .u64 (wd t 0), .int .u64 (wd t 1), .int .u64 (wd t 2), .int .u64 (wd t 3)]) (fun i _ => 256 - (intOf i).toNat)
  case atStart =>
    obtain ⟨h0, h1, h2, h3⟩ := boxes2 w [.int .u64 (wd s 0), .int .u64 (wd s 1), .int .u64 (wd s 2), .int .u64 (wd s 3)] [.int .u64 (wd t 0), .int .u64 (wd t 1), .int .u64 (wd t 2), .int .u64 (wd t 3)] 24 24
    exact ⟨0, by omega, Lib.hid (fun j hj => by omega), rfl, h2, h0, h1⟩
  case round =>
    obtain ⟨k, hk, HS, rfl, hg, xs, xt⟩ := hrel
    by_cases hlt : k < 256
    · have hkI : (k : Int) < 256 := by omega
      have HLT := Lib.hid hlt
      obtain ⟨x, hx⟩ : ∃ x, s.getLsbD k = x := ⟨_, rfl⟩
      obtain ⟨y, hy⟩ : ∃ y, t.getLsbD k = y := ⟨_, rfl⟩
      have HX := Lib.hid hx
      have HY := Lib.hid hy
      clear hlt hk hx hy
      have c_s0 := xs.cell 0 _ rfl
      have c_s1 := xs.cell 1 _ rfl
      have c_s2 := xs.cell 2 _ rfl
      have c_s3 := xs.cell 3 _ rfl
      have m_s0 := xs.mark 0 _ rfl
      have m_s1 := xs.mark 1 _ rfl
      have m_s2 := xs.mark 2 _ rfl
      have m_s3 := xs.mark 3 _ rfl
      have l_s := xs.lt (Nat.succ_pos _)
      go_wp2_with fail
      clear c_s0 c_s1 c_s2 c_s3 m_s0 m_s1 m_s2 m_s3 l_s
      go_at_call 40
      refine (r1has s k x _ HLT.out HX.out).mono ?_; rintro e w1 ⟨rfl, hb⟩
      replace xs := xs.later hb
      replace xt := xt.later hb
      replace hg := hg.trans hb
      clear hb
      have c_t0 := xt.cell 0 _ rfl
      have c_t1 := xt.cell 1 _ rfl
      have c_t2 := xt.cell 2 _ rfl
      have c_t3 := xt.cell 3 _ rfl
      have m_t0 := xt.mark 0 _ rfl
      have m_t1 := xt.mark 1 _ rfl
      have m_t2 := xt.mark 2 _ rfl
      have m_t3 := xt.mark 3 _ rfl
      have l_t := xt.lt (Nat.succ_pos _)
      cases x
      · go_wp2_with fail
        clear c_t0 c_t1 c_t2 c_t3 m_t0 m_t1 m_t2 m_t3 l_t
        go_at_call 40
        refine (r1has t k y _ HLT.out HY.out).mono ?_; rintro e w2 ⟨rfl, hb⟩
        replace xs := xs.later hb
        replace xt := xt.later hb
        replace hg := hg.trans hb
        clear hb
        cases y
        · go_wp2_with fail
          go_roundw
          case rel =>
            refine ⟨k + 1, by have := HLT.out; omega, Lib.hid (fun j hj => ?_), by go_num, hg, xs, xt⟩
            by_cases hjk : j = k
            · subst hjk; rw [HX.out, HY.out]
            · exact HS.out j (by omega)
          case measure => have := HLT.out; simp [intOf]; omega
        · have c_s0 := xs.cell 0 _ rfl
          have c_s1 := xs.cell 1 _ rfl
          have c_s2 := xs.cell 2 _ rfl
          have c_s3 := xs.cell 3 _ rfl
          have m_s0 := xs.mark 0 _ rfl
          have m_s1 := xs.mark 1 _ rfl
          have m_s2 := xs.mark 2 _ rfl
          have m_s3 := xs.mark 3 _ rfl
          have l_s := xs.lt (Nat.succ_pos _)
          go_wp2_with fail
          clear c_s0 c_s1 c_s2 c_s3 m_s0 m_s1 m_s2 m_s3 l_s
          go_at_call 40
          refine (r1has s k false _ HLT.out HX.out).mono ?_; rintro e w3 ⟨rfl, hb⟩
          go_wp2_with fail
          go_ret
          refine ⟨ret_int ?_, hg.trans hb⟩
          exact IsCmp.one (.inr (.inr ⟨⟨k, HLT.out, HY.out, HX.out, fun j hj => (HS.out j hj).symm⟩, rfl⟩)) HC.out
      · go_wp2_with fail
        clear c_t0 c_t1 c_t2 c_t3 m_t0 m_t1 m_t2 m_t3 l_t
        go_at_call 40
        refine (r1has t k y _ HLT.out HY.out).mono ?_; rintro e w2 ⟨rfl, hb⟩
        replace xs := xs.later hb
        replace xt := xt.later hb
        replace hg := hg.trans hb
        clear hb
        have c_t0 := xt.cell 0 _ rfl
        have c_t1 := xt.cell 1 _ rfl
        have c_t2 := xt.cell 2 _ rfl
        have c_t3 := xt.cell 3 _ rfl
        have m_t0 := xt.mark 0 _ rfl
        have m_t1 := xt.mark 1 _ rfl
        have m_t2 := xt.mark 2 _ rfl
        have m_t3 := xt.mark 3 _ rfl
        have l_t := xt.lt (Nat.succ_pos _)
        cases y
        · go_wp2_with fail
          go_ret
          refine ⟨ret_int ?_, hg⟩
          exact IsCmp.one (.inr (.inl ⟨⟨k, HLT.out, HX.out, HY.out, HS.out⟩, rfl⟩)) HC.out
        · go_wp2_with fail
          clear c_t0 c_t1 c_t2 c_t3 m_t0 m_t1 m_t2 m_t3 l_t
          go_at_call 40
          refine (r1has t k true _ HLT.out HY.out).mono ?_; rintro e w3 ⟨rfl, hb⟩
          replace xs := xs.later hb
          replace xt := xt.later hb
          replace hg := hg.trans hb
          clear hb
          have c_s0 := xs.cell 0 _ rfl
          have c_s1 := xs.cell 1 _ rfl
          have c_s2 := xs.cell 2 _ rfl
          have c_s3 := xs.cell 3 _ rfl
          have m_s0 := xs.mark 0 _ rfl
          have m_s1 := xs.mark 1 _ rfl
          have m_s2 := xs.mark 2 _ rfl
          have m_s3 := xs.mark 3 _ rfl
          have l_s := xs.lt (Nat.succ_pos _)
          go_wp2_with fail
          clear c_s0 c_s1 c_s2 c_s3 m_s0 m_s1 m_s2 m_s3 l_s
          go_at_call 40
          refine (r1has s k true _ HLT.out HX.out).mono ?_; rintro e w4 ⟨rfl, hb⟩
          replace xs := xs.later hb
          replace xt := xt.later hb
          replace hg := hg.trans hb
          clear hb
          go_wp2_with fail
          go_roundw
          case rel =>
            refine ⟨k + 1, by have := HLT.out; omega, Lib.hid (fun j hj => ?_), by go_num, hg, xs, xt⟩
            by_cases hjk : j = k
            · subst hjk; rw [HX.out, HY.out]
            · exact HS.out j (by omega)
          case measure => have := HLT.out; simp [intOf]; omega
    · obtain rfl : k = 256 := by omega
      have hst : s = t := set_ext _ _ HS.out
      have HST := Lib.hid hst
      clear hlt hk HS hst
      go_wp2_with fail
      go_ret
      exact ⟨ret_int (IsCmp.one (.inl ⟨HST.out, rfl⟩) HC.out), hg⟩

set_option maxHeartbeats 1000000 in
theorem r1of_some (l : List UInt8) (b off cap : Nat) (w : World) (hn : l.length ≤ 9223372036854775807) (hb : l.length ≠ 0 → b < w.heap.size) (hc : ∀ (k : Nat) (x : UInt8), l[k]? = some x → w.cell? ⟨b, off + k, none⟩ = some (vB x)) :
    Calls Tryd.prog 18 #[.slice (some ⟨b, off, none⟩) l.length cap] w fun e w' => e = .returned (.agg #[.int .u64 (wd (ofList l) 0), .int .u64 (wd (ofList l) 1), .int .u64 (wd (ofList l) 2), .int .u64 (wd (ofList l) 3)]) ∧ Gr w w' := by
  go_enter Tryd.func18, Tryd.ntmps18
  go_wp2_with fail
  go_loopw [4] (fun i wr => ∃ (k : Nat) (S : BitVec 256), k ≤ l.length ∧ Hid (S = ofList (l.take k)) ∧ i = .int .i64 (k : Int) ∧ w.heap.size + 2 ≤ wr.heap.size ∧ Gr w wr ∧ boxAt wr w.heap.size [.int .u64 0, .int .u64 0, .int .u64 0, .int .u64 0] ∧ boxAt wr (w.heap.size + 1) [.int .u64 (wd S 0), .int .u64 (wd S 1), .int .u64 (wd S 2), .int .u64 (wd S 3)]) (fun i _ => l.length - (intOf i).toNat)
  case atStart =>
    obtain ⟨h0, h1, h2, h3⟩ := boxes2 w [.int .u64 0, .int .u64 0, .int .u64 0, .int .u64 0] [.int .u64 0, .int .u64 0, .int .u64 0, .int .u64 0] 24 24
    exact ⟨0, emptyS, by omega, Lib.hid (by rw [List.take_zero, ofList_nil]), rfl, by rw [h3]; exact Nat.le_refl _, h2, h0, by simp only [wd_zero]; exact h1⟩
  case round =>
    obtain ⟨k, S, hk, HS, rfl, hz, hg, xr, xs⟩ := hrel
    by_cases hlt : k < l.length
    · have hcell := hg.cell (hc k l[k] (List.getElem?_eq_getElem hlt))
      have hbl : b < w.heap.size := hb (by omega)
      have fin : S ||| bit (l[k].toNat) = ofList (l.take (k + 1)) := by rw [HS.out, ofList_take l k hlt]
      have hx := l[k].toNat_lt
      unfold vB at hcell
      obtain ⟨x, ex⟩ : ∃ x : Nat, x = l[k].toNat := ⟨_, rfl⟩
      rw [← ex] at hcell fin hx
      have HF := Lib.hid fin
      have HX := Lib.hid (show x < 256 by omega)
      have exw : IntKind.i64.wrap (x : Int) = (x : Int) := IntWalk.i64_in _ (by omega)
      have hxI : (x : Int) < 256 := by omega
      have hbr : b < wr.heap.size := by omega
      have hkI : (k : Int) < (l.length : Int) := by omega
      have HLT := Lib.hid hlt
      clear ex hc fin hb hx
      have c_s0 := xs.cell 0 _ rfl
      have c_s1 := xs.cell 1 _ rfl
      have c_s2 := xs.cell 2 _ rfl
      have c_s3 := xs.cell 3 _ rfl
      have m_s0 := xs.mark 0 _ rfl
      have m_s1 := xs.mark 1 _ rfl
      have m_s2 := xs.mark 2 _ rfl
      have m_s3 := xs.mark 3 _ rfl
      have l_s := xs.lt (Nat.succ_pos _)
      go_wp2_with fail
      refine wp_region_G (.take 0 (.take 1 (.take 2 (.take 3 (.take 4 (.take 5 (.run 6 false (.run 7 true .nil)))))))) (by kernel_rfl) (by kernel_rfl) ?_
      simp only [pickOps, nthOp]
      intro wq hG
      repeat (first | (refine wpG_skip_take ?_ ?_; (focus rfl); try simp only [Act.put, List.setIfInBounds_toArray, List.set_cons_zero, List.set_cons_succ]) | (refine wpG_skip_run ?_ ?_; (focus rfl); try simp only [Act.put, List.setIfInBounds_toArray, List.set_cons_zero, List.set_cons_succ]) | (refine wpG_take ?_ ?_; (focus rfl); apply Exists.intro; refine ⟨fun w' hw' => ?_, ?_⟩; (focus (have hc := Gr.cells hw'; go_simp; (try rfl); done)); try simp only [Act.put, List.setIfInBounds_toArray, List.set_cons_zero, List.set_cons_succ]) | (refine wpG_run ?_ (fun K hK => ?_); (focus rfl); go_simp; (first | (go_at_call 39; (with_reducible refine (r1with S x _ HX.out).mono ?_); rintro e w' ⟨rfl, hb⟩)); (try dsimp only); replace hG := hG.trans hb; refine hK.out _ _ hG ?_; clear hK K hb; try simp only [Act.put, List.setIfInBounds_toArray, List.set_cons_zero, List.set_cons_succ]))
      rename_i w2
      refine wpG_last ?_ (fun K hK => ?_); (focus rfl)
      have hc := hG.cells
      have hm := hG.marks
      go_simp
      refine hK.out _ _ ?_
      try simp only [Act.put, List.setIfInBounds_toArray, List.set_cons_zero, List.set_cons_succ]
      clear hK K hc hm
      refine wpG_done ?_
      go_wp2
      go_roundw
      case rel =>
        refine ⟨k + 1, S ||| bit x, by have := HLT.out; omega, HF, by go_num, ?_, ?_, ?_, ?_⟩
        · rw [size_put4]; have := hG.size; omega
        · exact Below.put4 (hg.trans hG) (by omega) _ _ _ _
        · exact (xr.later hG).far4 (by omega) _ _ _ _
        · exact (xs.later hG).put4 _ _ _ _
      case measure => have := HLT.out; simp [intOf]; omega
    · obtain rfl : k = l.length := by omega
      obtain rfl : S = ofList l := by rw [HS.out, List.take_length]
      clear HS hc hb
      have c_s0 := xs.cell 0 _ rfl
      have c_s1 := xs.cell 1 _ rfl
      have c_s2 := xs.cell 2 _ rfl
      have c_s3 := xs.cell 3 _ rfl
      have m_s0 := xs.mark 0 _ rfl
      have m_s1 := xs.mark 1 _ rfl
      have m_s2 := xs.mark 2 _ rfl
      have m_s3 := xs.mark 3 _ rfl
      have l_s := xs.lt (Nat.succ_pos _)
      have c_r0 := xr.cell 0 _ rfl
      have c_r1 := xr.cell 1 _ rfl
      have c_r2 := xr.cell 2 _ rfl
      have c_r3 := xr.cell 3 _ rfl
      have m_r0 := xr.mark 0 _ rfl
      have m_r1 := xr.mark 1 _ rfl
      have m_r2 := xr.mark 2 _ rfl
      have m_r3 := xr.mark 3 _ rfl
      have l_r := xr.lt (Nat.succ_pos _)
      go_wp2_with fail
      refine bodyPost_ret (v := .agg #[.int .u64 (wd (ofList l) 0), .int .u64 (wd (ofList l) 1), .int .u64 (wd (ofList l) 2), .int .u64 (wd (ofList l) 3)]) (by simp [results, Tryd.results18, go_sem, c_r0, c_r1, c_r2, c_r3]) rfl ⟨rfl, ?_⟩
      exact Below.put4 hg (by omega) _ _ _ _
theorem r1of (l : List UInt8) (v : Value) (w : World) (h : Sl w v 1 l.length (l.map vB)) :
    Calls Tryd.prog 18 #[v] w fun e w' => e = .returned (.agg #[.int .u64 (wd (ofList l) 0), .int .u64 (wd (ofList l) 1), .int .u64 (wd (ofList l) 2), .int .u64 (wd (ofList l) 3)]) ∧ Gr w w' := by
  obtain ⟨_, hn, h⟩ := h
  unfold maxLen at hn
  rcases h with ⟨⟨p0, c0, rfl⟩, h0⟩ | ⟨b, off, cap, rfl, hb, hc⟩
  · obtain rfl := List.eq_nil_of_length_eq_zero h0
    go_enter Tryd.func18, Tryd.ntmps18
    go_wp2
    refine wp_loop_rounds 1 ?_
    rw [rounds_succ]
    go_wp2
    refine bodyPost_ret (v := .agg #[.int .u64 (wd (ofList []) 0), .int .u64 (wd (ofList []) 1), .int .u64 (wd (ofList []) 2), .int .u64 (wd (ofList []) 3)]) (by simp [results, Tryd.results18, go_sem, ofList_nil, wd_zero]) rfl ⟨rfl, ?_⟩
    exact ((Below.refl _ _).alloc (Nat.le_refl _) _).alloc (by simp) _
  · exact r1of_some l b off cap w hn hb (fun k x hx => hc k _ (by rw [List.getElem?_map, hx]; rfl))

set_option maxHeartbeats 1000000 in
theorem r1ofSpans_some (l : List Sp) (b off cap : Nat) (w : World) (hn : l.length ≤ 9223372036854775807) (hb : l.length ≠ 0 → b < w.heap.size)
    (hc : ∀ (k : Nat) (x : Sp), l[k]? = some x → w.cell? ⟨b, off + k * 2, none⟩ = some (vB x.1) ∧ w.cell? ⟨b, off + k * 2 + 1, none⟩ = some (vB x.2)) :
    Calls Tryd.prog 20 #[.slice (some ⟨b, off, none⟩) l.length cap] w fun e w' => e = .returned (.agg #[.int .u64 (wd (ofSpans l) 0), .int .u64 (wd (ofSpans l) 1), .int .u64 (wd (ofSpans l) 2), .int .u64 (wd (ofSpans l) 3)]) ∧ Gr w w' := by
  go_enter Tryd.func20, Tryd.ntmps20
  go_wp2_with fail
  go_loopw [4] (fun i wr => ∃ (k : Nat) (S : BitVec 256), k ≤ l.length ∧ Hid (S = ofSpans (l.take k)) ∧ i = .int .i64 (k : Int) ∧ w.heap.size + 2 ≤ wr.heap.size ∧ Gr w wr ∧ boxAt wr w.heap.size [.int .u64 0, .int .u64 0, .int .u64 0, .int .u64 0] ∧ boxAt wr (w.heap.size + 1) [.int .u64 (wd S 0), .int .u64 (wd S 1), .int .u64 (wd S 2), .int .u64 (wd S 3)]) (fun i _ => l.length - (intOf i).toNat)
  case atStart =>
    obtain ⟨h0, h1, h2, h3⟩ := boxes2 w [.int .u64 0, .int .u64 0, .int .u64 0, .int .u64 0] [.int .u64 0, .int .u64 0, .int .u64 0, .int .u64 0] 24 24
    exact ⟨0, emptyS, by omega, Lib.hid rfl, rfl, by rw [h3]; exact Nat.le_refl _, h2, h0, by simp only [wd_zero]; exact h1⟩
  case round =>
    obtain ⟨k, S, hk, HS, rfl, hz, hg, xr, xs⟩ := hrel
    by_cases hlt : k < l.length
    · have hcell := hc k l[k] (List.getElem?_eq_getElem hlt)
      have hbl : b < w.heap.size := hb (by omega)
      have fin : S ||| rangeSet l[k].1.toNat l[k].2.toNat = ofSpans (l.take (k + 1)) := by rw [HS.out, ofSpans_take l k hlt]
      have c1 := (hg.cell hcell.1)
      have c2 := (hg.cell hcell.2)
      have hx := l[k].1.toNat_lt
      have hy := l[k].2.toNat_lt
      unfold vB at c1 c2
      obtain ⟨x, ex⟩ : ∃ x : Nat, x = l[k].1.toNat := ⟨_, rfl⟩
      obtain ⟨y, ey⟩ : ∃ x : Nat, x = l[k].2.toNat := ⟨_, rfl⟩
      rw [← ex] at c1 fin hx
      rw [← ey] at c2 fin hy
      have HF := Lib.hid fin
      have HX := Lib.hid (show x < 256 by omega)
      have HY := Lib.hid (show y < 256 by omega)
      have exw : IntKind.i64.wrap (x : Int) = (x : Int) := IntWalk.i64_in _ (by omega)
      have eyw : IntKind.i64.wrap (y : Int) = (y : Int) := IntWalk.i64_in _ (by omega)
      have hxI : (x : Int) < 256 := by omega
      have hyI : (y : Int) < 256 := by omega
      have hbr : b < wr.heap.size := by omega
      have hkI : (k : Int) < (l.length : Int) := by omega
      have HLT := Lib.hid hlt
      clear ex ey hc fin hb hx hy hcell
      have c_s0 := xs.cell 0 _ rfl
      have c_s1 := xs.cell 1 _ rfl
      have c_s2 := xs.cell 2 _ rfl
      have c_s3 := xs.cell 3 _ rfl
      have m_s0 := xs.mark 0 _ rfl
      have m_s1 := xs.mark 1 _ rfl
      have m_s2 := xs.mark 2 _ rfl
      have m_s3 := xs.mark 3 _ rfl
      have l_s := xs.lt (Nat.succ_pos _)
      go_wp2_with fail
      refine wp_region_G (.take 0 (.take 1 (.take 2 (.take 3 (.take 4 (.take 5 (.take 6 (.take 7 (.take 8 (.take 9 (.take 10 (.take 11 (.take 12 (.run 13 false (.run 14 false (.run 15 true .nil)))))))))))))))) (by kernel_rfl) (by kernel_rfl) ?_
      simp only [pickOps, nthOp]
      intro wq hG
      repeat (first | (refine wpG_skip_take ?_ ?_; (focus rfl); try simp only [Act.put, List.setIfInBounds_toArray, List.set_cons_zero, List.set_cons_succ]) | (refine wpG_skip_run ?_ ?_; (focus rfl); try simp only [Act.put, List.setIfInBounds_toArray, List.set_cons_zero, List.set_cons_succ]) | (refine wpG_take ?_ ?_; (focus rfl); apply Exists.intro; refine ⟨fun w' hw' => ?_, ?_⟩; (focus (have hc := Gr.cells hw'; go_simp; (try rfl); done)); try simp only [Act.put, List.setIfInBounds_toArray, List.set_cons_zero, List.set_cons_succ]) | (refine wpG_run ?_ (fun K hK => ?_); (focus rfl); go_simp; (first | (go_at_call 24; (with_reducible refine (r1range x y _ HX.out HY.out).mono ?_); rintro e w' ⟨rfl, hb⟩) | (go_at_call 25; (with_reducible refine (r1union _ _ _).mono ?_); rintro e w' ⟨rfl, hb⟩)); (try dsimp only); replace hG := hG.trans hb; refine hK.out _ _ hG ?_; clear hK K hb; try simp only [Act.put, List.setIfInBounds_toArray, List.set_cons_zero, List.set_cons_succ]))
      rename_i w2
      refine wpG_last ?_ (fun K hK => ?_); (focus rfl)
      have hc := hG.cells
      have hm := hG.marks
      go_simp
      refine hK.out _ _ ?_
      try simp only [Act.put, List.setIfInBounds_toArray, List.set_cons_zero, List.set_cons_succ]
      clear hK K hc hm
      refine wpG_done ?_
      go_wp2
      go_roundw
      case rel =>
        refine ⟨k + 1, S ||| rangeSet x y, by have := HLT.out; omega, HF, by go_num, ?_, ?_, ?_, ?_⟩
        · rw [size_put4]; have := hG.size; omega
        · exact Below.put4 (hg.trans hG) (by omega) _ _ _ _
        · exact (xr.later hG).far4 (by omega) _ _ _ _
        · exact (xs.later hG).put4 _ _ _ _
      case measure => have := HLT.out; simp [intOf]; omega
    · obtain rfl : k = l.length := by omega
      obtain rfl : S = ofSpans l := by rw [HS.out, List.take_length]
      clear HS hc hb
      have c_s0 := xs.cell 0 _ rfl
      have c_s1 := xs.cell 1 _ rfl
      have c_s2 := xs.cell 2 _ rfl
      have c_s3 := xs.cell 3 _ rfl
      have m_s0 := xs.mark 0 _ rfl
      have m_s1 := xs.mark 1 _ rfl
      have m_s2 := xs.mark 2 _ rfl
      have m_s3 := xs.mark 3 _ rfl
      have l_s := xs.lt (Nat.succ_pos _)
      have c_r0 := xr.cell 0 _ rfl
      have c_r1 := xr.cell 1 _ rfl
      have c_r2 := xr.cell 2 _ rfl
      have c_r3 := xr.cell 3 _ rfl
      have m_r0 := xr.mark 0 _ rfl
      have m_r1 := xr.mark 1 _ rfl
      have m_r2 := xr.mark 2 _ rfl
      have m_r3 := xr.mark 3 _ rfl
      have l_r := xr.lt (Nat.succ_pos _)
      go_wp2_with fail
      refine bodyPost_ret (v := .agg #[.int .u64 (wd (ofSpans l) 0), .int .u64 (wd (ofSpans l) 1), .int .u64 (wd (ofSpans l) 2), .int .u64 (wd (ofSpans l) 3)]) (by simp [results, Tryd.results20, go_sem, c_r0, c_r1, c_r2, c_r3]) rfl ⟨rfl, ?_⟩
      exact Below.put4 hg (by omega) _ _ _ _
theorem r1ofSpans (l : List Sp) (v : Value) (w : World) (h : Sl w v 2 l.length (spsCells l)) :
    Calls Tryd.prog 20 #[v] w fun e w' => e = .returned (.agg #[.int .u64 (wd (ofSpans l) 0), .int .u64 (wd (ofSpans l) 1), .int .u64 (wd (ofSpans l) 2), .int .u64 (wd (ofSpans l) 3)]) ∧ Gr w w' := by
  obtain ⟨_, hn, h⟩ := h
  unfold maxLen at hn
  rcases h with ⟨⟨p0, c0, rfl⟩, h0⟩ | ⟨b, off, cap, rfl, hb, hc⟩
  · obtain rfl := List.eq_nil_of_length_eq_zero h0
    go_enter Tryd.func20, Tryd.ntmps20
    go_wp2
    refine wp_loop_rounds 1 ?_
    rw [rounds_succ]
    go_wp2
    refine bodyPost_ret (v := .agg #[.int .u64 (wd (ofSpans []) 0), .int .u64 (wd (ofSpans []) 1), .int .u64 (wd (ofSpans []) 2), .int .u64 (wd (ofSpans []) 3)]) (by simp [results, Tryd.results20, go_sem, ofSpans, wd_zero]) rfl ⟨rfl, ?_⟩
    exact ((Below.refl _ _).alloc (Nat.le_refl _) _).alloc (by simp) _
  · exact r1ofSpans_some l b off cap w hn hb (fun k x hx => by
      have := spsCells_get l k x hx
      exact ⟨hc _ _ this.1, by rw [Nat.add_assoc]; exact hc _ _ this.2⟩)

end Go.Proofs.YtambkpgcccjhmaaDoor
