/- ClassBack of bolterlaw3, walked: it answers true. No condition but the errors' variables and the texts' bounds. Printed by gen_back.py. -/
import Derived.Test.YtihjmeoklbmnmaaDoorBackR
import Derived.Deep.DeepCutAuto
import Derived.Deep.CutBlock
namespace Go.Proofs.YtihjmeoklbmnmaaDoor
open Go Go.RowKit

set_option maxRecDepth 100000 in
set_option maxHeartbeats 32000000 in
theorem classBack_any (ls : List (BitVec 256)) (lt : List (List UInt8)) (A M : List UInt8) (p q : Option Addr) (c d : Nat) (es ed : Value) (w : World) (hs : Sl w (.slice p ls.length c) 4 ls.length (ls.flatMap setCells)) (ht : Sl w (.slice q lt.length d) 1 lt.length (lt.map vS)) (hS : Sy0 w es ed)
    (hA : A.length ≤ 140737488355328) (hM : M.length ≤ 140737488355328) :
    Calls Tryd.prog 5 #[.agg #[.slice p ls.length c, .slice q lt.length d, .string (st A), .string (st M)]] w fun e w' => e = .returned (.bool true) ∧ Gr w w' := by
  have HS := Lib.hid hS
  have HSS := Lib.hid hs
  have HT := Lib.hid ht
  have zA := st_size A
  have zM := st_size M
  have hwS : IntKind.i64.wrap ((A.length : Int) + (M.length : Int)) = (A.length : Int) + (M.length : Int) := IntWalk.i64_in _ (by omega)
  clear hS hs ht
  by_cases hbig : 4000 < (A.length : Int) + (M.length : Int)
  · go_enter Tryd.func5, Tryd.ntmps5
    go_wp2_with fail
    go_at_call 12
    refine name_calls (fun W hW => ?_)
    have hgW : Gr w W := by rw [hW]; exact Gr.alloc _ _
    clear hW
    refine (wakes_any W es ed (HS.out.later hgW)).mono ?_; rintro e w5 ⟨rfl, hb⟩
    go_wp2_with fail
    go_ret
    exact ⟨rfl, hgW.trans hb⟩
  have HBG := Lib.hid hbig
  have hbf : decide (4000 < (A.length : Int) + (M.length : Int)) = false := by simp; omega
  have hbg : (A.length : Int) + (M.length : Int) ≤ 4000 := by omega
  clear hbig hA hM
  go_enter Tryd.func5, Tryd.ntmps5
  go_upto_block 0 with fail
  refine name_world (fun W hW => ?_)
  have xp : boxAt W w.heap.size [.slice p ls.length c, .slice q lt.length d, .string (st A), .string (st M)] := boxAt.new _ _ hW
  have hgW : Gr w W := by rw [hW]; exact Gr.alloc _ _
  clear hW
  go_cut [4] from 5 to 107 (fun i wx => Gr W wx)
  case first =>
    go_wp2_with fail
    go_loopw [4] (fun i wr => ∃ k : Nat, k ≤ ls.length ∧ k ≤ 20 ∧ i = .int .i64 k ∧ Gr W wr) (fun i _ => ls.length - (intOf i).toNat)
    case atStart => exact ⟨0, by omega, by omega, rfl, Gr.refl _⟩
    case round =>
      obtain ⟨k, hk, hk20, rfl, hg⟩ := hrel
      have xq := xp.later hg
      have c_p0 := xq.cell 0 _ rfl
      have c_p1 := xq.cell 1 _ rfl
      have c_p2 := xq.cell 2 _ rfl
      have c_p3 := xq.cell 3 _ rfl
      have m_p0 := xq.mark 0 _ rfl
      have m_p1 := xq.mark 1 _ rfl
      have m_p2 := xq.mark 2 _ rfl
      have m_p3 := xq.mark 3 _ rfl
      have l_p := xq.lt (Nat.succ_pos _)
      by_cases hlt : k < ls.length ∧ k < 20
      rotate_left
      · have hx : (ls.length ≤ k) ∨ ((k : Int) < (ls.length : Int) ∧ (k : Int) = 20) := by omega
        clear hlt hk hk20
        rcases hx with hx | ⟨hx1, hx2⟩
        · have hb1 : decide ((k : Int) < (ls.length : Int)) = false := by simp; omega
          have hb2 : decide (k < ls.length) = false := by simp; omega
          clear hx
          go_wp2_with fail
          go_meet
          case rel => exact hg
        · go_wp2_with fail
          go_meet
          case rel => exact hg
      obtain ⟨s, hks⟩ : ∃ x, ls[k]? = some x := ⟨_, List.getElem?_eq_getElem hlt.1⟩
      obtain ⟨r, hr1, hr2, hr3, hr4⟩ := set_runs s
      obtain ⟨b, off, rfl, hb, d0, d1, d2, d3⟩ := set_at HSS.out hks
      have hgw := hgW.trans hg
      replace d0 := hgw.cell d0
      replace d1 := hgw.cell d1
      replace d2 := hgw.cell d2
      replace d3 := hgw.cell d3
      have hbr : b < wr.heap.size := by have := hgw.size; omega
      have hkI : (k : Int) < (ls.length : Int) := by omega
      have hk2 : (k : Int) < 20 := by omega
      have HLT := Lib.hid hlt
      have hPB := parse_back A M r hr3
      rw [hr2] at hPB
      have lb := bodyL_len r
      have lT : (textL r).length ≤ 2400 := by show (91 :: (bodyL r ++ [93])).length ≤ _; simp; omega
      have TS := Lib.hid (fun w' => text_is s r hr1 w')
      obtain ⟨T, hT⟩ : ∃ x, textL r = x := ⟨_, rfl⟩
      rw [hT] at hPB lT TS
      obtain ⟨u1, hu1⟩ : ∃ x, A ++ T = x := ⟨_, rfl⟩
      have e1 := cat_is (P := Tryd.prog) (st A) (st T) (st u1) A T rfl rfl (by rw [hu1]) (by omega)
      have l1 : u1.length = A.length + T.length := by rw [← hu1, List.length_append]
      obtain ⟨u2, hu2⟩ : ∃ x, u1 ++ M = x := ⟨_, rfl⟩
      have e2 := cat_is (P := Tryd.prog) (st u1) (st M) (st u2) u1 M rfl rfl (by rw [hu2]) (by omega)
      have l2 : u2.length = u1.length + M.length := by rw [← hu2, List.length_append]
      rw [hu1, hu2] at hPB
      obtain ⟨m, hm⟩ : ∃ m, A.length + T.length = m := ⟨_, rfl⟩
      have zT : (st T).size = T.length := st_size T
      have hwm : IntKind.i64.wrap ((A.length : Int) + (T.length : Int)) = (m : Int) := by rw [IntWalk.i64_in _ (by omega)]; omega
      have PB := Lib.hid (fun w' h => parse_at u2 (A.length : Int) s M es ed w' (by omega) h hPB (m : Int) (by omega))
      have HKS := Lib.hid hks
      have HR := Lib.hid (And.intro hr1 (And.intro hr2 (And.intro hr3 hT)))
      clear hlt hk hk20 hks hr1 hr2 hr3 hr4 hPB lb hT hu1 hu2 l1 l2 hm lT
      go_wp2_with fail
      go_at_call 8
      refine (TS.out wr).mono ?_; rintro e w1 ⟨rfl, hq⟩
      clear c_p0 c_p1 c_p2 c_p3 m_p0 m_p1 m_p2 m_p3 l_p
      replace xq := xq.later hq
      replace hg := hg.trans hq
      replace d0 := hq.cell d0
      replace d1 := hq.cell d1
      replace d2 := hq.cell d2
      replace d3 := hq.cell d3
      clear hq hbr
      have c_p0 := xq.cell 0 _ rfl
      have c_p1 := xq.cell 1 _ rfl
      have c_p2 := xq.cell 2 _ rfl
      have c_p3 := xq.cell 3 _ rfl
      have m_p0 := xq.mark 0 _ rfl
      have m_p1 := xq.mark 1 _ rfl
      have m_p2 := xq.mark 2 _ rfl
      have m_p3 := xq.mark 3 _ rfl
      have l_p := xq.lt (Nat.succ_pos _)
      go_wp2_with fail
      go_at_call 13
      refine (PB.out w1 (HS.out.later (hgW.trans hg))).mono ?_; rintro e w2 ⟨rfl, hq⟩
      clear c_p0 c_p1 c_p2 c_p3 m_p0 m_p1 m_p2 m_p3 l_p
      replace xq := xq.later hq
      replace hg := hg.trans hq
      replace d0 := hq.cell d0
      replace d1 := hq.cell d1
      replace d2 := hq.cell d2
      replace d3 := hq.cell d3
      clear hq
      go_wp2_with fail
      refine name_world (fun W3 hW => ?_)
      have x6 : boxAt W3 w2.heap.size [.int .u64 (wd s 0), .int .u64 (wd s 1), .int .u64 (wd s 2), .int .u64 (wd s 3)] := boxAt.new _ _ hW
      have hq : Gr w2 W3 := by rw [hW]; exact Gr.alloc _ _
      clear hW
      replace xq := xq.later hq
      replace hg := hg.trans hq
      replace d0 := hq.cell d0
      replace d1 := hq.cell d1
      replace d2 := hq.cell d2
      replace d3 := hq.cell d3
      clear hq
      have hb3 : b < W3.heap.size := by have := (hgW.trans hg).size; omega
      have c_p0 := xq.cell 0 _ rfl
      have c_p1 := xq.cell 1 _ rfl
      have c_p2 := xq.cell 2 _ rfl
      have c_p3 := xq.cell 3 _ rfl
      have m_p0 := xq.mark 0 _ rfl
      have m_p1 := xq.mark 1 _ rfl
      have m_p2 := xq.mark 2 _ rfl
      have m_p3 := xq.mark 3 _ rfl
      have l_p := xq.lt (Nat.succ_pos _)
      have c_s0 := x6.cell 0 _ rfl
      have c_s1 := x6.cell 1 _ rfl
      have c_s2 := x6.cell 2 _ rfl
      have c_s3 := x6.cell 3 _ rfl
      have m_s0 := x6.mark 0 _ rfl
      have m_s1 := x6.mark 1 _ rfl
      have m_s2 := x6.mark 2 _ rfl
      have m_s3 := x6.mark 3 _ rfl
      have l_s := x6.lt (Nat.succ_pos _)
      refine wp_region_G (.take 0 (.take 1 (.take 2 (.take 3 (.take 4 (.take 5 (.take 6 (.take 7 (.take 8 (.take 9 (.take 10 (.take 11 (.take 12 (.take 13 (.take 14 (.take 15 (.take 16 (.take 17 (.take 18 (.take 19 .nil)))))))))))))))))))) (by kernel_rfl) (by kernel_rfl) ?_
      simp only [pickOps, nthOp]
      intro wq hG
      repeat (first | (refine wpG_skip_take ?_ ?_; (focus rfl); try simp only [Act.put, List.setIfInBounds_toArray, List.set_cons_zero, List.set_cons_succ]) | (refine wpG_skip_run ?_ ?_; (focus rfl); try simp only [Act.put, List.setIfInBounds_toArray, List.set_cons_zero, List.set_cons_succ]) | (refine wpG_take ?_ ?_; (focus rfl); apply Exists.intro; refine ⟨fun w' hw' => ?_, ?_⟩; (focus (have hc := Gr.cells hw'; go_simp; (try rfl); done)); try simp only [Act.put, List.setIfInBounds_toArray, List.set_cons_zero, List.set_cons_succ]))
      refine wpG_done ?_
      replace hg := hg.trans hG
      clear c_p0 c_p1 c_p2 c_p3 m_p0 m_p1 m_p2 m_p3 l_p
      clear c_s0 c_s1 c_s2 c_s3 m_s0 m_s1 m_s2 m_s3 l_s
      clear d0 d1 d2 d3 hb3 hG xq x6
      have xq := xp.later hg
      obtain ⟨wo, hwo⟩ : ∃ x, x = wq := ⟨_, rfl⟩
      rw [← hwo] at hg xq ⊢
      clear hwo
      go_wp2_with fail
      go_loopw [9] (fun i wr => ∃ k2 : Nat, k2 ≤ k ∧ i = .int .i64 k2 ∧ Gr W wr) (fun i _ => k - (intOf i).toNat)
      case atStart => exact ⟨0, by omega, rfl, hg⟩
      case round =>
        clear hg xq
        obtain ⟨k2, hk, rfl, hg⟩ := hrel
        have xq := xp.later hg
        have hgw := hgW.trans hg
        by_cases hlt2 : k2 < k
        · obtain ⟨s2, hks2⟩ : ∃ x, ls[k2]? = some x := ⟨_, List.getElem?_eq_getElem (by have := HLT.out; omega)⟩
          obtain ⟨s', hks⟩ : ∃ x, ls[k]? = some x := ⟨_, List.getElem?_eq_getElem HLT.out.1⟩
          obtain rfl : s' = s := Option.some.inj (hks.symm.trans HKS.out)
          obtain ⟨r2, hr1, hr2, hr3, hr4⟩ := set_runs s2
          obtain ⟨b1, off1, he1, _, d0, d1, d2, d3⟩ := set_at HSS.out hks
          obtain ⟨rfl, rfl⟩ : b = b1 ∧ off = off1 := by simpa using he1
          obtain ⟨b2, off2, he2, _, f0, f1, f2, f3⟩ := set_at HSS.out hks2
          obtain ⟨rfl, rfl⟩ : b = b2 ∧ off = off2 := by simpa using he2
          replace d0 := hgw.cell d0
          replace d1 := hgw.cell d1
          replace d2 := hgw.cell d2
          replace d3 := hgw.cell d3
          replace f0 := hgw.cell f0
          replace f1 := hgw.cell f1
          replace f2 := hgw.cell f2
          replace f3 := hgw.cell f3
          have hbr : b < wr.heap.size := by have := hgw.size; omega
          have hlI : (k2 : Int) < (k : Int) := by omega
          have hl2 : (k2 : Int) < (ls.length : Int) := by have := HLT.out; omega
          have hsm := text_same hr1 HR.out.1 hr2 HR.out.2.1 hr3 HR.out.2.2.1
          rw [HR.out.2.2.2] at hsm
          have TS2 := Lib.hid (fun w' => text_is s2 r2 hr1 w')
          obtain ⟨T2, hT2⟩ : ∃ x, textL r2 = x := ⟨_, rfl⟩
          rw [hT2] at hsm TS2
          have zz1 := st_list T2
          have zz2 := st_list T
          obtain ⟨qb, hqb⟩ : ∃ x, (s2 == s') = x := ⟨_, rfl⟩
          rw [hqb] at hsm
          have HL2 := Lib.hid hlt2
          clear he1 he2 hks hks2 hlt2 hk hr1 hr2 hr3 hr4 hT2
          have c_p0 := xq.cell 0 _ rfl
          have c_p1 := xq.cell 1 _ rfl
          have c_p2 := xq.cell 2 _ rfl
          have c_p3 := xq.cell 3 _ rfl
          have m_p0 := xq.mark 0 _ rfl
          have m_p1 := xq.mark 1 _ rfl
          have m_p2 := xq.mark 2 _ rfl
          have m_p3 := xq.mark 3 _ rfl
          have l_p := xq.lt (Nat.succ_pos _)
          go_wp2_with fail
          refine wp_region_G (.take 0 (.take 1 (.take 2 (.take 3 (.take 4 (.take 5 (.take 7 (.take 9 (.take 10 (.take 11 (.take 12 (.take 13 (.take 14 (.take 15 (.take 16 (.take 17 (.take 18 (.take 19 (.take 20 (.take 21 (.run 6 false (.take 8 (.take 22 .nil))))))))))))))))))))))) (by kernel_rfl) (by kernel_rfl) ?_
          simp only [pickOps, nthOp]
          intro wq hG
          repeat (first | (refine wpG_skip_take ?_ ?_; (focus rfl); try simp only [Act.put, List.setIfInBounds_toArray, List.set_cons_zero, List.set_cons_succ]) | (refine wpG_skip_run ?_ ?_; (focus rfl); try simp only [Act.put, List.setIfInBounds_toArray, List.set_cons_zero, List.set_cons_succ]) | (refine wpG_take ?_ ?_; (focus rfl); apply Exists.intro; refine ⟨fun w' hw' => ?_, ?_⟩; (focus (have hc := Gr.cells hw'; go_simp; (try rfl); done)); try simp only [Act.put, List.setIfInBounds_toArray, List.set_cons_zero, List.set_cons_succ]) | (refine wpG_run ?_ (fun K hK => ?_); (focus rfl); go_simp; (first | (go_at_call 8; (with_reducible refine (TS2.out _).mono ?_); rintro e w' ⟨rfl, hb⟩)); (try dsimp only); replace hG := hG.trans hb; refine hK.out _ _ hG ?_; clear hK K hb; try simp only [Act.put, List.setIfInBounds_toArray, List.set_cons_zero, List.set_cons_succ]))
          refine wpG_done ?_
          go_wp2_with fail
          go_roundw
          case rel => exact ⟨k2 + 1, by have := HL2.out; omega, by go_num, hg.trans hG⟩
          case measure => have := HL2.out; simp [intOf]; omega
        · obtain rfl : k2 = k := by omega
          clear hlt2 hk
          go_wp2_with fail
          go_roundw
          case rel => exact ⟨k2 + 1, by have := HLT.out; omega, by have := HLT.out; omega, by go_num, hg⟩
          case measure => have := HLT.out; simp [intOf]; omega
  case rest =>
    have hgc : Gr W wc := hcut
    clear hcut
    go_wp2_with fail
    go_loopw [10] (fun i wr => ∃ k : Nat, k ≤ lt.length ∧ k ≤ 20 ∧ i = .int .i64 k ∧ Gr W wr) (fun i _ => lt.length - (intOf i).toNat)
    case atStart => exact ⟨0, by omega, by omega, rfl, hgc⟩
    case round =>
      clear hgc
      obtain ⟨k, hk, hk20, rfl, hg⟩ := hrel
      have xq := xp.later hg
      have hgw := hgW.trans hg
      have c_p0 := xq.cell 0 _ rfl
      have c_p1 := xq.cell 1 _ rfl
      have c_p2 := xq.cell 2 _ rfl
      have c_p3 := xq.cell 3 _ rfl
      have m_p0 := xq.mark 0 _ rfl
      have m_p1 := xq.mark 1 _ rfl
      have m_p2 := xq.mark 2 _ rfl
      have m_p3 := xq.mark 3 _ rfl
      have l_p := xq.lt (Nat.succ_pos _)
      by_cases hlt : k < lt.length ∧ k < 20
      rotate_left
      · have hx : (lt.length ≤ k) ∨ ((k : Int) < (lt.length : Int) ∧ (k : Int) = 20) := by omega
        clear hlt hk hk20
        rcases hx with hx | ⟨hx1, hx2⟩
        · have hb1 : decide ((k : Int) < (lt.length : Int)) = false := by simp; omega
          have hb2 : decide (k < lt.length) = false := by simp; omega
          clear hx
          go_wp2_with (go_at_call 12; (with_reducible refine (wakes_any _ es ed (HS.out.later hgw)).mono ?_); rintro e w5 ⟨rfl, hb⟩)
          go_ret
          exact ⟨rfl, hgw.trans hb⟩
        · go_wp2_with (go_at_call 12; (with_reducible refine (wakes_any _ es ed (HS.out.later hgw)).mono ?_); rintro e w5 ⟨rfl, hb⟩)
          go_ret
          exact ⟨rfl, hgw.trans hb⟩
      obtain ⟨l, hkl⟩ : ∃ x, lt[k]? = some x := ⟨_, List.getElem?_eq_getElem hlt.1⟩
      obtain ⟨b, off, rfl, hb, d0⟩ := str_at HT.out hkl
      replace d0 := hgw.cell d0
      have hbr : b < wr.heap.size := by have := hgw.size; omega
      have hkI : (k : Int) < (lt.length : Int) := by omega
      have hk2 : (k : Int) < 20 := by omega
      have zl := st_size l
      have HLT := Lib.hid hlt
      have HKL := Lib.hid hkl
      clear hlt hk hk20 hkl
      by_cases hl : (l.length : Int) ≤ 4000
      rotate_left
      · have hl1 : 4000 < (l.length : Int) := by omega
        have hl2 : decide (4000 < l.length) = true := by simp; omega
        clear hl
        go_wp2_with fail
        go_roundw
        case rel => exact ⟨k + 1, by have := HLT.out; omega, by have := HLT.out; omega, by go_num, hg⟩
        case measure => have := HLT.out; simp [intOf]; omega
      have hl1 : ¬ 4000 < (l.length : Int) := by omega
      have hl2 : decide (4000 < l.length) = false := by simp; omega
      have QS := Lib.hid (fun w' => quote_any l w' (by omega))
      have lT : (quoteL l).length ≤ 16002 := by
        have := wrQs_len l
        have e : (quoteL l).length = (l.flatMap wrQ).length + 2 := by unfold quoteL; rw [List.length_cons, List.length_append]; rfl
        omega
      have hUB := unq_back A M l
      obtain ⟨T, hT⟩ : ∃ x, quoteL l = x := ⟨_, rfl⟩
      rw [hT] at QS lT hUB
      obtain ⟨u1, hu1⟩ : ∃ x, A ++ T = x := ⟨_, rfl⟩
      have e1 := cat_is (P := Tryd.prog) (st A) (st T) (st u1) A T rfl rfl (by rw [hu1]) (by omega)
      have l1 : u1.length = A.length + T.length := by rw [← hu1, List.length_append]
      obtain ⟨u2, hu2⟩ : ∃ x, u1 ++ M = x := ⟨_, rfl⟩
      have e2 := cat_is (P := Tryd.prog) (st u1) (st M) (st u2) u1 M rfl rfl (by rw [hu2]) (by omega)
      have l2 : u2.length = u1.length + M.length := by rw [← hu2, List.length_append]
      rw [hu1, hu2] at hUB
      obtain ⟨m, hm⟩ : ∃ m, A.length + T.length = m := ⟨_, rfl⟩
      have zT : (st T).size = T.length := st_size T
      have hwm : IntKind.i64.wrap ((A.length : Int) + (T.length : Int)) = (m : Int) := by rw [IntWalk.i64_in _ (by omega)]; omega
      have UB := Lib.hid (fun w' h => unq_at u2 (A.length : Int) l M es ed w' (by omega) h hUB (m : Int) (by omega))
      have HQT := Lib.hid hT
      clear hUB hT hu1 hu2 l1 l2 hm lT hl
      go_wp2_with fail
      go_at_call 10
      refine (QS.out wr).mono ?_; rintro e w1 ⟨rfl, hq⟩
      clear c_p0 c_p1 c_p2 c_p3 m_p0 m_p1 m_p2 m_p3 l_p
      replace xq := xq.later hq
      replace hg := hg.trans hq
      replace hgw := hgw.trans hq
      replace d0 := hq.cell d0
      clear hq hbr
      have c_p0 := xq.cell 0 _ rfl
      have c_p1 := xq.cell 1 _ rfl
      have c_p2 := xq.cell 2 _ rfl
      have c_p3 := xq.cell 3 _ rfl
      have m_p0 := xq.mark 0 _ rfl
      have m_p1 := xq.mark 1 _ rfl
      have m_p2 := xq.mark 2 _ rfl
      have m_p3 := xq.mark 3 _ rfl
      have l_p := xq.lt (Nat.succ_pos _)
      go_wp2_with fail
      go_at_call 18
      refine (UB.out w1 (HS.out.later hgw)).mono ?_; rintro e w2 ⟨rfl, hq⟩
      clear c_p0 c_p1 c_p2 c_p3 m_p0 m_p1 m_p2 m_p3 l_p
      replace xq := xq.later hq
      replace hg := hg.trans hq
      replace hgw := hgw.trans hq
      replace d0 := hq.cell d0
      clear hq
      have c_p0 := xq.cell 0 _ rfl
      have c_p1 := xq.cell 1 _ rfl
      have c_p2 := xq.cell 2 _ rfl
      have c_p3 := xq.cell 3 _ rfl
      have m_p0 := xq.mark 0 _ rfl
      have m_p1 := xq.mark 1 _ rfl
      have m_p2 := xq.mark 2 _ rfl
      have m_p3 := xq.mark 3 _ rfl
      have l_p := xq.lt (Nat.succ_pos _)
      have hb2 : b < w2.heap.size := by have := hgw.size; omega
      go_wp2_with fail
      clear c_p0 c_p1 c_p2 c_p3 m_p0 m_p1 m_p2 m_p3 l_p
      clear d0 hb2 xq
      go_loopw [15] (fun i wr => ∃ k2 : Nat, k2 ≤ k ∧ i = .int .i64 k2 ∧ Gr W wr) (fun i _ => k - (intOf i).toNat)
      case atStart => exact ⟨0, by omega, rfl, hg⟩
      case round =>
        clear hg hgw
        obtain ⟨k2, hk, rfl, hg⟩ := hrel
        have xq := xp.later hg
        have hgw := hgW.trans hg
        by_cases hlt2 : k2 < k
        · obtain ⟨l2, hkl2⟩ : ∃ x, lt[k2]? = some x := ⟨_, List.getElem?_eq_getElem (by have := HLT.out; omega)⟩
          obtain ⟨b1, off1, he1, _, d0⟩ := str_at HT.out HKL.out
          obtain ⟨rfl, rfl⟩ : b = b1 ∧ off = off1 := by simpa using he1
          obtain ⟨b2, off2, he2, _, f0⟩ := str_at HT.out hkl2
          obtain ⟨rfl, rfl⟩ : b = b2 ∧ off = off2 := by simpa using he2
          replace d0 := hgw.cell d0
          replace f0 := hgw.cell f0
          have hbr : b < wr.heap.size := by have := hgw.size; omega
          have hlI : (k2 : Int) < (k : Int) := by omega
          have hll : (k2 : Int) < (lt.length : Int) := by have := HLT.out; omega
          have zl2 := st_size l2
          have HL2 := Lib.hid hlt2
          clear he1 he2 hkl2 hlt2 hk
          have c_p0 := xq.cell 0 _ rfl
          have c_p1 := xq.cell 1 _ rfl
          have c_p2 := xq.cell 2 _ rfl
          have c_p3 := xq.cell 3 _ rfl
          have m_p0 := xq.mark 0 _ rfl
          have m_p1 := xq.mark 1 _ rfl
          have m_p2 := xq.mark 2 _ rfl
          have m_p3 := xq.mark 3 _ rfl
          have l_p := xq.lt (Nat.succ_pos _)
          by_cases hl4 : (l2.length : Int) ≤ 4000
          · have hsm := quote_same l2 l
            have QS2 := Lib.hid (fun w' => quote_any l2 w' (by omega))
            obtain ⟨T2, hT2⟩ : ∃ x, quoteL l2 = x := ⟨_, rfl⟩
            rw [HQT.out, hT2] at hsm
            rw [hT2] at QS2
            have zz1 := st_list T2
            have zz2 := st_list T
            have zz3 := st_list l2
            have zz4 := st_list l
            obtain ⟨qb, hqb⟩ : ∃ x, (l2 == l) = x := ⟨_, rfl⟩
            rw [hqb] at hsm
            clear hT2
            go_wp2_with fail
            refine wp_region_G (.take 0 (.take 1 (.take 2 (.take 3 (.take 4 (.take 5 (.take 6 (.take 7 (.take 8 (.take 9 (.take 10 (.take 11 (.take 12 (.take 13 (.take 14 (.take 16 (.take 18 (.take 19 (.take 20 (.take 21 (.take 22 (.take 23 (.take 24 (.take 25 (.take 26 (.take 27 (.take 28 (.take 29 (.take 30 (.run 15 false (.take 17 (.take 31 (.take 32 .nil))))))))))))))))))))))))))))))))) (by kernel_rfl) (by kernel_rfl) ?_
            simp only [pickOps, nthOp]
            intro wq hG
            repeat (first | (refine wpG_skip_take ?_ ?_; (focus rfl); try simp only [Act.put, List.setIfInBounds_toArray, List.set_cons_zero, List.set_cons_succ]) | (refine wpG_skip_run ?_ ?_; (focus rfl); try simp only [Act.put, List.setIfInBounds_toArray, List.set_cons_zero, List.set_cons_succ]) | (refine wpG_take ?_ ?_; (focus rfl); apply Exists.intro; refine ⟨fun w' hw' => ?_, ?_⟩; (focus (have hc := Gr.cells hw'; go_simp; (try rfl); done)); try simp only [Act.put, List.setIfInBounds_toArray, List.set_cons_zero, List.set_cons_succ]) | (refine wpG_run ?_ (fun K hK => ?_); (focus rfl); go_simp; (first | (go_at_call 10; (with_reducible refine (QS2.out _).mono ?_); rintro e w' ⟨rfl, hb⟩)); (try dsimp only); replace hG := hG.trans hb; refine hK.out _ _ hG ?_; clear hK K hb; try simp only [Act.put, List.setIfInBounds_toArray, List.set_cons_zero, List.set_cons_succ]))
            refine wpG_done ?_
            go_wp2_with fail
            go_roundw
            case rel => exact ⟨k2 + 1, by have := HL2.out; omega, by go_num, hg.trans hG⟩
            case measure => have := HL2.out; simp [intOf]; omega
          · have hlb : decide ((l2.length : Int) ≤ 4000) = false := by simp; omega
            have hlb2 : decide (l2.length ≤ 4000) = false := by simp; omega
            clear hl4
            go_wp2_with fail
            refine wp_region_G (.take 0 (.take 1 (.take 2 (.take 3 (.take 4 (.take 5 (.take 6 (.take 7 (.take 8 (.take 9 (.take 10 (.take 11 (.take 12 (.take 13 (.take 14 (.take 16 (.take 18 (.take 19 (.take 20 (.take 21 (.take 22 (.take 23 (.take 24 (.take 25 (.take 26 (.take 27 (.take 28 (.take 29 (.take 30 (.run 15 false (.take 17 (.take 31 (.take 32 .nil))))))))))))))))))))))))))))))))) (by kernel_rfl) (by kernel_rfl) ?_
            simp only [pickOps, nthOp]
            intro wq hG
            repeat (first | (refine wpG_skip_take ?_ ?_; (focus rfl); try simp only [Act.put, List.setIfInBounds_toArray, List.set_cons_zero, List.set_cons_succ]) | (refine wpG_skip_run ?_ ?_; (focus rfl); try simp only [Act.put, List.setIfInBounds_toArray, List.set_cons_zero, List.set_cons_succ]) | (refine wpG_take ?_ ?_; (focus rfl); apply Exists.intro; refine ⟨fun w' hw' => ?_, ?_⟩; (focus (have hc := Gr.cells hw'; go_simp; (try rfl); done)); try simp only [Act.put, List.setIfInBounds_toArray, List.set_cons_zero, List.set_cons_succ]))
            refine wpG_done ?_
            go_wp2_with fail
            go_roundw
            case rel => exact ⟨k2 + 1, by have := HL2.out; omega, by go_num, hg.trans hG⟩
            case measure => have := HL2.out; simp [intOf]; omega
        · obtain rfl : k2 = k := by omega
          clear hlt2 hk
          go_wp2_with fail
          go_roundw
          case rel => exact ⟨k2 + 1, by have := HLT.out; omega, by have := HLT.out; omega, by go_num, hg⟩
          case measure => have := HLT.out; simp [intOf]; omega

end Go.Proofs.YtihjmeoklbmnmaaDoor
