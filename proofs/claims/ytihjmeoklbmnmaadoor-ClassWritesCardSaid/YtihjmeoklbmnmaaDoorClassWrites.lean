/- ClassWrites of bolterlaw3, walked: it answers true. No condition but the errors' variables. -/
import Derived.Test.YtihjmeoklbmnmaaDoorWakesC
namespace Go.Proofs.YtihjmeoklbmnmaaDoor
open Go Go.RowKit

set_option maxRecDepth 100000 in
set_option maxHeartbeats 8000000 in
theorem classWrites_any (ls : List (BitVec 256)) (lt : List (List UInt8)) (p q : Option Addr) (c d : Nat) (es ed : Value) (w : World) (hs : Sl w (.slice p ls.length c) 4 ls.length (ls.flatMap setCells)) (ht : Sl w (.slice q lt.length d) 1 lt.length (lt.map vS)) (hS : Sy0 w es ed) :
    Calls Tryd.prog 3 #[.agg #[.slice p ls.length c, .slice q lt.length d]] w fun e w' => e = .returned (.bool true) ∧ Gr w w' := by
  have HS := Lib.hid hS
  have HSS := Lib.hid hs
  have HT := Lib.hid ht
  clear hS hs ht
  go_enter Tryd.func3, Tryd.ntmps3
  go_wp2_with fail
  refine name_world (fun W hW => ?_)
  have xp : boxAt W w.heap.size [.slice p ls.length c, .slice q lt.length d] := boxAt.new _ _ hW
  have hgW : Gr w W := by rw [hW]; exact Gr.alloc _ _
  clear hW
  go_loopw [3] (fun i wr => ∃ k : Nat, k ≤ ls.length ∧ k ≤ 20 ∧ i = .int .i64 k ∧ Gr W wr) (fun i _ => ls.length - (intOf i).toNat)
  case atStart => exact ⟨0, by omega, by omega, rfl, Gr.refl _⟩
  case round =>
    obtain ⟨k, hk, hk20, rfl, hg⟩ := hrel
    have xq := xp.later hg
    have c_p0 := xq.cell 0 _ rfl
    have c_p1 := xq.cell 1 _ rfl
    have m_p0 := xq.mark 0 _ rfl
    have m_p1 := xq.mark 1 _ rfl
    have l_p := xq.lt (Nat.succ_pos _)
    by_cases hlt : k < ls.length ∧ k < 20
    · obtain ⟨s, hks⟩ : ∃ x, ls[k]? = some x := ⟨_, List.getElem?_eq_getElem hlt.1⟩
      obtain ⟨b, off, rfl, hb, d0, d1, d2, d3⟩ := set_at HSS.out hks
      have hgw := hgW.trans hg
      have e0 := hgw.cell d0
      have e1 := hgw.cell d1
      have e2 := hgw.cell d2
      have e3 := hgw.cell d3
      have hbr : b < wr.heap.size := by have := hgw.size; omega
      have hkI : (k : Int) < (ls.length : Int) := by omega
      have hk2 : (k : Int) < 20 := by omega
      have HLT := Lib.hid hlt
      clear hlt hk hk20 hks d0 d1 d2 d3
      go_wp2_with fail
      refine wp_region_G (.take 0 (.take 1 (.take 2 (.take 3 (.take 4 (.take 6 (.take 7 (.take 8 (.take 9 (.take 10 (.run 5 false (.run 11 false (.take 12 .nil))))))))))))) (by kernel_rfl) (by kernel_rfl) ?_
      simp only [pickOps, nthOp]
      intro wq hG
      repeat (first | (refine wpG_skip_take ?_ ?_; (focus rfl); try simp only [Act.put, List.setIfInBounds_toArray, List.set_cons_zero, List.set_cons_succ]) | (refine wpG_skip_run ?_ ?_; (focus rfl); try simp only [Act.put, List.setIfInBounds_toArray, List.set_cons_zero, List.set_cons_succ]) | (refine wpG_take ?_ ?_; (focus rfl); apply Exists.intro; refine ⟨fun w' hw' => ?_, ?_⟩; (focus (have hc := Gr.cells hw'; go_simp; (try rfl); done)); try simp only [Act.put, List.setIfInBounds_toArray, List.set_cons_zero, List.set_cons_succ]) | (refine wpG_run ?_ (fun K hK => ?_); (focus rfl); go_simp; (first | (go_at_call 8; (with_reducible refine (text_any s _).mono ?_); rintro e w' ⟨r, hr1, rfl, hb⟩) | (go_at_call 9; (with_reducible refine (refText_any s _).mono ?_); rintro e w' ⟨r2, hr2, rfl, hb⟩; obtain rfl := hr1.one _ hr2)); (try dsimp only); replace hG := hG.trans hb; refine hK.out _ _ hG ?_; clear hK K hb; try simp only [Act.put, List.setIfInBounds_toArray, List.set_cons_zero, List.set_cons_succ]))
      refine wpG_done ?_
      go_wp2_with fail
      go_roundw
      case rel => exact ⟨k + 1, by have := HLT.out; omega, by have := HLT.out; omega, by go_num, hg.trans hG⟩
      case measure => have := HLT.out; simp [intOf]; omega
    · have hx : k = ls.length ∨ ((k : Int) < (ls.length : Int) ∧ (k : Int) = 20) := by omega
      have hgw := hgW.trans hg
      have XQ := Lib.hid xq
      clear hlt hk hk20 xp
      rcases hx with rfl | ⟨hx1, hx2⟩
      all_goals
        go_wp2_with fail
        clear c_p0 c_p1 m_p0 m_p1 l_p
        obtain ⟨wo, rfl⟩ : ∃ wo : World, wo = wr := ⟨_, rfl⟩
        go_loopw [4] (fun i wr => ∃ k : Nat, k ≤ lt.length ∧ k ≤ 20 ∧ i = .int .i64 k ∧ Gr wo wr) (fun i _ => lt.length - (intOf i).toNat)
        case atStart => exact ⟨0, by omega, by omega, rfl, Gr.refl _⟩
        case round =>
          obtain ⟨k2, hk, hk20, rfl, hgv⟩ := hrel
          have xv : boxAt wr w.heap.size [.slice p ls.length c, .slice q lt.length d] := XQ.out.later hgv
          have c_p0 := xv.cell 0 _ rfl
          have c_p1 := xv.cell 1 _ rfl
          have m_p0 := xv.mark 0 _ rfl
          have m_p1 := xv.mark 1 _ rfl
          have l_p := xv.lt (Nat.succ_pos _)
          have hgw2 := hgw.trans hgv
          by_cases hlt : k2 < lt.length ∧ k2 < 20
          · obtain ⟨l, hkl⟩ : ∃ x, lt[k2]? = some x := ⟨_, List.getElem?_eq_getElem hlt.1⟩
            obtain ⟨b, off, rfl, hb, d0⟩ := str_at HT.out hkl
            have e0 := hgw2.cell d0
            have hbr : b < wr.heap.size := by have := hgw2.size; omega
            have hsz := st_size l
            have hkI : (k2 : Int) < (lt.length : Int) := by omega
            have hk2 : (k2 : Int) < 20 := by omega
            have HLT := Lib.hid hlt
            clear hlt hk hk20 hkl d0
            by_cases hl : (l.length : Int) ≤ 4000
            · have HQ1 := Lib.hid (fun w' => quote_any l w' (by omega))
              have HQ2 := Lib.hid (fun w' => refQuote_any l w' (by omega))
              go_wp2_with fail
              refine wp_region_G (.take 0 (.take 1 (.take 2 (.take 3 (.take 4 (.take 5 (.take 6 (.take 7 (.take 8 (.take 9 (.take 10 (.take 11 (.take 12 (.take 14 (.take 15 (.take 16 (.take 17 (.take 18 (.run 13 false (.run 19 false (.take 20 (.take 21 .nil)))))))))))))))))))))) (by kernel_rfl) (by kernel_rfl) ?_
              simp only [pickOps, nthOp]
              intro wq hG
              repeat (first | (refine wpG_skip_take ?_ ?_; (focus rfl); try simp only [Act.put, List.setIfInBounds_toArray, List.set_cons_zero, List.set_cons_succ]) | (refine wpG_skip_run ?_ ?_; (focus rfl); try simp only [Act.put, List.setIfInBounds_toArray, List.set_cons_zero, List.set_cons_succ]) | (refine wpG_take ?_ ?_; (focus rfl); apply Exists.intro; refine ⟨fun w' hw' => ?_, ?_⟩; (focus (have hc := Gr.cells hw'; go_simp; (try rfl); done)); try simp only [Act.put, List.setIfInBounds_toArray, List.set_cons_zero, List.set_cons_succ]) | (refine wpG_run ?_ (fun K hK => ?_); (focus rfl); go_simp; (first | (go_at_call 10; (with_reducible refine (HQ1.out _).mono ?_); rintro e w' ⟨rfl, hb⟩) | (go_at_call 11; (with_reducible refine (HQ2.out _).mono ?_); rintro e w' ⟨rfl, hb⟩)); (try dsimp only); replace hG := hG.trans hb; refine hK.out _ _ hG ?_; clear hK K hb; try simp only [Act.put, List.setIfInBounds_toArray, List.set_cons_zero, List.set_cons_succ]))
              refine wpG_done ?_
              go_wp2_with fail
              go_roundw
              case rel => exact ⟨k2 + 1, by have := HLT.out; omega, by have := HLT.out; omega, by go_num, hgv.trans hG⟩
              case measure => have := HLT.out; simp [intOf]; omega
            · have hlb : decide ((l.length : Int) ≤ 4000) = false := by simp; omega
              have hlb2 : decide (l.length ≤ 4000) = false := by simp; omega
              go_wp2_with fail
              refine wp_region_G (.take 0 (.take 1 (.take 2 (.take 3 (.take 4 (.take 5 (.take 6 (.take 7 (.take 8 (.take 9 (.take 10 (.take 11 (.take 12 (.take 14 (.take 15 (.take 16 (.take 17 (.take 18 (.run 13 false (.run 19 false (.take 20 (.take 21 .nil)))))))))))))))))))))) (by kernel_rfl) (by kernel_rfl) ?_
              simp only [pickOps, nthOp]
              intro wq hG
              repeat (first | (refine wpG_skip_take ?_ ?_; (focus rfl); try simp only [Act.put, List.setIfInBounds_toArray, List.set_cons_zero, List.set_cons_succ]) | (refine wpG_skip_run ?_ ?_; (focus rfl); try simp only [Act.put, List.setIfInBounds_toArray, List.set_cons_zero, List.set_cons_succ]) | (refine wpG_take ?_ ?_; (focus rfl); apply Exists.intro; refine ⟨fun w' hw' => ?_, ?_⟩; (focus (have hc := Gr.cells hw'; go_simp; (try rfl); done)); try simp only [Act.put, List.setIfInBounds_toArray, List.set_cons_zero, List.set_cons_succ]))
              refine wpG_done ?_
              go_wp2_with fail
              go_roundw
              case rel => exact ⟨k2 + 1, by have := HLT.out; omega, by have := HLT.out; omega, by go_num, hgv.trans hG⟩
              case measure => have := HLT.out; simp [intOf]; omega
          · have hy : k2 = lt.length ∨ ((k2 : Int) < (lt.length : Int) ∧ (k2 : Int) = 20) := by omega
            clear hlt hk hk20
            rcases hy with rfl | ⟨hy1, hy2⟩
            all_goals
              go_wp2_with (go_at_call 12; (with_reducible refine (wakes_any _ es ed (HS.out.later hgw2)).mono ?_); rintro e w5 ⟨rfl, hb⟩)
              go_ret
              exact ⟨rfl, hgw2.trans hb⟩

end Go.Proofs.YtihjmeoklbmnmaaDoor
