/- told of bolterlaw1: what one set tells, twice: true. No condition but the table's. -/
import Derived.Test.YtambkpgcccjhmaaDoorBack
import Derived.Test.YtambkpgcccjhmaaDoorCompare
namespace Go.Proofs.YtambkpgcccjhmaaDoor
open Go Go.RowKit

theorem owns_kept {w w' : World} {B e k n : Nat} {v : Value} {xs : List Value} (h : w.ownsRow B e k v n xs) (he : e ≠ 5) (hK : Kept w w') : w'.ownsRow B e k v n xs := by
  obtain ⟨h1, h2⟩ := h
  refine ⟨h1, h2.imp id ?_⟩
  rintro ⟨g, cap, cur, hv, hb, hh, r⟩
  exact ⟨g, cap, cur, hv, hb, hK g _ hh (fun cs f e => by injection e with _ e _; exact he e), r⟩
theorem least_same (A : BitVec 256) : ∃ (x : Int) (y : Bool), (∀ w, Tab w → Calls Tryd.prog 13 #[.agg #[.int .u64 (wd A 0), .int .u64 (wd A 1), .int .u64 (wd A 2), .int .u64 (wd A 3)]] w fun e w' => e = .returned (.tuple #[.int .u8 x, .bool y]) ∧ Gr w w') ∧
    (∀ w, Calls Tryd.prog 41 #[.agg #[.int .u64 (wd A 0), .int .u64 (wd A 1), .int .u64 (wd A 2), .int .u64 (wd A 3)]] w fun e w' => e = .returned (.tuple #[.int .u8 x, .bool y]) ∧ Gr w w') := by
  rcases low_or A with ⟨k, h⟩ | rfl
  · exact ⟨k, true, fun w hT => least_any A k h w hT, fun w => r1least_some A k h w⟩
  · exact ⟨0, false, fun w _ => least_none w, fun w => r1least_none w⟩
theorem span_ne : (38 : Nat) ≠ 5 := by decide

set_option maxRecDepth 100000 in
set_option maxHeartbeats 4000000 in
theorem told_any (A : BitVec 256) (w : World) (hT : Tab w) : Calls Tryd.prog 35 #[.agg #[.int .u64 (wd A 0), .int .u64 (wd A 1), .int .u64 (wd A 2), .int .u64 (wd A 3)]] w fun e w' => e = .returned (.bool true) ∧ Gr w w' := by
  have HT := Lib.hid hT
  obtain ⟨lx, ly, hL1, hL2⟩ := least_same A
  have HL1 := Lib.hid hL1
  have HL2 := Lib.hid hL2
  have hlen : (bytesOf A).length ≤ 256 := bytesTo_len A 256
  have HC := Lib.hid (show (card A : Int) = ((bytesOf A).length : Int) by rw [bytesOf_count])
  obtain ⟨L, hL⟩ : ∃ L, bytesOf A = L := ⟨_, rfl⟩
  rw [hL] at hlen HC
  have HL := Lib.hid hL
  clear hT hL1 hL2 hL
  go_enter Tryd.func35, Tryd.ntmps35
  go_wp2_with fail
  refine name_world (fun W hW => ?_)
  have hgW : Gr w W := by rw [hW]; exact Gr.alloc _ _
  have xa : boxAt W (w.heap.size) [.int .u64 (wd (A) 0), .int .u64 (wd (A) 1), .int .u64 (wd (A) 2), .int .u64 (wd (A) 3)] := by
    subst hW; intro j u hj
    match j, hj with
    | 0, hj => simp at hj; subst hj; constructor <;> go_simp
    | 1, hj => simp at hj; subst hj; constructor <;> go_simp
    | 2, hj => simp at hj; subst hj; constructor <;> go_simp
    | 3, hj => simp at hj; subst hj; constructor <;> go_simp
  clear hW
  have hsW : w.heap.size < W.heap.size := xa.lt (by simp)
  have HTW := Lib.hid (HT.out.later hgW)
  go_loopw [3] (fun k wr => ∃ q : Nat, q ≤ 2 ∧ k = .int .i64 (q : Int) ∧ Gr W wr) (fun k _ => 2 - (intOf k).toNat)
  case atStart => exact ⟨0, by omega, rfl, Gr.refl _⟩
  case round =>
    obtain ⟨q, hq, rfl, hg⟩ := hrel
    have ya := xa.later hg
    by_cases hlt : q < 2
    · have hqI : (q : Int) < 2 := by omega
      have HLT := Lib.hid hlt
      have hWr := hg.size
      clear hlt hq
      have c_a0 := ya.cell 0 _ rfl
      have c_a1 := ya.cell 1 _ rfl
      have c_a2 := ya.cell 2 _ rfl
      have c_a3 := ya.cell 3 _ rfl
      have m_a0 := ya.mark 0 _ rfl
      have m_a1 := ya.mark 1 _ rfl
      have m_a2 := ya.mark 2 _ rfl
      have m_a3 := ya.mark 3 _ rfl
      have l_a := ya.lt (Nat.succ_pos _)
      go_wp2_with fail
      clear c_a0 c_a1 c_a2 c_a3 m_a0 m_a1 m_a2 m_a3 l_a
      go_at_call 10
      refine (list_any A wr).mono ?_; rintro e w2 ⟨vl, rfl, hl, hb⟩
      rw [HL.out] at hl
      replace ya := ya.later hb
      replace hg := hg.trans hb
      have hs2 := hb.size
      have hsz10 : wr.heap.size ≤ w2.heap.size := hb.size
      clear hb
      have c_a0 := ya.cell 0 _ rfl
      have c_a1 := ya.cell 1 _ rfl
      have c_a2 := ya.cell 2 _ rfl
      have c_a3 := ya.cell 3 _ rfl
      have m_a0 := ya.mark 0 _ rfl
      have m_a1 := ya.mark 1 _ rfl
      have m_a2 := ya.mark 2 _ rfl
      have m_a3 := ya.mark 3 _ rfl
      have l_a := ya.lt (Nat.succ_pos _)
      go_wp2_with fail
      clear c_a0 c_a1 c_a2 c_a3 m_a0 m_a1 m_a2 m_a3 l_a
      go_at_call 11
      refine (spans_any A w2).mono ?_; rintro e w3 ⟨vs, r, rfl, hR, hs, hb, _⟩
      rw [HL.out] at hR
      have HR := Lib.hid hR
      have hrl : r.length ≤ 256 := Nat.le_trans hR.len hlen
      replace hl := owns_later hl hb
      replace ya := ya.later hb
      replace hg := hg.trans hb
      replace hsz10 := Nat.le_trans hsz10 hb.size
      clear hb hR
      obtain ⟨ps, cs, rfl⟩ := (Sl.of_owns hs).len
      obtain ⟨pl, cl, rfl⟩ := (Sl.of_owns hl).len
      have c_a0 := ya.cell 0 _ rfl
      have c_a1 := ya.cell 1 _ rfl
      have c_a2 := ya.cell 2 _ rfl
      have c_a3 := ya.cell 3 _ rfl
      have m_a0 := ya.mark 0 _ rfl
      have m_a1 := ya.mark 1 _ rfl
      have m_a2 := ya.mark 2 _ rfl
      have m_a3 := ya.mark 3 _ rfl
      have l_a := ya.lt (Nat.succ_pos _)
      go_wp2_with fail
      clear c_a0 c_a1 c_a2 c_a3 m_a0 m_a1 m_a2 m_a3 l_a
      go_at_call 13
      refine (HL1.out w3 (HTW.out.later hg)).mono ?_; rintro e w4 ⟨rfl, hb⟩
      replace hl := owns_later hl hb
      replace hs := owns_later hs hb
      replace ya := ya.later hb
      replace hg := hg.trans hb
      replace hsz10 := Nat.le_trans hsz10 hb.size
      clear hb
      have c_a0 := ya.cell 0 _ rfl
      have c_a1 := ya.cell 1 _ rfl
      have c_a2 := ya.cell 2 _ rfl
      have c_a3 := ya.cell 3 _ rfl
      have m_a0 := ya.mark 0 _ rfl
      have m_a1 := ya.mark 1 _ rfl
      have m_a2 := ya.mark 2 _ rfl
      have m_a3 := ya.mark 3 _ rfl
      have l_a := ya.lt (Nat.succ_pos _)
      go_wp2_with fail
      clear c_a0 c_a1 c_a2 c_a3 m_a0 m_a1 m_a2 m_a3 l_a
      go_at_call 41
      refine (HL2.out w4).mono ?_; rintro e w5 ⟨rfl, hb⟩
      replace hl := owns_later hl hb
      replace hs := owns_later hs hb
      replace ya := ya.later hb
      replace hg := hg.trans hb
      replace hsz10 := Nat.le_trans hsz10 hb.size
      clear hb
      have c_a0 := ya.cell 0 _ rfl
      have c_a1 := ya.cell 1 _ rfl
      have c_a2 := ya.cell 2 _ rfl
      have c_a3 := ya.cell 3 _ rfl
      have m_a0 := ya.mark 0 _ rfl
      have m_a1 := ya.mark 1 _ rfl
      have m_a2 := ya.mark 2 _ rfl
      have m_a3 := ya.mark 3 _ rfl
      have l_a := ya.lt (Nat.succ_pos _)
      go_wp2_with fail
      clear c_a0 c_a1 c_a2 c_a3 m_a0 m_a1 m_a2 m_a3 l_a
      go_at_call 42
      refine (r1list A w5).mono ?_; rintro e w6 ⟨vl2, rfl, hl2, hb⟩
      rw [HL.out] at hl2
      have hx2 := Sl.of_owns hl2
      replace hl := owns_later hl hb
      replace hs := owns_later hs hb
      replace ya := ya.later hb
      replace hg := hg.trans hb
      replace hsz10 := Nat.le_trans hsz10 hb.size
      clear hb hl2
      go_wp2_with fail
      go_at_call 36
      refine (eqB_of L L true _ _ _ (Sl.of_owns hl) hx2 (by simp)).mono ?_; rintro e w7 ⟨rfl, hb⟩
      replace hl := owns_later hl hb
      replace hs := owns_later hs hb
      replace ya := ya.later hb
      replace hg := hg.trans hb
      replace hsz10 := Nat.le_trans hsz10 hb.size
      clear hb hx2
      have c_a0 := ya.cell 0 _ rfl
      have c_a1 := ya.cell 1 _ rfl
      have c_a2 := ya.cell 2 _ rfl
      have c_a3 := ya.cell 3 _ rfl
      have m_a0 := ya.mark 0 _ rfl
      have m_a1 := ya.mark 1 _ rfl
      have m_a2 := ya.mark 2 _ rfl
      have m_a3 := ya.mark 3 _ rfl
      have l_a := ya.lt (Nat.succ_pos _)
      go_wp2_with fail
      clear c_a0 c_a1 c_a2 c_a3 m_a0 m_a1 m_a2 m_a3 l_a
      go_at_call 43
      refine (r1spans A w7).mono ?_; rintro e w8 ⟨vs2, r2, rfl, hR2, hss2, hb, _⟩
      rw [HL.out] at hR2
      obtain rfl : r = r2 := HR.out.one _ hR2
      have hx2 := Sl.of_owns hss2
      replace hl := owns_later hl hb
      replace hs := owns_later hs hb
      replace ya := ya.later hb
      replace hg := hg.trans hb
      replace hsz10 := Nat.le_trans hsz10 hb.size
      clear hb hss2 hR2
      go_wp2_with fail
      go_at_call 21
      refine (eqSp_same r _ _ _ (Sl.of_owns hs) hx2).mono ?_; rintro e w9 ⟨rfl, hb⟩
      replace hl := owns_later hl hb
      replace hs := owns_later hs hb
      replace ya := ya.later hb
      replace hg := hg.trans hb
      replace hsz10 := Nat.le_trans hsz10 hb.size
      clear hb hx2
      have c_a0 := ya.cell 0 _ rfl
      have c_a1 := ya.cell 1 _ rfl
      have c_a2 := ya.cell 2 _ rfl
      have c_a3 := ya.cell 3 _ rfl
      have m_a0 := ya.mark 0 _ rfl
      have m_a1 := ya.mark 1 _ rfl
      have m_a2 := ya.mark 2 _ rfl
      have m_a3 := ya.mark 3 _ rfl
      have l_a := ya.lt (Nat.succ_pos _)
      go_wp2_with fail
      clear c_a0 c_a1 c_a2 c_a3 m_a0 m_a1 m_a2 m_a3 l_a
      go_at_call 14
      refine (count_is A _ _ HC.out).mono ?_; rintro e w10 ⟨rfl, hb⟩
      replace hl := owns_later hl hb
      replace hs := owns_later hs hb
      replace ya := ya.later hb
      replace hg := hg.trans hb
      replace hsz10 := Nat.le_trans hsz10 hb.size
      clear hb
      have k1 : (lx == lx) = true := by simp
      have k2 : (ly == ly) = true := by simp
      go_wp2_with fail
      go_at_call 44
      refine (over_any wr.heap.size L.length _ _ w10 (by omega) hsz10 hl).mono ?_; rintro e w11 ⟨rfl, hbb, hkk⟩
      replace hs := owns_kept hs span_ne hkk
      replace ya := ya.below hbb (by omega)
      replace hg : Gr W w11 := Below.trans hg (Below.mono hbb hWr)
      have HS := Lib.hid hs
      clear hl hbb hkk k1 k2 hs
      go_wp2_with fail
      go_loopw [10] (fun i wz => ∃ (k : Nat) (xs : List Value), k ≤ r.length ∧ i = .int .i64 (k : Int) ∧ Hid (wz.ownsRow w2.heap.size 38 2 (.slice ps r.length cs) r.length xs) ∧ Gr W wz) (fun i _ => r.length - (intOf i).toNat)
      case atStart => exact ⟨0, _, by omega, rfl, HS, hg⟩
      case round =>
        obtain ⟨k, xs, hk, rfl, HX, hgz⟩ := hrel
        by_cases hlt : k < r.length
        · obtain ⟨gs, cap, hv, hBg, hgl, _⟩ := owns_block HX.out (by omega)
          simp only [Value.slice.injEq, true_and] at hv
          obtain ⟨rfl, rfl⟩ := hv
          have hxl : k * 2 + 1 < xs.length := by have := HX.out.1; omega
          obtain ⟨o1, ho1⟩ : ∃ x, xs[k * 2]? = some x := ⟨_, List.getElem?_eq_getElem (by omega)⟩
          obtain ⟨o2, ho2⟩ : ∃ x, xs[k * 2 + 1]? = some x := ⟨_, List.getElem?_eq_getElem hxl⟩
          have c1 := owns_cell HX.out _ _ ho1
          have c2 := owns_cell HX.out _ _ ho2
          have m1 := owns_mark HX.out (k * 2)
          have m2 := owns_mark HX.out (k * 2 + 1)
          have hkI : (k : Int) < (r.length : Int) := by omega
          have HLT2 := Lib.hid hlt
          have HXL := Lib.hid hxl
          have HB := Lib.hid (show W.heap.size ≤ gs by omega)
          clear hlt hk hxl ho1 ho2 hBg
          go_wp2_with fail
          go_roundw
          case rel =>
            exact ⟨k + 1, _, by have := HLT2.out; omega, by go_num, Lib.hid (owns_set (owns_set HX.out (k * 2) (by have := HXL.out; omega) (.int .u8 9)) (k * 2 + 1) (by rw [List.length_set]; exact HXL.out) (.int .u8 3)), Below.setCell (Below.setCell hgz HB.out _) HB.out _⟩
          case measure => have := HLT2.out; simp [intOf]; omega
        · have hkE : k = r.length := by omega
          clear hk hlt
          subst hkE
          go_wp2_with fail
          go_roundw
          case rel => exact ⟨q + 1, by have := HLT.out; omega, by go_num, hgz⟩
          case measure => have := HLT.out; simp [intOf]; omega
    · have hqI : ¬ (q : Int) < 2 := by omega
      clear hq hlt
      go_wp2_with fail
      go_loopw [11] (fun i wz => ∃ k : Nat, k ≤ 256 ∧ i = .int .i64 (k : Int) ∧ Gr W wz) (fun i _ => 256 - (intOf i).toNat)
      case atStart => exact ⟨0, by omega, rfl, hg⟩
      case round =>
        obtain ⟨k, hk, rfl, hgz⟩ := hrel
        by_cases hlt : k < 256
        · have hkI : (k : Int) < 256 := by omega
          obtain ⟨x, hx⟩ : ∃ x, A.getLsbD k = x := ⟨_, rfl⟩
          have HX := Lib.hid hx
          have HLT := Lib.hid hlt
          have za := xa.later hgz
          have k1 : (x == x) = true := by simp
          have HW := Lib.hid (show IntKind.u8.wrap (k : Int) = (k : Int) by rw [IntKind.wrap_u8]; omega)
          clear hlt hk hx
          have c_a0 := za.cell 0 _ rfl
          have c_a1 := za.cell 1 _ rfl
          have c_a2 := za.cell 2 _ rfl
          have c_a3 := za.cell 3 _ rfl
          have m_a0 := za.mark 0 _ rfl
          have m_a1 := za.mark 1 _ rfl
          have m_a2 := za.mark 2 _ rfl
          have m_a3 := za.mark 3 _ rfl
          have l_a := za.lt (Nat.succ_pos _)
          go_wp2_with fail
          refine wp_region_G (.take 0 (.take 1 (.take 2 (.take 4 (.take 5 (.run 3 false (.run 6 false (.take 7 .nil)))))))) (by kernel_rfl) (by kernel_rfl) ?_
          simp only [pickOps, nthOp]
          intro wq hG
          repeat (first | (refine wpG_skip_take ?_ ?_; (focus rfl); try simp only [Act.put, List.setIfInBounds_toArray, List.set_cons_zero, List.set_cons_succ]) | (refine wpG_skip_run ?_ ?_; (focus rfl); try simp only [Act.put, List.setIfInBounds_toArray, List.set_cons_zero, List.set_cons_succ]) | (refine wpG_take ?_ ?_; (focus rfl); apply Exists.intro; refine ⟨fun w' hw' => ?_, ?_⟩; (focus (have hc := Gr.cells hw'; go_simp; (try rfl); done)); try simp only [Act.put, List.setIfInBounds_toArray, List.set_cons_zero, List.set_cons_succ]) | (refine wpG_run ?_ (fun K hK => ?_); (focus rfl); go_simp; (first | (go_at_call 12; (with_reducible refine (has_at A _ k x _ HW.out HLT.out HX.out).mono ?_); rintro e w' ⟨rfl, hb⟩) | (go_at_call 40; (with_reducible refine (r1has A k x _ HLT.out HX.out).mono ?_); rintro e w' ⟨rfl, hb⟩)); (try dsimp only); replace hG := hG.trans hb; refine hK.out _ _ hG ?_; clear hK K hb; try simp only [Act.put, List.setIfInBounds_toArray, List.set_cons_zero, List.set_cons_succ]))
          refine wpG_done ?_
          go_wp2
          go_roundw
          case rel => exact ⟨k + 1, by have := HLT.out; omega, by go_num, hgz.trans hG⟩
          case measure => have := HLT.out; simp [intOf]; omega
        · have hkE : k = 256 := by omega
          clear hk hlt
          subst hkE
          go_wp2_with fail
          go_ret
          exact ⟨rfl, hgW.trans hgz⟩

end Go.Proofs.YtambkpgcccjhmaaDoor
