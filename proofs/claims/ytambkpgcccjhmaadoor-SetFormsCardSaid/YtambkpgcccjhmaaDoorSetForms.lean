/- SetForms of bolterlaw1, walked: it answers true. No condition but the table's. -/
import Derived.Test.YtambkpgcccjhmaaDoorSpansOf
import Derived.Test.YtambkpgcccjhmaaDoorCompare
import Derived.Test.YtambkpgcccjhmaaDoorAt
namespace Go.Proofs.YtambkpgcccjhmaaDoor
open Go Go.RowKit

theorem addr_add0 (b j : Nat) : (⟨b, 0, none⟩ : Addr).add j = ⟨b, j, none⟩ := by
  unfold Addr.add
  by_cases h : j = 0
  · subst h; rfl
  · rw [if_neg h, Nat.zero_add]
theorem spsCells_one (l : List Sp) : ∀ u ∈ spsCells l, u.oneCell' = true := fun u hu => by
  obtain ⟨p, _, hp⟩ := List.mem_flatMap.1 hu
  simp only [spCells, List.mem_cons, List.not_mem_nil, or_false] at hp
  rcases hp with rfl | rfl <;> rfl

set_option maxRecDepth 100000 in
set_option maxHeartbeats 4000000 in
theorem setForms_some (A B C : BitVec 256) (w : World) (hT : Tab w) (hne : bytesOf A ≠ []) :
    Calls Tryd.prog 4 #[.agg #[.int .u64 (wd A 0), .int .u64 (wd A 1), .int .u64 (wd A 2), .int .u64 (wd A 3), .int .u64 (wd B 0), .int .u64 (wd B 1), .int .u64 (wd B 2), .int .u64 (wd B 3), .int .u64 (wd C 0), .int .u64 (wd C 1), .int .u64 (wd C 2), .int .u64 (wd C 3)]] w
      fun e w' => e = .returned (.bool true) ∧ Gr w w' := by
  have HT := Lib.hid hT
  have HNE := Lib.hid hne
  clear hT hne
  go_enter Tryd.func4, Tryd.ntmps4
  obtain ⟨i0, hi, hz0, hz1, hz2⟩ := info_parts info_span
  go_wp2_with fail
  go_at_call 10
  refine name_calls (fun W hW => ?_)
  have hgW : Gr w W := by rw [hW]; exact Gr.alloc _ _
  have xp : boxAt W (w.heap.size) [.int .u64 (wd A 0), .int .u64 (wd A 1), .int .u64 (wd A 2), .int .u64 (wd A 3), .int .u64 (wd B 0), .int .u64 (wd B 1), .int .u64 (wd B 2), .int .u64 (wd B 3), .int .u64 (wd C 0), .int .u64 (wd C 1), .int .u64 (wd C 2), .int .u64 (wd C 3)] := by
    subst hW; intro j u hj
    match j, hj with
    | 0, hj => simp at hj; subst hj; constructor <;> go_simp
    | 1, hj => simp at hj; subst hj; constructor <;> go_simp
    | 2, hj => simp at hj; subst hj; constructor <;> go_simp
    | 3, hj => simp at hj; subst hj; constructor <;> go_simp
    | 4, hj => simp at hj; subst hj; constructor <;> go_simp
    | 5, hj => simp at hj; subst hj; constructor <;> go_simp
    | 6, hj => simp at hj; subst hj; constructor <;> go_simp
    | 7, hj => simp at hj; subst hj; constructor <;> go_simp
    | 8, hj => simp at hj; subst hj; constructor <;> go_simp
    | 9, hj => simp at hj; subst hj; constructor <;> go_simp
    | 10, hj => simp at hj; subst hj; constructor <;> go_simp
    | 11, hj => simp at hj; subst hj; constructor <;> go_simp
  clear hW
  refine (list_any A W).mono ?_; rintro e w2 ⟨vl, rfl, hl, hb⟩
  replace xp := xp.later hb
  replace hgW := hgW.trans hb
  clear hb
  have xp0 := xp
  have hgw2 := hgW
  have hl0 := hl
  have c_p0 := xp.cell 0 _ rfl
  have c_p1 := xp.cell 1 _ rfl
  have c_p2 := xp.cell 2 _ rfl
  have c_p3 := xp.cell 3 _ rfl
  have c_p4 := xp.cell 4 _ rfl
  have c_p5 := xp.cell 5 _ rfl
  have c_p6 := xp.cell 6 _ rfl
  have c_p7 := xp.cell 7 _ rfl
  have c_p8 := xp.cell 8 _ rfl
  have c_p9 := xp.cell 9 _ rfl
  have c_p10 := xp.cell 10 _ rfl
  have c_p11 := xp.cell 11 _ rfl
  have m_p0 := xp.mark 0 _ rfl
  have m_p1 := xp.mark 1 _ rfl
  have m_p2 := xp.mark 2 _ rfl
  have m_p3 := xp.mark 3 _ rfl
  have m_p4 := xp.mark 4 _ rfl
  have m_p5 := xp.mark 5 _ rfl
  have m_p6 := xp.mark 6 _ rfl
  have m_p7 := xp.mark 7 _ rfl
  have m_p8 := xp.mark 8 _ rfl
  have m_p9 := xp.mark 9 _ rfl
  have m_p10 := xp.mark 10 _ rfl
  have m_p11 := xp.mark 11 _ rfl
  have l_p := xp.lt (Nat.succ_pos _)
  go_wp2_with fail
  clear c_p0 c_p1 c_p2 c_p3 c_p4 c_p5 c_p6 c_p7 c_p8 c_p9 c_p10 c_p11 m_p0 m_p1 m_p2 m_p3 m_p4 m_p5 m_p6 m_p7 m_p8 m_p9 m_p10 m_p11 l_p
  go_at_call 11
  refine (spans_any A _).mono ?_; rintro e w3 ⟨vs, r, rfl, hR, hs, hb, _⟩
  replace xp := xp.later hb
  replace hgW := hgW.trans hb
  have hl' := owns_grown hl hb
  have hb3 := hb
  clear hb
  obtain ⟨L, hL⟩ : ∃ L, bytesOf A = L := ⟨_, rfl⟩
  have HL := Lib.hid hL
  have hlen : L.length ≤ 256 := by rw [← hL]; exact bytesTo_len A 256
  have hlenI : (L.length : Int) ≤ 256 := by omega
  have hL0 : 0 < L.length := by rw [← hL]; exact List.length_pos_iff.2 HNE.out
  rw [hL] at hl hl' hR hl0
  have hr0 : 0 < r.length := by
    have := hR.set
    rcases Nat.eq_zero_or_pos r.length with h | h
    · have := hR.sum; rw [List.eq_nil_of_length_eq_zero h] at this; simp [spanSum] at this; omega
    · exact h
  obtain ⟨gl, capl, rfl, _, _, _⟩ := owns_block hl hL0
  obtain ⟨gs, caps, rfl, _, hgs, _⟩ := owns_block hs hr0
  clear hL
  have hrl : r.length ≤ 256 := Nat.le_trans hR.len hlen
  have HSL0 := Lib.hid (Sl.of_owns hl0)
  have hgl0 : gl < w2.heap.size := (World.ownsRow.lt hl0 gl rfl).2
  have hG23 := Lib.hid hb3
  clear hl0 hb3
  have HCL := Lib.hid (show ∀ (k : Nat) (x : UInt8), L[k]? = some x → w3.cell? ⟨gl, k, none⟩ = some (vB x) from fun k x h => owns_cell hl' k (vB x) (by simp [h]))
  have HS := Lib.hid hs
  have HR := Lib.hid hR
  have hgl : gl < w3.heap.size := by have := (World.ownsRow.lt hl' gl rfl).2; exact this
  clear hl hl' hs hR
  go_wp2_with fail
  go_loopw [6] (fun i wr => ∃ k : Nat, k ≤ L.length ∧ i = .int .i64 k ∧ Gr w3 wr) (fun i _ => L.length - (intOf i).toNat)
  case atStart => exact ⟨0, by omega, rfl, Gr.refl _⟩
  case round =>
    obtain ⟨k, hk, rfl, hg⟩ := hrel
    by_cases hlt : k < L.length
    · obtain ⟨bb, hbb⟩ : ∃ x, L[k]? = some x := ⟨_, List.getElem?_eq_getElem hlt⟩
      have c1 := hg.cell (HCL.out k bb hbb)
      unfold vB at c1
      have hbit : A.getLsbD bb.toNat = true := by
        have h := HL.out
        rw [← mem_bytesOf, h]; exact List.mem_of_getElem? hbb
      obtain ⟨y, hy⟩ : ∃ y : Nat, bb.toNat = y := ⟨_, rfl⟩
      have hy256 := bb.toNat_lt
      rw [hy] at c1 hy256 hbit
      have hyI : (y : Int) < 256 := by omega
      have hkI : (k : Int) < (L.length : Int) := by omega
      have HLT := Lib.hid hlt
      have HY := Lib.hid (show y < 256 by omega)
      have HBIT := Lib.hid hbit
      have xp' := xp.later hg
      have c_p0 := xp'.cell 0 _ rfl
      have c_p1 := xp'.cell 1 _ rfl
      have c_p2 := xp'.cell 2 _ rfl
      have c_p3 := xp'.cell 3 _ rfl
      have c_p4 := xp'.cell 4 _ rfl
      have c_p5 := xp'.cell 5 _ rfl
      have c_p6 := xp'.cell 6 _ rfl
      have c_p7 := xp'.cell 7 _ rfl
      have c_p8 := xp'.cell 8 _ rfl
      have c_p9 := xp'.cell 9 _ rfl
      have c_p10 := xp'.cell 10 _ rfl
      have c_p11 := xp'.cell 11 _ rfl
      have m_p0 := xp'.mark 0 _ rfl
      have m_p1 := xp'.mark 1 _ rfl
      have m_p2 := xp'.mark 2 _ rfl
      have m_p3 := xp'.mark 3 _ rfl
      have m_p4 := xp'.mark 4 _ rfl
      have m_p5 := xp'.mark 5 _ rfl
      have m_p6 := xp'.mark 6 _ rfl
      have m_p7 := xp'.mark 7 _ rfl
      have m_p8 := xp'.mark 8 _ rfl
      have m_p9 := xp'.mark 9 _ rfl
      have m_p10 := xp'.mark 10 _ rfl
      have m_p11 := xp'.mark 11 _ rfl
      have l_p := xp'.lt (Nat.succ_pos _)
      have hglr : gl < wr.heap.size := by have := hg.size; omega
      go_wp2_with fail
      by_cases hk0 : k = 0
      · subst hk0
        refine wp_region_G (.take 0 (.take 1 (.take 2 (.take 3 (.take 4 (.take 5 (.take 6 (.take 7 (.take 8 (.take 9 (.take 10 (.take 11 (.take 12 (.take 13 (.take 14 (.take 15 (.take 16 (.take 17 (.take 18 (.take 19 (.take 20 (.run 21 false (.take 22 (.take 23 .nil)))))))))))))))))))))))) (by kernel_rfl) (by kernel_rfl) ?_
        simp only [pickOps, nthOp]
        intro wq hG
        repeat (first | (refine wpG_skip_take ?_ ?_; (focus rfl); try simp only [Act.put, List.setIfInBounds_toArray, List.set_cons_zero, List.set_cons_succ]) | (refine wpG_skip_run ?_ ?_; (focus rfl); try simp only [Act.put, List.setIfInBounds_toArray, List.set_cons_zero, List.set_cons_succ]) | (refine wpG_take ?_ ?_; (focus rfl); apply Exists.intro; refine ⟨fun w' hw' => ?_, ?_⟩; (focus (have hc := Gr.cells hw'; go_simp; (try rfl); done)); try simp only [Act.put, List.setIfInBounds_toArray, List.set_cons_zero, List.set_cons_succ]) | (refine wpG_run ?_ (fun K hK => ?_); (focus rfl); go_simp; (first | (go_at_call 12; (with_reducible refine (has_at A y y true _ rfl HY.out HBIT.out).mono ?_); rintro e w' ⟨rfl, hb⟩)); (try dsimp only); replace hG := hG.trans hb; refine hK.out _ _ hG ?_; clear hK K hb; try simp only [Act.put, List.setIfInBounds_toArray, List.set_cons_zero, List.set_cons_succ]))
        refine wpG_done ?_
        go_wp2
        go_roundw
        case rel => exact ⟨1, by have := HLT.out; omega, by go_num, hg.trans hG⟩
        case measure => have := HLT.out; simp [intOf]; omega
      · obtain ⟨k', hkk⟩ : ∃ k', k = k' + 1 := ⟨k - 1, by omega⟩
        obtain ⟨aa, haa⟩ : ∃ x, L[k']? = some x := ⟨_, List.getElem?_eq_getElem (by omega)⟩
        have c2 := hg.cell (HCL.out k' aa haa)
        unfold vB at c2
        have hstep : aa.toNat < bb.toNat := bytesOf_step A k' aa bb (by rw [HL.out]; exact haa) (by rw [HL.out, ← hkk]; exact hbb)
        obtain ⟨x, hx⟩ : ∃ x : Nat, aa.toNat = x := ⟨_, rfl⟩
        rw [hx] at c2 hstep
        rw [hy] at hstep
        have hyx : ¬ (y : Int) ≤ (x : Int) := by omega
        have hk0N : 0 < k := by omega
        have hk0I : (0 : Int) < (k : Int) := by omega
        have hk'I : (k' : Int) < (L.length : Int) := by omega
        have ek : IntKind.i64.wrap ((k : Int) - 1) = (k' : Int) := by rw [IntWalk.i64_in _ (by omega)]; omega
        clear hkk hk0 hk hlt hbb haa hstep hx hy hy256 hbit
        refine wp_region_G (.take 0 (.take 1 (.take 2 (.take 3 (.take 4 (.take 5 (.take 6 (.take 7 (.take 8 (.take 9 (.take 10 (.take 11 (.take 12 (.take 13 (.take 14 (.take 15 (.take 16 (.take 17 (.take 18 (.take 19 (.take 20 (.run 21 false (.take 22 (.take 23 .nil)))))))))))))))))))))))) (by kernel_rfl) (by kernel_rfl) ?_
        simp only [pickOps, nthOp]
        intro wq hG
        repeat (first | (refine wpG_skip_take ?_ ?_; (focus rfl); try simp only [Act.put, List.setIfInBounds_toArray, List.set_cons_zero, List.set_cons_succ]) | (refine wpG_skip_run ?_ ?_; (focus rfl); try simp only [Act.put, List.setIfInBounds_toArray, List.set_cons_zero, List.set_cons_succ]) | (refine wpG_take ?_ ?_; (focus rfl); apply Exists.intro; refine ⟨fun w' hw' => ?_, ?_⟩; (focus (have hc := Gr.cells hw'; go_simp; (try rfl); done)); try simp only [Act.put, List.setIfInBounds_toArray, List.set_cons_zero, List.set_cons_succ]) | (refine wpG_run ?_ (fun K hK => ?_); (focus rfl); go_simp; (first | (go_at_call 12; (with_reducible refine (has_at A y y true _ rfl HY.out HBIT.out).mono ?_); rintro e w' ⟨rfl, hb⟩)); (try dsimp only); replace hG := hG.trans hb; refine hK.out _ _ hG ?_; clear hK K hb; try simp only [Act.put, List.setIfInBounds_toArray, List.set_cons_zero, List.set_cons_succ]))
        refine wpG_done ?_
        clear ek
        go_wp2
        go_roundw
        case rel => exact ⟨k + 1, by have := HLT.out; omega, by go_num, hg.trans hG⟩
        case measure => have := HLT.out; simp [intOf]; omega
    · have hkL : k = L.length := by omega
      subst hkL
      clear hk hlt
      go_wp2_with fail
      go_loopw [5, 7] (fun n i w2' => ∃ k : Nat, k ≤ r.length ∧ n = .int .i64 (spanSum (r.take k) : Nat) ∧ i = .int .i64 k ∧ Gr wr w2') (fun _ i _ => r.length - (intOf i).toNat)
      case atStart => exact ⟨0, by omega, rfl, rfl, Gr.refl _⟩
      case round =>
        obtain ⟨k, hk, rfl, rfl, hg2⟩ := hrel
        by_cases hlt : k < r.length
        · obtain ⟨p, hp⟩ : ∃ x, r[k]? = some x := ⟨_, List.getElem?_eq_getElem hlt⟩
          have hget := spsCells_get r k p hp
          have c1 := (hg.trans hg2).cell (owns_cell HS.out _ _ hget.1)
          have c2 := (hg.trans hg2).cell (owns_cell HS.out _ _ hget.2)
          have hmem := (HR.out.mem p (List.mem_of_getElem? hp)).1
          unfold vB at c1 c2
          obtain ⟨x, hx⟩ : ∃ x : Nat, p.1.toNat = x := ⟨_, rfl⟩
          obtain ⟨y, hy⟩ : ∃ y : Nat, p.2.toNat = y := ⟨_, rfl⟩
          have hy256 := p.2.toNat_lt
          have hsum : spanSum (r.take (k + 1)) = spanSum (r.take k) + (y - x + 1) := by
            obtain ⟨g1, rfl⟩ := List.getElem?_eq_some_iff.1 hp
            rw [List.take_succ_eq_append_getElem g1, spanSum_append]; simp only [spanSum, hx, hy, Nat.add_zero]
          have hall : spanSum (r.take (k + 1)) ≤ 256 := by
            have h1 := HR.out.sum
            rw [← List.take_append_drop (k + 1) r, spanSum_append] at h1; omega
          rw [hx] at c1 hmem
          rw [hy] at c2 hmem hy256
          obtain ⟨n, hn⟩ : ∃ n, spanSum (r.take k) = n := ⟨_, rfl⟩
          rw [hn] at hsum ⊢
          have hxI : (x : Int) < 256 := by omega
          have hyI : (y : Int) < 256 := by omega
          have hxyI : ¬ (y : Int) < (x : Int) := by omega
          have hkI : (k : Int) < (r.length : Int) := by omega
          have ex : IntKind.i64.wrap (x : Int) = (x : Int) := IntWalk.i64_in _ (by omega)
          have ey : IntKind.i64.wrap (y : Int) = (y : Int) := IntWalk.i64_in _ (by omega)
          have e1 : IntKind.i64.wrap ((n : Int) + (y : Int)) = (n : Int) + (y : Int) := IntWalk.i64_in _ (by omega)
          have e2 : IntKind.i64.wrap ((n : Int) + (y : Int) - (x : Int)) = (n : Int) + (y : Int) - (x : Int) := IntWalk.i64_in _ (by omega)
          have e3 : IntKind.i64.wrap ((n : Int) + (y : Int) - (x : Int) + 1) = (n : Int) + (y : Int) - (x : Int) + 1 := IntWalk.i64_in _ (by omega)
          have HSUM := Lib.hid (show ((spanSum (r.take (k + 1)) : Nat) : Int) = (n : Int) + (y : Int) - (x : Int) + 1 by omega)
          have HLT := Lib.hid hlt
          have hgsr : gs < wr.heap.size := by have := (hg.trans hg2).size; omega
          have hknat := hk
          have HXY := Lib.hid (show x ≤ y by omega)
          have HXX := Lib.hid hx
          clear hsum hall hn hmem hx hy hy256 hget
          go_wp2_with fail
          have hxyN : ¬ y < x := by have := HXY.out; omega
          have hxyI2 : ¬ (y : Int) < (x : Int) := by have := HXY.out; omega
          by_cases hk0 : k = 0
          · subst hk0
            refine wp_region_G (.take 0 (.take 1 (.take 2 (.take 3 (.take 4 (.take 5 (.take 6 (.take 7 (.take 8 (.take 9 (.take 10 (.take 11 (.take 12 (.take 13 (.take 14 (.take 15 (.take 16 (.take 17 (.take 18 (.take 19 (.take 20 (.take 21 (.take 22 (.take 23 (.take 24 (.take 25 (.take 26 (.take 27 (.take 28 (.take 29 (.take 30 (.take 31 .nil)))))))))))))))))))))))))))))))) (by kernel_rfl) (by kernel_rfl) ?_
            simp only [pickOps, nthOp]
            intro wq hG
            repeat (first | (refine wpG_skip_take ?_ ?_; (focus rfl); try simp only [Act.put, List.setIfInBounds_toArray, List.set_cons_zero, List.set_cons_succ]) | (refine wpG_skip_run ?_ ?_; (focus rfl); try simp only [Act.put, List.setIfInBounds_toArray, List.set_cons_zero, List.set_cons_succ]) | (refine wpG_take ?_ ?_; (focus rfl); apply Exists.intro; refine ⟨fun w' hw' => ?_, ?_⟩; (focus (have hc := Gr.cells hw'; go_simp; (try rfl); done)); try simp only [Act.put, List.setIfInBounds_toArray, List.set_cons_zero, List.set_cons_succ]))
            refine wpG_done ?_
            have hc := hG.cells
            go_wp2_with fail
            refine wp_region_B hG (.take 0 (.take 1 (.take 2 (.take 3 (.take 4 (.take 5 (.take 6 (.take 7 (.take 8 (.take 9 (.take 10 (.take 11 (.take 12 (.take 13 (.take 14 (.take 15 (.run 16 true .nil))))))))))))))))) (by kernel_rfl) (by kernel_rfl) ?_
            simp only [pickOps, nthOp]
            clear hG; intro wq hG
            repeat (first | (refine wpG_skip_take ?_ ?_; (focus rfl); try simp only [Act.put, List.setIfInBounds_toArray, List.set_cons_zero, List.set_cons_succ]) | (refine wpG_skip_run ?_ ?_; (focus rfl); try simp only [Act.put, List.setIfInBounds_toArray, List.set_cons_zero, List.set_cons_succ]) | (refine wpG_take ?_ ?_; (focus rfl); apply Exists.intro; refine ⟨fun w' hw' => ?_, ?_⟩; (focus (have hc := Gr.cells hw'; go_simp; (try rfl); done)); try simp only [Act.put, List.setIfInBounds_toArray, List.set_cons_zero, List.set_cons_succ]))
            refine wpG_last ?_ (fun K hK => ?_); (focus rfl)
            have hc := hG.cells
            have hm := hG.marks
            go_simp
            refine hK.out _ _ ?_
            try simp only [Act.put, List.setIfInBounds_toArray, List.set_cons_zero, List.set_cons_succ]
            clear hK K hc hm
            refine wpG_done ?_
            go_wp2
            go_roundw
            case rel => exact ⟨1, by have := HLT.out; omega, by have h := HSUM.out; simp only [Nat.zero_add] at h; rw [h], by go_num, hg2.trans hG⟩
            case measure => have := HLT.out; simp [intOf]; omega
          · obtain ⟨k', hkk⟩ : ∃ k', k = k' + 1 := ⟨k - 1, by omega⟩
            obtain ⟨p', hp'⟩ : ∃ x, r[k']? = some x := ⟨_, List.getElem?_eq_getElem (by have := HLT.out; omega)⟩
            have c3 := (hg.trans hg2).cell (owns_cell HS.out _ _ (spsCells_get r k' p' hp').2)
            have hgap := HR.out.gap k' p' p hp' (by rw [← hkk]; exact hp)
            unfold vB at c3
            obtain ⟨z, hz⟩ : ∃ z : Nat, p'.2.toNat = z := ⟨_, rfl⟩
            rw [hz] at c3 hgap
            rw [HXX.out] at hgap
            have hxI3 : (x : Int) < 256 := by omega
            have hzI : (z : Int) < 256 := by omega
            have hk0N : 0 < k := by omega
            have hk0I : (0 : Int) < (k : Int) := by omega
            have hk'I : (k' : Int) < (r.length : Int) := by omega
            have ek : IntKind.i64.wrap ((k : Int) - 1) = (k' : Int) := by rw [IntWalk.i64_in _ (by omega)]; omega
            have ez : IntKind.i64.wrap (z : Int) = (z : Int) := IntWalk.i64_in _ (by omega)
            have ez2 : IntKind.i64.wrap ((z : Int) + 2) = (z : Int) + 2 := IntWalk.i64_in _ (by omega)
            have hg1 : ¬ (x : Int) < (z : Int) + 2 := by omega
            clear hkk hk0 hz hp' hgap hp
            refine wp_region_G (.take 0 (.take 1 (.take 2 (.take 3 (.take 4 (.take 5 (.take 6 (.take 7 (.take 8 (.take 9 (.take 10 (.take 11 (.take 12 (.take 13 (.take 14 (.take 15 (.take 16 (.take 17 (.take 18 (.take 19 (.take 20 (.take 21 (.take 22 (.take 23 (.take 24 (.take 25 (.take 26 (.take 27 (.take 28 (.take 29 (.take 30 (.take 31 .nil)))))))))))))))))))))))))))))))) (by kernel_rfl) (by kernel_rfl) ?_
            simp only [pickOps, nthOp]
            intro wq hG
            repeat (first | (refine wpG_skip_take ?_ ?_; (focus rfl); try simp only [Act.put, List.setIfInBounds_toArray, List.set_cons_zero, List.set_cons_succ]) | (refine wpG_skip_run ?_ ?_; (focus rfl); try simp only [Act.put, List.setIfInBounds_toArray, List.set_cons_zero, List.set_cons_succ]) | (refine wpG_take ?_ ?_; (focus rfl); apply Exists.intro; refine ⟨fun w' hw' => ?_, ?_⟩; (focus (have hc := Gr.cells hw'; go_simp; (try rfl); done)); try simp only [Act.put, List.setIfInBounds_toArray, List.set_cons_zero, List.set_cons_succ]))
            refine wpG_done ?_
            clear ek ez ez2
            have hc := hG.cells
            go_wp2_with fail
            refine wp_region_B hG (.take 0 (.take 1 (.take 2 (.take 3 (.take 4 (.take 5 (.take 6 (.take 7 (.take 8 (.take 9 (.take 10 (.take 11 (.take 12 (.take 13 (.take 14 (.take 15 (.run 16 true .nil))))))))))))))))) (by kernel_rfl) (by kernel_rfl) ?_
            simp only [pickOps, nthOp]
            clear hG; intro wq hG
            repeat (first | (refine wpG_skip_take ?_ ?_; (focus rfl); try simp only [Act.put, List.setIfInBounds_toArray, List.set_cons_zero, List.set_cons_succ]) | (refine wpG_skip_run ?_ ?_; (focus rfl); try simp only [Act.put, List.setIfInBounds_toArray, List.set_cons_zero, List.set_cons_succ]) | (refine wpG_take ?_ ?_; (focus rfl); apply Exists.intro; refine ⟨fun w' hw' => ?_, ?_⟩; (focus (have hc := Gr.cells hw'; go_simp; (try rfl); done)); try simp only [Act.put, List.setIfInBounds_toArray, List.set_cons_zero, List.set_cons_succ]))
            refine wpG_last ?_ (fun K hK => ?_); (focus rfl)
            have hc := hG.cells
            have hm := hG.marks
            go_simp
            refine hK.out _ _ ?_
            try simp only [Act.put, List.setIfInBounds_toArray, List.set_cons_zero, List.set_cons_succ]
            clear hK K hc hm
            refine wpG_done ?_
            go_wp2
            go_roundw
            case rel => exact ⟨k + 1, by have := HLT.out; omega, by have h := HSUM.out; rw [h], by go_num, hg2.trans hG⟩
            case measure => have := HLT.out; simp [intOf]; omega
        · have hkr : k = r.length := by omega
          subst hkr
          have hn : spanSum (r.take r.length) = L.length := by rw [List.take_length]; exact HR.out.sum
          rw [hn]
          have hg3 := hg.trans hg2
          clear hk hlt hn
          obtain ⟨q, hq⟩ : ∃ q, IsLow A q := by
            rcases low_or A with h | h
            · exact h
            · exact absurd (by rw [h]; exact bytesOf_empty) HNE.out
          have c0 := hg3.cell (HCL.out 0 _ (by rw [← HL.out]; exact bytesOf_low A q hq))
          unfold vB at c0
          rw [toNat_ofNat8 q hq.1] at c0
          have hqI : (q : Int) < 256 := by have := hq.1; omega
          have xp3 := xp.later hg3
          have c_p0 := xp3.cell 0 _ rfl
          have c_p1 := xp3.cell 1 _ rfl
          have c_p2 := xp3.cell 2 _ rfl
          have c_p3 := xp3.cell 3 _ rfl
          have c_p4 := xp3.cell 4 _ rfl
          have c_p5 := xp3.cell 5 _ rfl
          have c_p6 := xp3.cell 6 _ rfl
          have c_p7 := xp3.cell 7 _ rfl
          have c_p8 := xp3.cell 8 _ rfl
          have c_p9 := xp3.cell 9 _ rfl
          have c_p10 := xp3.cell 10 _ rfl
          have c_p11 := xp3.cell 11 _ rfl
          have m_p0 := xp3.mark 0 _ rfl
          have m_p1 := xp3.mark 1 _ rfl
          have m_p2 := xp3.mark 2 _ rfl
          have m_p3 := xp3.mark 3 _ rfl
          have m_p4 := xp3.mark 4 _ rfl
          have m_p5 := xp3.mark 5 _ rfl
          have m_p6 := xp3.mark 6 _ rfl
          have m_p7 := xp3.mark 7 _ rfl
          have m_p8 := xp3.mark 8 _ rfl
          have m_p9 := xp3.mark 9 _ rfl
          have m_p10 := xp3.mark 10 _ rfl
          have m_p11 := xp3.mark 11 _ rfl
          have l_p := xp3.lt (Nat.succ_pos _)
          have HT3 := Lib.hid (show Tab wr from HT.out.later (hgw2.trans (hG23.out.trans hg3)))
          have HQ := Lib.hid hq
          clear hq
          have hgl3 : gl < wr.heap.size := by have := hg3.size; omega
          go_wp2_with fail
          clear c_p0 c_p1 c_p2 c_p3 c_p4 c_p5 c_p6 c_p7 c_p8 c_p9 c_p10 c_p11 m_p0 m_p1 m_p2 m_p3 m_p4 m_p5 m_p6 m_p7 m_p8 m_p9 m_p10 m_p11 l_p
          go_at_call 13
          refine (least_any A q HQ.out _ HT3.out).mono ?_; rintro e w4 ⟨rfl, hb⟩
          have hg4 := hg3.trans hb
          have xp4 := xp3.later hb
          have c4 := hb.cell c0
          have hgl4 : gl < w4.heap.size := by have := hb.size; omega
          have hLI : (0 : Int) < (L.length : Int) := by omega
          have hcard : (card A : Int) = (L.length : Int) := by rw [← bytesOf_count, HL.out]
          have HCARD := Lib.hid hcard
          clear c0 hb xp3 hgl3 hcard hg hg2 hg3
          have c_p0 := xp4.cell 0 _ rfl
          have c_p1 := xp4.cell 1 _ rfl
          have c_p2 := xp4.cell 2 _ rfl
          have c_p3 := xp4.cell 3 _ rfl
          have c_p4 := xp4.cell 4 _ rfl
          have c_p5 := xp4.cell 5 _ rfl
          have c_p6 := xp4.cell 6 _ rfl
          have c_p7 := xp4.cell 7 _ rfl
          have c_p8 := xp4.cell 8 _ rfl
          have c_p9 := xp4.cell 9 _ rfl
          have c_p10 := xp4.cell 10 _ rfl
          have c_p11 := xp4.cell 11 _ rfl
          have m_p0 := xp4.mark 0 _ rfl
          have m_p1 := xp4.mark 1 _ rfl
          have m_p2 := xp4.mark 2 _ rfl
          have m_p3 := xp4.mark 3 _ rfl
          have m_p4 := xp4.mark 4 _ rfl
          have m_p5 := xp4.mark 5 _ rfl
          have m_p6 := xp4.mark 6 _ rfl
          have m_p7 := xp4.mark 7 _ rfl
          have m_p8 := xp4.mark 8 _ rfl
          have m_p9 := xp4.mark 9 _ rfl
          have m_p10 := xp4.mark 10 _ rfl
          have m_p11 := xp4.mark 11 _ rfl
          have l_p := xp4.lt (Nat.succ_pos _)
          go_wp2_with fail
          clear c_p0 c_p1 c_p2 c_p3 c_p4 c_p5 c_p6 c_p7 c_p8 c_p9 c_p10 c_p11 m_p0 m_p1 m_p2 m_p3 m_p4 m_p5 m_p6 m_p7 m_p8 m_p9 m_p10 m_p11 l_p
          go_at_call 14
          refine (count_is A _ _ HCARD.out).mono ?_; rintro e w5 ⟨rfl, hb⟩
          have hN0 := hg4.trans hb
          clear c4 hb xp4 hgl4 hg4
          have hG2 : Gr w2 w5 := hG23.out.trans hN0
          have HSS := Lib.hid (Sl.of_owns (owns_later HS.out hN0))
          have HOW := Lib.hid (owns_later HS.out hN0)
          have HOF := Lib.hid (show ofList L = A by rw [← HL.out]; exact ofList_bytesOf A)
          have HSP := Lib.hid (show ofSpans r = A by rw [HR.out.set, ← HL.out]; exact ofList_bytesOf A)
          have HSP2 := Lib.hid (show ofSpans (r ++ r) = A by rw [ofSpans_append, HSP.out]; exact set_ext _ _ fun _ _ => by simp)
          have HN0 := Lib.hid hN0
          clear hN0
          have k1 : (A == A) = true := by simp
          have c_p0 := xp0.cell 0 _ rfl
          have c_p1 := xp0.cell 1 _ rfl
          have c_p2 := xp0.cell 2 _ rfl
          have c_p3 := xp0.cell 3 _ rfl
          have c_p4 := xp0.cell 4 _ rfl
          have c_p5 := xp0.cell 5 _ rfl
          have c_p6 := xp0.cell 6 _ rfl
          have c_p7 := xp0.cell 7 _ rfl
          have c_p8 := xp0.cell 8 _ rfl
          have c_p9 := xp0.cell 9 _ rfl
          have c_p10 := xp0.cell 10 _ rfl
          have c_p11 := xp0.cell 11 _ rfl
          have m_p0 := xp0.mark 0 _ rfl
          have m_p1 := xp0.mark 1 _ rfl
          have m_p2 := xp0.mark 2 _ rfl
          have m_p3 := xp0.mark 3 _ rfl
          have m_p4 := xp0.mark 4 _ rfl
          have m_p5 := xp0.mark 5 _ rfl
          have m_p6 := xp0.mark 6 _ rfl
          have m_p7 := xp0.mark 7 _ rfl
          have m_p8 := xp0.mark 8 _ rfl
          have m_p9 := xp0.mark 9 _ rfl
          have m_p10 := xp0.mark 10 _ rfl
          have m_p11 := xp0.mark 11 _ rfl
          have l_p := xp0.lt (Nat.succ_pos _)
          go_wp2_with fail
          refine wp_region_S (Gr w2) (.take 0 (.take 2 (.take 3 (.run 1 false (.take 4 (.take 5 (.take 6 (.take 8 (.take 9 (.run 7 false (.take 10 (.take 11 (.take 12 (.take 13 (.take 14 (.take 17 (.take 18 (.run 15 false (.run 16 false (.take 19 (.take 20 (.take 21 (.run 22 false (.take 23 (.run 24 true .nil))))))))))))))))))))))))) (hG2.trans (Gr.drew _)) (by kernel_rfl) (by kernel_rfl) ?_
          simp only [pickOps, nthOp]
          intro wr7 hN hG
          repeat (first | (refine wpG_skip_take ?_ ?_; (focus rfl); try simp only [Act.put, List.setIfInBounds_toArray, List.set_cons_zero, List.set_cons_succ]) | (refine wpG_skip_run ?_ ?_; (focus rfl); try simp only [Act.put, List.setIfInBounds_toArray, List.set_cons_zero, List.set_cons_succ]) | (refine wpG_take ?_ ?_; (focus rfl); apply Exists.intro; refine ⟨fun w' hw' => ?_, ?_⟩; (focus (have hc := Gr.cells hw'; go_simp; (try rfl); done)); try simp only [Act.put, List.setIfInBounds_toArray, List.set_cons_zero, List.set_cons_succ]) | (refine wpG_run ?_ (fun K hK => ?_); (focus rfl); go_simp; (first | (go_at_call 15; (with_reducible refine (of_is L A _ _ (HSL0.out.later hG) HOF.out).mono ?_); rintro e w' ⟨rfl, hb⟩; replace hN := hN.trans hb) | (go_at_call 16; (with_reducible refine (ofSpans_is r A _ _ (HSS.out.later hN) HSP.out).mono ?_); rintro e w' ⟨rfl, hb⟩; replace hN := hN.trans hb)); (try dsimp only); replace hG := hG.trans hb; refine hK.out _ _ hG ?_; clear hK K hb; try simp only [Act.put, List.setIfInBounds_toArray, List.set_cons_zero, List.set_cons_succ]))
          refine wpG_run rfl (fun K hK => ?_)
          have hownC := owns_later HOW.out hN
          refine wp_append_own _ (.tmp 155) (.tmp 156) 34 rfl w2.heap.size 38 i0 (.agg #[.int .u8 0, .int .u8 0]) 2 2 Tryd.underlying34 hi hz0 hz1 hz2 rfl (by decide) (.slice (some ⟨gs, 0, none⟩) r.length caps) r.length _ rfl hownC ⟨gs, 0, none⟩ r.length caps (spsCells r) rfl hownC.1 (fun j u hj => by rw [addr_add0]; exact owns_cell hownC j u hj) (spsCells_one r) (by unfold maxLen; omega) (by omega) (by have := hG.size; omega) ?_
          intro v9 W9 hown9 hgrow9 _
          have hg9 : Gr w2 W9 := Gr.grown hG hgrow9 (fun g hgb => (World.ownsRow.lt hownC g hgb).1)
          have HS9 := Lib.hid (show Sl W9 v9 2 (r ++ r).length (spsCells (r ++ r)) by
            rw [spsCells_app, List.length_append]; exact Sl.of_owns hown9)
          refine hK.out _ _ hg9 ?_
          clear hK K hown9 hgrow9 hownC
          replace hG := hg9
          clear hg9
          have hN9 := Gr.refl W9
          try simp only [Act.put, List.setIfInBounds_toArray, List.set_cons_zero, List.set_cons_succ]
          repeat (first | (refine wpG_skip_take ?_ ?_; (focus rfl); try simp only [Act.put, List.setIfInBounds_toArray, List.set_cons_zero, List.set_cons_succ]) | (refine wpG_skip_run ?_ ?_; (focus rfl); try simp only [Act.put, List.setIfInBounds_toArray, List.set_cons_zero, List.set_cons_succ]) | (refine wpG_take ?_ ?_; (focus rfl); apply Exists.intro; refine ⟨fun w' hw' => ?_, ?_⟩; (focus (have hc := Gr.cells hw'; go_simp; (try rfl); done)); try simp only [Act.put, List.setIfInBounds_toArray, List.set_cons_zero, List.set_cons_succ]) | (refine wpG_run ?_ (fun K hK => ?_); (focus rfl); go_simp; (first | (go_at_call 16; (with_reducible refine (ofSpans_is (r ++ r) A _ _ (HS9.out.later hN9) HSP2.out).mono ?_); rintro e w' ⟨rfl, hb⟩; replace hN9 := hN9.trans hb) | (go_at_call 9; (with_reducible refine (wakes_any _).mono ?_); rintro e w' ⟨rfl, hb⟩)); (try dsimp only); replace hG := hG.trans hb; refine hK.out _ _ hG ?_; clear hK K hb; try simp only [Act.put, List.setIfInBounds_toArray, List.set_cons_zero, List.set_cons_succ]))
          refine wpG_last ?_ (fun K hK => ?_); (focus rfl)
          have hc := hG.cells
          have hm := hG.marks
          go_simp
          refine hK.out _ _ ?_
          try simp only [Act.put, List.setIfInBounds_toArray, List.set_cons_zero, List.set_cons_succ]
          clear hK K hc hm
          refine wpG_done ?_
          go_wp2
          go_ret
          exact ⟨rfl, hgw2.trans hG⟩

set_option maxRecDepth 100000 in
set_option maxHeartbeats 4000000 in
theorem setForms_none (B C : BitVec 256) (w : World) (hT : Tab w) :
    Calls Tryd.prog 4 #[.agg #[.int .u64 (wd emptyS 0), .int .u64 (wd emptyS 1), .int .u64 (wd emptyS 2), .int .u64 (wd emptyS 3), .int .u64 (wd B 0), .int .u64 (wd B 1), .int .u64 (wd B 2), .int .u64 (wd B 3), .int .u64 (wd C 0), .int .u64 (wd C 1), .int .u64 (wd C 2), .int .u64 (wd C 3)]] w
      fun e w' => e = .returned (.bool true) ∧ Gr w w' := by
  have HT := Lib.hid hT
  have HE := Lib.hid bytesOf_empty
  have HC := Lib.hid (show ((card emptyS : Nat) : Int) = 0 by rw [← bytesOf_count, bytesOf_empty]; rfl)
  clear hT
  go_enter Tryd.func4, Tryd.ntmps4
  go_wp2_with fail
  go_at_call 10
  refine name_calls (fun W hW => ?_)
  have hgW : Gr w W := by rw [hW]; exact Gr.alloc _ _
  have xp : boxAt W (w.heap.size) [.int .u64 (wd emptyS 0), .int .u64 (wd emptyS 1), .int .u64 (wd emptyS 2), .int .u64 (wd emptyS 3), .int .u64 (wd B 0), .int .u64 (wd B 1), .int .u64 (wd B 2), .int .u64 (wd B 3), .int .u64 (wd C 0), .int .u64 (wd C 1), .int .u64 (wd C 2), .int .u64 (wd C 3)] := by
    subst hW; intro j u hj
    match j, hj with
    | 0, hj => simp at hj; subst hj; constructor <;> go_simp
    | 1, hj => simp at hj; subst hj; constructor <;> go_simp
    | 2, hj => simp at hj; subst hj; constructor <;> go_simp
    | 3, hj => simp at hj; subst hj; constructor <;> go_simp
    | 4, hj => simp at hj; subst hj; constructor <;> go_simp
    | 5, hj => simp at hj; subst hj; constructor <;> go_simp
    | 6, hj => simp at hj; subst hj; constructor <;> go_simp
    | 7, hj => simp at hj; subst hj; constructor <;> go_simp
    | 8, hj => simp at hj; subst hj; constructor <;> go_simp
    | 9, hj => simp at hj; subst hj; constructor <;> go_simp
    | 10, hj => simp at hj; subst hj; constructor <;> go_simp
    | 11, hj => simp at hj; subst hj; constructor <;> go_simp
  clear hW
  refine (list_any emptyS W).mono ?_; rintro e w2 ⟨vl, rfl, hl, hb⟩
  replace xp := xp.later hb
  replace hgW := hgW.trans hb
  clear hb
  have c_p0 := xp.cell 0 _ rfl
  have c_p1 := xp.cell 1 _ rfl
  have c_p2 := xp.cell 2 _ rfl
  have c_p3 := xp.cell 3 _ rfl
  have c_p4 := xp.cell 4 _ rfl
  have c_p5 := xp.cell 5 _ rfl
  have c_p6 := xp.cell 6 _ rfl
  have c_p7 := xp.cell 7 _ rfl
  have c_p8 := xp.cell 8 _ rfl
  have c_p9 := xp.cell 9 _ rfl
  have c_p10 := xp.cell 10 _ rfl
  have c_p11 := xp.cell 11 _ rfl
  have m_p0 := xp.mark 0 _ rfl
  have m_p1 := xp.mark 1 _ rfl
  have m_p2 := xp.mark 2 _ rfl
  have m_p3 := xp.mark 3 _ rfl
  have m_p4 := xp.mark 4 _ rfl
  have m_p5 := xp.mark 5 _ rfl
  have m_p6 := xp.mark 6 _ rfl
  have m_p7 := xp.mark 7 _ rfl
  have m_p8 := xp.mark 8 _ rfl
  have m_p9 := xp.mark 9 _ rfl
  have m_p10 := xp.mark 10 _ rfl
  have m_p11 := xp.mark 11 _ rfl
  have l_p := xp.lt (Nat.succ_pos _)
  go_wp2_with fail
  clear c_p0 c_p1 c_p2 c_p3 c_p4 c_p5 c_p6 c_p7 c_p8 c_p9 c_p10 c_p11 m_p0 m_p1 m_p2 m_p3 m_p4 m_p5 m_p6 m_p7 m_p8 m_p9 m_p10 m_p11 l_p
  go_at_call 11
  refine (spans_any emptyS _).mono ?_; rintro e w3 ⟨vs, r, rfl, hR, _, hb, hnil⟩
  rw [HE.out] at hR hl
  have hr : r = [] := by
    have := hR.len; exact List.eq_nil_of_length_eq_zero (by simpa using this)
  obtain rfl := hnil hr
  subst hr
  have hsl := (Sl.of_owns hl).later hb
  replace xp := xp.later hb
  replace hgW := hgW.trans hb
  clear hb hl hR hnil
  obtain ⟨pl, capl, rfl⟩ := hsl.len
  have HSL := Lib.hid (show Sl w3 (.slice pl 0 capl) 1 ([] : List UInt8).length (([] : List UInt8).map vB) from hsl)
  clear hsl
  have hT3 := HT.out.later hgW
  have HT3 := Lib.hid hT3
  clear hT3 HT
  go_wp2_with fail
  refine wp_loop_rounds 1 ?_
  rw [rounds_succ]
  go_wp2_with fail
  refine wp_loop_rounds 1 ?_
  rw [rounds_succ]
  have c_p0 := xp.cell 0 _ rfl
  have c_p1 := xp.cell 1 _ rfl
  have c_p2 := xp.cell 2 _ rfl
  have c_p3 := xp.cell 3 _ rfl
  have c_p4 := xp.cell 4 _ rfl
  have c_p5 := xp.cell 5 _ rfl
  have c_p6 := xp.cell 6 _ rfl
  have c_p7 := xp.cell 7 _ rfl
  have c_p8 := xp.cell 8 _ rfl
  have c_p9 := xp.cell 9 _ rfl
  have c_p10 := xp.cell 10 _ rfl
  have c_p11 := xp.cell 11 _ rfl
  have m_p0 := xp.mark 0 _ rfl
  have m_p1 := xp.mark 1 _ rfl
  have m_p2 := xp.mark 2 _ rfl
  have m_p3 := xp.mark 3 _ rfl
  have m_p4 := xp.mark 4 _ rfl
  have m_p5 := xp.mark 5 _ rfl
  have m_p6 := xp.mark 6 _ rfl
  have m_p7 := xp.mark 7 _ rfl
  have m_p8 := xp.mark 8 _ rfl
  have m_p9 := xp.mark 9 _ rfl
  have m_p10 := xp.mark 10 _ rfl
  have m_p11 := xp.mark 11 _ rfl
  have l_p := xp.lt (Nat.succ_pos _)
  go_wp2_with fail
  clear c_p0 c_p1 c_p2 c_p3 c_p4 c_p5 c_p6 c_p7 c_p8 c_p9 c_p10 c_p11 m_p0 m_p1 m_p2 m_p3 m_p4 m_p5 m_p6 m_p7 m_p8 m_p9 m_p10 m_p11 l_p
  go_at_call 13
  refine (least_none w3).mono ?_; rintro e w4 ⟨rfl, hb⟩
  replace xp := xp.later hb
  have HG4 := Lib.hid hb
  have hg4 := hgW.trans hb
  have HSL4 := Lib.hid (HSL.out.later hb)
  clear hb hgW HSL
  have c_p0 := xp.cell 0 _ rfl
  have c_p1 := xp.cell 1 _ rfl
  have c_p2 := xp.cell 2 _ rfl
  have c_p3 := xp.cell 3 _ rfl
  have c_p4 := xp.cell 4 _ rfl
  have c_p5 := xp.cell 5 _ rfl
  have c_p6 := xp.cell 6 _ rfl
  have c_p7 := xp.cell 7 _ rfl
  have c_p8 := xp.cell 8 _ rfl
  have c_p9 := xp.cell 9 _ rfl
  have c_p10 := xp.cell 10 _ rfl
  have c_p11 := xp.cell 11 _ rfl
  have m_p0 := xp.mark 0 _ rfl
  have m_p1 := xp.mark 1 _ rfl
  have m_p2 := xp.mark 2 _ rfl
  have m_p3 := xp.mark 3 _ rfl
  have m_p4 := xp.mark 4 _ rfl
  have m_p5 := xp.mark 5 _ rfl
  have m_p6 := xp.mark 6 _ rfl
  have m_p7 := xp.mark 7 _ rfl
  have m_p8 := xp.mark 8 _ rfl
  have m_p9 := xp.mark 9 _ rfl
  have m_p10 := xp.mark 10 _ rfl
  have m_p11 := xp.mark 11 _ rfl
  have l_p := xp.lt (Nat.succ_pos _)
  go_wp2_with fail
  go_at_call 14
  refine (count_is emptyS _ _ HC.out).mono ?_; rintro e w5 ⟨rfl, hb⟩
  clear c_p0 c_p1 c_p2 c_p3 c_p4 c_p5 c_p6 c_p7 c_p8 c_p9 c_p10 c_p11 m_p0 m_p1 m_p2 m_p3 m_p4 m_p5 m_p6 m_p7 m_p8 m_p9 m_p10 m_p11 l_p
  replace xp := xp.later hb
  have hg5 := hg4.trans hb
  have HSL5 := Lib.hid (HSL4.out.later hb)
  clear hb hg4 HSL4
  have k1 : (emptyS == emptyS) = true := by simp
  have c_p0 := xp.cell 0 _ rfl
  have c_p1 := xp.cell 1 _ rfl
  have c_p2 := xp.cell 2 _ rfl
  have c_p3 := xp.cell 3 _ rfl
  have c_p4 := xp.cell 4 _ rfl
  have c_p5 := xp.cell 5 _ rfl
  have c_p6 := xp.cell 6 _ rfl
  have c_p7 := xp.cell 7 _ rfl
  have c_p8 := xp.cell 8 _ rfl
  have c_p9 := xp.cell 9 _ rfl
  have c_p10 := xp.cell 10 _ rfl
  have c_p11 := xp.cell 11 _ rfl
  have m_p0 := xp.mark 0 _ rfl
  have m_p1 := xp.mark 1 _ rfl
  have m_p2 := xp.mark 2 _ rfl
  have m_p3 := xp.mark 3 _ rfl
  have m_p4 := xp.mark 4 _ rfl
  have m_p5 := xp.mark 5 _ rfl
  have m_p6 := xp.mark 6 _ rfl
  have m_p7 := xp.mark 7 _ rfl
  have m_p8 := xp.mark 8 _ rfl
  have m_p9 := xp.mark 9 _ rfl
  have m_p10 := xp.mark 10 _ rfl
  have m_p11 := xp.mark 11 _ rfl
  have l_p := xp.lt (Nat.succ_pos _)
  go_wp2_with fail
  refine wp_region_G (.take 0 (.take 2 (.take 3 (.run 1 false (.take 4 (.take 5 (.take 6 (.take 8 (.take 9 (.run 7 false (.take 10 (.take 11 (.take 12 (.take 13 (.take 14 (.take 17 (.take 18 (.run 15 false (.run 16 false (.take 19 (.take 20 (.take 21 (.run 22 false (.take 23 (.run 24 true .nil))))))))))))))))))))))))) (by kernel_rfl) (by kernel_rfl) ?_
  simp only [pickOps, nthOp]
  intro wq hG
  repeat (first | (refine wpG_skip_take ?_ ?_; (focus rfl); try simp only [Act.put, List.setIfInBounds_toArray, List.set_cons_zero, List.set_cons_succ]) | (refine wpG_skip_run ?_ ?_; (focus rfl); try simp only [Act.put, List.setIfInBounds_toArray, List.set_cons_zero, List.set_cons_succ]) | (refine wpG_take ?_ ?_; (focus rfl); apply Exists.intro; refine ⟨fun w' hw' => ?_, ?_⟩; (focus (have hc := Gr.cells hw'; go_simp; (try rfl); done)); try simp only [Act.put, List.setIfInBounds_toArray, List.set_cons_zero, List.set_cons_succ]) | (refine wpG_run ?_ (fun K hK => ?_); (focus rfl); go_simp; (first | (go_at_call 15; (with_reducible refine (of_is [] emptyS _ _ (HSL5.out.later hG) ofList_nil).mono ?_); rintro e w' ⟨rfl, hb⟩) | (go_at_call 16; (with_reducible refine (ofSpans_is [] emptyS _ _ (Sl.nil _ _) rfl).mono ?_); rintro e w' ⟨rfl, hb⟩) | (go_at_call 9; (with_reducible refine (wakes_any _).mono ?_); rintro e w' ⟨rfl, hb⟩)); (try dsimp only); replace hG := hG.trans hb; refine hK.out _ _ hG ?_; clear hK K hb; try simp only [Act.put, List.setIfInBounds_toArray, List.set_cons_zero, List.set_cons_succ]))
  refine wpG_run rfl (fun K hK => ?_)
  go_simp
  refine hK.out _ _ hG ?_
  clear hK K
  try simp only [Act.put, List.setIfInBounds_toArray, List.set_cons_zero, List.set_cons_succ]
  repeat (first | (refine wpG_skip_take ?_ ?_; (focus rfl); try simp only [Act.put, List.setIfInBounds_toArray, List.set_cons_zero, List.set_cons_succ]) | (refine wpG_skip_run ?_ ?_; (focus rfl); try simp only [Act.put, List.setIfInBounds_toArray, List.set_cons_zero, List.set_cons_succ]) | (refine wpG_take ?_ ?_; (focus rfl); apply Exists.intro; refine ⟨fun w' hw' => ?_, ?_⟩; (focus (have hc := Gr.cells hw'; go_simp; (try rfl); done)); try simp only [Act.put, List.setIfInBounds_toArray, List.set_cons_zero, List.set_cons_succ]) | (refine wpG_run ?_ (fun K hK => ?_); (focus rfl); go_simp; (first | (go_at_call 16; (with_reducible refine (ofSpans_is [] emptyS _ _ (Sl.nil _ _) rfl).mono ?_); rintro e w' ⟨rfl, hb⟩) | (go_at_call 9; (with_reducible refine (wakes_any _).mono ?_); rintro e w' ⟨rfl, hb⟩)); (try dsimp only); replace hG := hG.trans hb; refine hK.out _ _ hG ?_; clear hK K hb; try simp only [Act.put, List.setIfInBounds_toArray, List.set_cons_zero, List.set_cons_succ]))
  refine wpG_last ?_ (fun K hK => ?_); (focus rfl)
  have hc := hG.cells
  have hm := hG.marks
  go_simp
  refine hK.out _ _ ?_
  try simp only [Act.put, List.setIfInBounds_toArray, List.set_cons_zero, List.set_cons_succ]
  clear hK K hc hm
  refine wpG_done ?_
  go_wp2
  go_ret
  exact ⟨rfl, hg5.trans hG⟩

theorem setForms_any (A B C : BitVec 256) (w : World) (hT : Tab w) :
    Calls Tryd.prog 4 #[.agg #[.int .u64 (wd A 0), .int .u64 (wd A 1), .int .u64 (wd A 2), .int .u64 (wd A 3), .int .u64 (wd B 0), .int .u64 (wd B 1), .int .u64 (wd B 2), .int .u64 (wd B 3), .int .u64 (wd C 0), .int .u64 (wd C 1), .int .u64 (wd C 2), .int .u64 (wd C 3)]] w
      fun e w' => e = .returned (.bool true) ∧ Gr w w' := by
  by_cases h : bytesOf A = []
  · have hA : A = emptyS := by
      have h1 := ofList_bytesOf A
      rw [h, ofList_nil] at h1; exact h1.symm
    subst hA
    exact setForms_none B C w hT
  · exact setForms_some A B C w hT h

end Go.Proofs.YtambkpgcccjhmaaDoor
