/- SetOrder of bolterlaw1, walked: it answers true. No condition but the table's. -/
import Derived.Test.YtambkpgcccjhmaaDoorCompare
namespace Go.Proofs.YtambkpgcccjhmaaDoor
open Go Go.RowKit

theorem cmp_ex (a b : BitVec 256) : ∃ c, IsCmp a b c := by
  by_cases h : a = b
  · exact ⟨0, .inl ⟨h, rfl⟩⟩
  · obtain ⟨k, hk⟩ := low_of_ne a b h
    exact ⟨_, cmp_of_low a b k hk⟩
theorem compare_empty (A : BitVec 256) (c : Int) (h : IsCmp A emptyS c) (w : World) (hT : Tab w) : Calls Tryd.prog 6 #[.agg #[.int .u64 (wd A 0), .int .u64 (wd A 1), .int .u64 (wd A 2), .int .u64 (wd A 3)], .agg #[.int .u64 0, .int .u64 0, .int .u64 0, .int .u64 0]] w fun e w' => e = .returned (.int .i64 c) ∧ Gr w w' := by
  have := compare_any A emptyS c h w hT
  simp only [wd_zero] at this
  exact this

set_option maxRecDepth 100000 in
set_option maxHeartbeats 4000000 in
theorem setOrder_any (A B C : BitVec 256) (w : World) (hT : Tab w) :
    Calls Tryd.prog 3 #[.agg #[.int .u64 (wd A 0), .int .u64 (wd A 1), .int .u64 (wd A 2), .int .u64 (wd A 3), .int .u64 (wd B 0), .int .u64 (wd B 1), .int .u64 (wd B 2), .int .u64 (wd B 3), .int .u64 (wd C 0), .int .u64 (wd C 1), .int .u64 (wd C 2), .int .u64 (wd C 3)]] w
      fun e w' => e = .returned (.bool true) ∧ Gr w w' := by
  obtain ⟨x, hx⟩ := cmp_ex A B
  obtain ⟨y, hy⟩ := cmp_ex B C
  obtain ⟨z, hz⟩ := cmp_ex A C
  obtain ⟨p, hp⟩ := cmp_ex (~~~emptyS) A
  obtain ⟨q, hq⟩ := cmp_ex A emptyS
  obtain ⟨r, hr⟩ := cmp_ex (A ||| B) A
  obtain ⟨v, hv⟩ : ∃ v, v = -x := ⟨_, rfl⟩
  have hs : IsCmp B A v := by rw [hv]; exact hx.swap
  have x1 := hx.range
  have y1 := hy.range
  have z1 := hz.range
  have ev : IntKind.i64.wrap (-v) = x := by rw [IntWalk.i64_in _ (by omega)]; omega
  have exy : IntKind.i64.wrap (x + y) = x + y := IntWalk.i64_in _ (by omega)
  have eb : (x == 0) = (A == B) := by rw [Bool.eq_iff_iff]; simpa using hx.zero
  have ht := hx.trans hy hz
  have hp0 : ¬ 0 < p := Int.not_lt.2 (cmp_within (fun k hk _ => by rw [BitVec.getLsbD_not, getLsbD_empty]; simp [hk]) hp).1
  have hq0 : ¬ 0 < q := Int.not_lt.2 (cmp_within (fun k _ h => by rw [getLsbD_empty] at h; cases h) hq).1
  have hr0 := (cmp_within (fun k _ h => by rw [BitVec.getLsbD_or, h]; rfl) hr).2
  have HX := Lib.hid hx
  have HY := Lib.hid hy
  have HZ := Lib.hid hz
  have HP := Lib.hid hp
  have HQ := Lib.hid hq
  have HR := Lib.hid hr
  have HS := Lib.hid hs
  have HT := Lib.hid hT
  have Hr := Lib.hid hr0
  have Ht := Lib.hid ht
  have Hv := Lib.hid hv
  have HP0 := Lib.hid hp0
  have HQ0 := Lib.hid hq0
  clear hp0 hq0
  clear hx hy hz hp hq hr hs hT hr0 ht hv
  go_enter Tryd.func3, Tryd.ntmps3
  go_wp2_with fail
  go_at_call 6
  refine name_calls (fun W hW => ?_)
  have hgW : Gr w W := by rw [hW]; exact Gr.alloc _ _
  have xp : boxAt W (w.heap.size) [.int .u64 (wd A 0), .int .u64 (wd A 1), .int .u64 (wd A 2), .int .u64 (wd A 3), .int .u64 (wd B 0), .int .u64 (wd B 1), .int .u64 (wd B 2), .int .u64 (wd B 3), .int .u64 (wd C 0), .int .u64 (wd C 1), .int .u64 (wd C 2), .int .u64 (wd C 3)] := by
    subst hW; intro j u hj
    match j, hj with
    | 0, hj => simp at hj; subst hj; constructor <;> go_simp
    | 1, hj => simp at hj; subst hj; constructor <;> go_simp
    | 2, hj => simp at hj; subst hj; constructor <;> go_simp
    | 3, hj => simp at hj; subst hj; constructor <;> go_simp
    | 4, hj => simp at hj; subst hj; constructor <;> go_simp
    | 5, hj => simp at hj; subst hj; constructor <;> go_simp
    | 6, hj => simp at hj; subst hj; constructor <;> go_simp
    | 7, hj => simp at hj; subst hj; constructor <;> go_simp
    | 8, hj => simp at hj; subst hj; constructor <;> go_simp
    | 9, hj => simp at hj; subst hj; constructor <;> go_simp
    | 10, hj => simp at hj; subst hj; constructor <;> go_simp
    | 11, hj => simp at hj; subst hj; constructor <;> go_simp
  clear hW
  refine (compare_any A B x HX.out W (HT.out.later hgW)).mono ?_; rintro e w2 ⟨rfl, hb⟩
  replace xp := xp.later hb
  replace hgW := hgW.trans hb
  clear hb
  have c_p0 := xp.cell 0 _ rfl
  have c_p1 := xp.cell 1 _ rfl
  have c_p2 := xp.cell 2 _ rfl
  have c_p3 := xp.cell 3 _ rfl
  have c_p4 := xp.cell 4 _ rfl
  have c_p5 := xp.cell 5 _ rfl
  have c_p6 := xp.cell 6 _ rfl
  have c_p7 := xp.cell 7 _ rfl
  have c_p8 := xp.cell 8 _ rfl
  have c_p9 := xp.cell 9 _ rfl
  have c_p10 := xp.cell 10 _ rfl
  have c_p11 := xp.cell 11 _ rfl
  have m_p0 := xp.mark 0 _ rfl
  have m_p1 := xp.mark 1 _ rfl
  have m_p2 := xp.mark 2 _ rfl
  have m_p3 := xp.mark 3 _ rfl
  have m_p4 := xp.mark 4 _ rfl
  have m_p5 := xp.mark 5 _ rfl
  have m_p6 := xp.mark 6 _ rfl
  have m_p7 := xp.mark 7 _ rfl
  have m_p8 := xp.mark 8 _ rfl
  have m_p9 := xp.mark 9 _ rfl
  have m_p10 := xp.mark 10 _ rfl
  have m_p11 := xp.mark 11 _ rfl
  have l_p := xp.lt (Nat.succ_pos _)
  go_wp2_with fail
  clear c_p0 c_p1 c_p2 c_p3 c_p4 c_p5 c_p6 c_p7 c_p8 c_p9 c_p10 c_p11 m_p0 m_p1 m_p2 m_p3 m_p4 m_p5 m_p6 m_p7 m_p8 m_p9 m_p10 m_p11 l_p
  go_at_call 6
  refine (compare_any B C y HY.out _ (HT.out.later hgW)).mono ?_; rintro e w3 ⟨rfl, hb⟩
  replace xp := xp.later hb
  replace hgW := hgW.trans hb
  clear hb
  have c_p0 := xp.cell 0 _ rfl
  have c_p1 := xp.cell 1 _ rfl
  have c_p2 := xp.cell 2 _ rfl
  have c_p3 := xp.cell 3 _ rfl
  have c_p4 := xp.cell 4 _ rfl
  have c_p5 := xp.cell 5 _ rfl
  have c_p6 := xp.cell 6 _ rfl
  have c_p7 := xp.cell 7 _ rfl
  have c_p8 := xp.cell 8 _ rfl
  have c_p9 := xp.cell 9 _ rfl
  have c_p10 := xp.cell 10 _ rfl
  have c_p11 := xp.cell 11 _ rfl
  have m_p0 := xp.mark 0 _ rfl
  have m_p1 := xp.mark 1 _ rfl
  have m_p2 := xp.mark 2 _ rfl
  have m_p3 := xp.mark 3 _ rfl
  have m_p4 := xp.mark 4 _ rfl
  have m_p5 := xp.mark 5 _ rfl
  have m_p6 := xp.mark 6 _ rfl
  have m_p7 := xp.mark 7 _ rfl
  have m_p8 := xp.mark 8 _ rfl
  have m_p9 := xp.mark 9 _ rfl
  have m_p10 := xp.mark 10 _ rfl
  have m_p11 := xp.mark 11 _ rfl
  have l_p := xp.lt (Nat.succ_pos _)
  go_wp2_with fail
  clear c_p0 c_p1 c_p2 c_p3 c_p4 c_p5 c_p6 c_p7 c_p8 c_p9 c_p10 c_p11 m_p0 m_p1 m_p2 m_p3 m_p4 m_p5 m_p6 m_p7 m_p8 m_p9 m_p10 m_p11 l_p
  go_at_call 6
  refine (compare_any A C z HZ.out _ (HT.out.later hgW)).mono ?_; rintro e w4 ⟨rfl, hb⟩
  replace xp := xp.later hb
  replace hgW := hgW.trans hb
  clear hb
  have c_p0 := xp.cell 0 _ rfl
  have c_p1 := xp.cell 1 _ rfl
  have c_p2 := xp.cell 2 _ rfl
  have c_p3 := xp.cell 3 _ rfl
  have c_p4 := xp.cell 4 _ rfl
  have c_p5 := xp.cell 5 _ rfl
  have c_p6 := xp.cell 6 _ rfl
  have c_p7 := xp.cell 7 _ rfl
  have c_p8 := xp.cell 8 _ rfl
  have c_p9 := xp.cell 9 _ rfl
  have c_p10 := xp.cell 10 _ rfl
  have c_p11 := xp.cell 11 _ rfl
  have m_p0 := xp.mark 0 _ rfl
  have m_p1 := xp.mark 1 _ rfl
  have m_p2 := xp.mark 2 _ rfl
  have m_p3 := xp.mark 3 _ rfl
  have m_p4 := xp.mark 4 _ rfl
  have m_p5 := xp.mark 5 _ rfl
  have m_p6 := xp.mark 6 _ rfl
  have m_p7 := xp.mark 7 _ rfl
  have m_p8 := xp.mark 8 _ rfl
  have m_p9 := xp.mark 9 _ rfl
  have m_p10 := xp.mark 10 _ rfl
  have m_p11 := xp.mark 11 _ rfl
  have l_p := xp.lt (Nat.succ_pos _)
  go_wp2_with fail
  clear c_p0 c_p1 c_p2 c_p3 c_p4 c_p5 c_p6 c_p7 c_p8 c_p9 c_p10 c_p11 m_p0 m_p1 m_p2 m_p3 m_p4 m_p5 m_p6 m_p7 m_p8 m_p9 m_p10 m_p11 l_p
  go_at_call 6
  refine (compare_any B A v HS.out _ (HT.out.later hgW)).mono ?_; rintro e w5 ⟨rfl, hb⟩
  replace xp := xp.later hb
  replace hgW := hgW.trans hb
  clear hb
  have c_p0 := xp.cell 0 _ rfl
  have c_p1 := xp.cell 1 _ rfl
  have c_p2 := xp.cell 2 _ rfl
  have c_p3 := xp.cell 3 _ rfl
  have c_p4 := xp.cell 4 _ rfl
  have c_p5 := xp.cell 5 _ rfl
  have c_p6 := xp.cell 6 _ rfl
  have c_p7 := xp.cell 7 _ rfl
  have c_p8 := xp.cell 8 _ rfl
  have c_p9 := xp.cell 9 _ rfl
  have c_p10 := xp.cell 10 _ rfl
  have c_p11 := xp.cell 11 _ rfl
  have m_p0 := xp.mark 0 _ rfl
  have m_p1 := xp.mark 1 _ rfl
  have m_p2 := xp.mark 2 _ rfl
  have m_p3 := xp.mark 3 _ rfl
  have m_p4 := xp.mark 4 _ rfl
  have m_p5 := xp.mark 5 _ rfl
  have m_p6 := xp.mark 6 _ rfl
  have m_p7 := xp.mark 7 _ rfl
  have m_p8 := xp.mark 8 _ rfl
  have m_p9 := xp.mark 9 _ rfl
  have m_p10 := xp.mark 10 _ rfl
  have m_p11 := xp.mark 11 _ rfl
  have l_p := xp.lt (Nat.succ_pos _)
  go_wp2_with fail
  have hcase : (¬ x ≤ 0) ∨ (x ≤ 0 ∧ ¬ y ≤ 0) ∨ (x ≤ 0 ∧ y ≤ 0 ∧ ¬ 0 < z ∧ (z == 0) = false) ∨ (x = 0 ∧ y = 0 ∧ z = 0) := by
    have := Ht.out
    have hz : (z == 0) = false ↔ z ≠ 0 := by simp
    rw [hz]
    omega
  clear eb ev x1 y1 z1
  rcases hcase with h1 | ⟨h1, h2⟩ | ⟨h1, h2, h3, h4⟩ | ⟨rfl, rfl, rfl⟩
  all_goals
    refine wp_region_G (.take 0 (.take 1 (.take 2 (.take 3 (.take 4 (.take 5 (.take 6 (.take 7 (.take 8 (.take 9 (.take 10 (.take 11 (.take 12 (.take 13 (.take 14 (.take 15 (.take 16 (.take 17 (.take 18 (.take 19 (.take 20 (.take 22 (.take 23 (.run 21 false (.run 24 false (.take 25 (.take 26 (.take 27 (.take 28 (.take 29 (.take 30 (.run 31 false (.take 32 (.take 33 .nil)))))))))))))))))))))))))))))))))) (by kernel_rfl) (by kernel_rfl) ?_
    simp only [pickOps, nthOp]
    intro wq hG
    repeat (first | (refine wpG_skip_take ?_ ?_; (focus rfl); try simp only [Act.put, List.setIfInBounds_toArray, List.set_cons_zero, List.set_cons_succ]) | (refine wpG_skip_run ?_ ?_; (focus rfl); try simp only [Act.put, List.setIfInBounds_toArray, List.set_cons_zero, List.set_cons_succ]) | (refine wpG_take ?_ ?_; (focus rfl); apply Exists.intro; refine ⟨fun w' hw' => ?_, ?_⟩; (focus (have hc := Gr.cells hw'; go_simp; (try rfl); done)); try simp only [Act.put, List.setIfInBounds_toArray, List.set_cons_zero, List.set_cons_succ]) | (refine wpG_run ?_ (fun K hK => ?_); (focus rfl); go_simp; (first | (go_at_call 7; (with_reducible refine (all_any _).mono ?_); rintro e w' ⟨rfl, hb⟩) | (go_at_call 6; (with_reducible refine (compare_any (~~~emptyS) A p HP.out _ (HT.out.later (hgW.trans hG))).mono ?_); rintro e w' ⟨rfl, hb⟩; have hp0 : ¬ 0 < p := (fun h => by have := HP0.out; omega)) | (go_at_call 6; (with_reducible refine (compare_empty A q HQ.out _ (HT.out.later (hgW.trans hG))).mono ?_); rintro e w' ⟨rfl, hb⟩; have hq0 : ¬ 0 < q := (fun h => by have := HQ0.out; omega))); (try dsimp only); replace hG := hG.trans hb; refine hK.out _ _ hG ?_; clear hK K hb; try simp only [Act.put, List.setIfInBounds_toArray, List.set_cons_zero, List.set_cons_succ]))
    refine wpG_done ?_
    have hc := hG.cells
    go_wp2_with fail
    go_at_call 8
    clear hc
    refine (union_any _ _ _).mono ?_; rintro e w6 ⟨rfl, hb⟩
    replace hG := hG.trans hb
    clear hb
    clear c_p0 c_p1 c_p2 c_p3 c_p4 c_p5 c_p6 c_p7 c_p8 c_p9 c_p10 c_p11 m_p0 m_p1 m_p2 m_p3 m_p4 m_p5 m_p6 m_p7 m_p8 m_p9 m_p10 m_p11 l_p
    go_wp2_with fail
    refine name_world (fun W5 hW => ?_)
    have hg5 := hG.trans (by rw [hW]; exact Gr.alloc _ _ : Gr w6 W5)
    have xu : boxAt W5 (w6.heap.size) [.int .u64 (wd (A ||| B) 0), .int .u64 (wd (A ||| B) 1), .int .u64 (wd (A ||| B) 2), .int .u64 (wd (A ||| B) 3)] := by
      subst hW; intro j u hj
      match j, hj with
      | 0, hj => simp at hj; subst hj; constructor <;> go_simp
      | 1, hj => simp at hj; subst hj; constructor <;> go_simp
      | 2, hj => simp at hj; subst hj; constructor <;> go_simp
      | 3, hj => simp at hj; subst hj; constructor <;> go_simp
    clear hW
    replace xp := xp.later hg5
    replace hgW := hgW.trans hg5
    clear hg5 hG
    have c_p0 := xp.cell 0 _ rfl
    have c_p1 := xp.cell 1 _ rfl
    have c_p2 := xp.cell 2 _ rfl
    have c_p3 := xp.cell 3 _ rfl
    have c_p4 := xp.cell 4 _ rfl
    have c_p5 := xp.cell 5 _ rfl
    have c_p6 := xp.cell 6 _ rfl
    have c_p7 := xp.cell 7 _ rfl
    have c_p8 := xp.cell 8 _ rfl
    have c_p9 := xp.cell 9 _ rfl
    have c_p10 := xp.cell 10 _ rfl
    have c_p11 := xp.cell 11 _ rfl
    have m_p0 := xp.mark 0 _ rfl
    have m_p1 := xp.mark 1 _ rfl
    have m_p2 := xp.mark 2 _ rfl
    have m_p3 := xp.mark 3 _ rfl
    have m_p4 := xp.mark 4 _ rfl
    have m_p5 := xp.mark 5 _ rfl
    have m_p6 := xp.mark 6 _ rfl
    have m_p7 := xp.mark 7 _ rfl
    have m_p8 := xp.mark 8 _ rfl
    have m_p9 := xp.mark 9 _ rfl
    have m_p10 := xp.mark 10 _ rfl
    have m_p11 := xp.mark 11 _ rfl
    have l_p := xp.lt (Nat.succ_pos _)
    have c_u0 := xu.cell 0 _ rfl
    have c_u1 := xu.cell 1 _ rfl
    have c_u2 := xu.cell 2 _ rfl
    have c_u3 := xu.cell 3 _ rfl
    have m_u0 := xu.mark 0 _ rfl
    have m_u1 := xu.mark 1 _ rfl
    have m_u2 := xu.mark 2 _ rfl
    have m_u3 := xu.mark 3 _ rfl
    have l_u := xu.lt (Nat.succ_pos _)
    have hru : (A ||| B == A) = true ∧ ¬ r < 0 ∨ (A ||| B == A) = false ∧ r < 0 := by
      have h := Hr.out
      by_cases he : A ||| B = A
      · exact .inl ⟨by simpa using he, fun h' => h.1 h' he⟩
      · exact .inr ⟨by simpa using he, h.2 he⟩
    rcases hru with ⟨k1, k2⟩ | ⟨k1, k2⟩
    all_goals
      refine wp_region_G (.take 0 (.take 1 (.take 2 (.take 5 (.take 6 (.take 7 (.take 8 (.run 3 false (.take 4 (.take 9 (.take 10 (.run 11 false (.take 12 (.run 13 true .nil)))))))))))))) (by kernel_rfl) (by kernel_rfl) ?_
      simp only [pickOps, nthOp]
      intro wq hG
      repeat (first | (refine wpG_skip_take ?_ ?_; (focus rfl); try simp only [Act.put, List.setIfInBounds_toArray, List.set_cons_zero, List.set_cons_succ]) | (refine wpG_skip_run ?_ ?_; (focus rfl); try simp only [Act.put, List.setIfInBounds_toArray, List.set_cons_zero, List.set_cons_succ]) | (refine wpG_take ?_ ?_; (focus rfl); apply Exists.intro; refine ⟨fun w' hw' => ?_, ?_⟩; (focus (have hc := Gr.cells hw'; go_simp; (try rfl); done)); try simp only [Act.put, List.setIfInBounds_toArray, List.set_cons_zero, List.set_cons_succ]) | (refine wpG_run ?_ (fun K hK => ?_); (focus rfl); go_simp; (first | (go_at_call 6; (with_reducible refine (compare_any (A ||| B) A r HR.out _ (HT.out.later (hgW.trans hG))).mono ?_); rintro e w' ⟨rfl, hb⟩) | (go_at_call 9; (with_reducible refine (wakes_any _).mono ?_); rintro e w' ⟨rfl, hb⟩)); (try dsimp only); replace hG := hG.trans hb; refine hK.out _ _ hG ?_; clear hK K hb; try simp only [Act.put, List.setIfInBounds_toArray, List.set_cons_zero, List.set_cons_succ]))
      refine wpG_last ?_ (fun K hK => ?_); (focus rfl)
      have hc := hG.cells
      have hm := hG.marks
      go_simp
      refine hK.out _ _ ?_
      try simp only [Act.put, List.setIfInBounds_toArray, List.set_cons_zero, List.set_cons_succ]
      clear hK K hc hm
      refine wpG_done ?_
      go_wp2
      go_ret
      exact ⟨rfl, hgW.trans hG⟩

end Go.Proofs.YtambkpgcccjhmaaDoor
