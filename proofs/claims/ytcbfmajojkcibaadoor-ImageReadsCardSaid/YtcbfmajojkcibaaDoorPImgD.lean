/- comb.Check. No condition. -/
import Derived.Test.YtcbfmajojkcibaaDoorPImgC
namespace Go.Proofs.YtcbfmajojkcibaaDoor
open Go Go.RowKit

theorem slotB_f2 {n slots : Nat} {K : Int} {base : List Int} {i : Nat} {x y : Int} (h : ¬ (x = -1 → y = -1 ∧ i + 1 ≠ slots)) : slotB n slots K base i (x, y) = false := by
  unfold slotB; rw [show decide ((x, y).1 = -1 → (x, y).2 = -1 ∧ i + 1 ≠ slots) = false from decide_eq_false h]; simp
theorem slotB_f3 {n slots : Nat} {K : Int} {base : List Int} {i : Nat} {x y z : Int} (hz : base.getD x.toNat 0 = z) (h0 : 0 ≤ x) (h : ¬ (z ≤ i ∧ (i : Int) < z + K)) : slotB n slots K base i (x, y) = false := by
  unfold slotB
  rw [show decide (0 ≤ (x, y).1 → base.getD (x, y).1.toNat 0 ≤ i ∧ (i : Int) < base.getD (x, y).1.toNat 0 + K) = false from decide_eq_false (fun hh => h (by have := hh h0; dsimp only at this; rw [hz] at this; exact this))]
  simp
set_option maxRecDepth 100000 in
set_option maxHeartbeats 16000000 in
theorem combI_any (t : Tb) (v : TbV) (w : World) (h : TbIn w t v) (hfit : ∀ s, s ∈ t.base → -9223372036854775808 ≤ s ∧ s ≤ 9223372036854775807) : Calls Tryd.prog 37 #[.agg #[v.base, v.dflt, v.next, v.check], .int .i64 t.count] w fun e w' => e = .returned (.bool (combB t)) ∧ Gr w w' := by
  obtain ⟨R, hR⟩ : ∃ R, combB t = R := ⟨_, rfl⟩
  rw [hR]
  have HR := Lib.hid hR
  clear hR
  have H := Lib.hid h
  obtain ⟨p1, c1, e1⟩ := h.base.len
  obtain ⟨p2, c2, e2⟩ := h.dflt.len
  obtain ⟨p3, c3, e3⟩ := h.next.len
  obtain ⟨p4, c4, e4⟩ := h.check.len
  have HB := Lib.hid (e1 ▸ h.base)
  have HD := Lib.hid (e2 ▸ h.dflt)
  have HN := Lib.hid (e3 ▸ h.next)
  have HC := Lib.hid (e4 ▸ h.check)
  have hm1 := h.base.2.1
  have hm3 := h.next.2.1
  unfold maxLen at hm1 hm3
  rw [e1, e2, e3, e4]
  clear h e1 e2 e3 e4
  have HFIT := Lib.hid hfit
  clear hfit
  obtain ⟨K, hK0⟩ : ∃ K, t.count = K := ⟨_, rfl⟩
  have HKK := Lib.hid hK0
  rw [hK0]
  obtain ⟨nb, hnb⟩ : ∃ n, t.base.length = n := ⟨_, rfl⟩
  obtain ⟨nd, hnd⟩ : ∃ n, t.dflt.length = n := ⟨_, rfl⟩
  obtain ⟨nn, hnn⟩ : ∃ n, t.next.length = n := ⟨_, rfl⟩
  obtain ⟨nc, hnc⟩ : ∃ n, t.check.length = n := ⟨_, rfl⟩
  have HLB := Lib.hid hnb
  have HLD := Lib.hid hnd
  have HLN := Lib.hid hnn
  have HLC := Lib.hid hnc
  rw [hnb] at HB hm1 ⊢
  rw [hnd] at HD ⊢
  rw [hnn] at HN hm3 ⊢
  rw [hnc] at HC ⊢
  have HR1 := Lib.hid (show R = (decide (1 ≤ K ∧ K ≤ 256 ∧ 1 ≤ nb ∧ nb ≤ 600 ∧ nn ≤ 262144 ∧ nd = nb ∧ nc = nn) && (allI rowB 0 (t.base.zip t.dflt) && allI (slotB nb nn K t.base) 0 (t.check.zip t.next))) by
    rw [← HR.out]; unfold combB; rw [hnb, hnd, hnn, hnc, hK0])
  clear hnb hnd hnn hnc hK0
  go_enter Tryd.func37, Tryd.ntmps37
  go_wp2_with fail
  refine name_world (fun W0 hW => ?_)
  have xe : boxAt W0 w.heap.size [.slice p1 nb c1, .slice p2 nd c2, .slice p3 nn c3, .slice p4 nc c4] := boxAt.new _ _ hW
  have hg : Gr w W0 := by rw [hW]; exact Gr.alloc _ _
  clear hW
  have c_e0 := xe.cell 0 _ rfl
  have c_e1 := xe.cell 1 _ rfl
  have c_e2 := xe.cell 2 _ rfl
  have c_e3 := xe.cell 3 _ rfl
  have m_e0 := xe.mark 0 _ rfl
  have m_e1 := xe.mark 1 _ rfl
  have m_e2 := xe.mark 2 _ rfl
  have m_e3 := xe.mark 3 _ rfl
  have l_e := xe.lt (Nat.succ_pos _)
  refine wp_region_G (.take 0 (.take 1 (.take 2 (.take 3 (.take 4 (.take 5 (.run 6 false (.run 7 true .nil)))))))) (by kernel_rfl) (by kernel_rfl) ?_
  simp only [pickOps, nthOp]
  intro wq hG
  repeat (first | (refine wpG_skip_take ?_ ?_; (focus rfl); try simp only [Act.put, List.setIfInBounds_toArray, List.set_cons_zero, List.set_cons_succ]) | (refine wpG_skip_run ?_ ?_; (focus rfl); try simp only [Act.put, List.setIfInBounds_toArray, List.set_cons_zero, List.set_cons_succ]) | (refine wpG_take ?_ ?_; (focus rfl); apply Exists.intro; refine ⟨fun w' hw' => ?_, ?_⟩; (focus (have hc := Gr.cells hw'; go_simp; (try rfl); done)); try simp only [Act.put, List.setIfInBounds_toArray, List.set_cons_zero, List.set_cons_succ]) | (refine wpG_run ?_ (fun K hK => ?_); (focus rfl); go_simp; (first | (have hb := Gr.refl wq)); (try dsimp only); replace hG := hG.trans hb; refine hK.out _ _ hG ?_; clear hK K hb; try simp only [Act.put, List.setIfInBounds_toArray, List.set_cons_zero, List.set_cons_succ]))
  refine wpG_last ?_ (fun K hK => ?_); (focus rfl)
  have hc := hG.cells
  have hm := hG.marks
  go_simp
  refine hK.out _ _ ?_
  try simp only [Act.put, List.setIfInBounds_toArray, List.set_cons_zero, List.set_cons_succ]
  clear hK K hc hm
  refine wpG_done ?_
  clear c_e0 c_e1 c_e2 c_e3 m_e0 m_e1 m_e2 m_e3 l_e
  replace xe := xe.later hG
  replace hg := hg.trans hG
  clear hG
  obtain ⟨W1, hW1⟩ : ∃ W1, W1 = wq := ⟨_, rfl⟩
  subst hW1
  have c_e0 := xe.cell 0 _ rfl
  have c_e1 := xe.cell 1 _ rfl
  have c_e2 := xe.cell 2 _ rfl
  have c_e3 := xe.cell 3 _ rfl
  have m_e0 := xe.mark 0 _ rfl
  have m_e1 := xe.mark 1 _ rfl
  have m_e2 := xe.mark 2 _ rfl
  have m_e3 := xe.mark 3 _ rfl
  have l_e := xe.lt (Nat.succ_pos _)
  by_cases g : 1 ≤ K ∧ K ≤ 256 ∧ 1 ≤ nb ∧ nb ≤ 600 ∧ nn ≤ 262144 ∧ nd = nb ∧ nc = nn
  · obtain ⟨g1, g2, g3, g4, g5, g6, g7⟩ := g
    have HZ := Lib.hid (show R = (allI rowB 0 (t.base.zip t.dflt) && allI (slotB nb nn K t.base) 0 (t.check.zip t.next)) by
      rw [HR1.out, decide_eq_true ⟨g1, g2, g3, g4, g5, g6, g7⟩, Bool.true_and])
    subst g6 g7
    clear hm1 hm3
    go_wp2_with fail
    clear c_e0 c_e1 c_e2 c_e3 m_e0 m_e1 m_e2 m_e3 l_e
    go_loopw [49] (fun i wr => ∃ k : Nat, k ≤ nd ∧ i = .int .i64 (k : Int) ∧ W1 = wr ∧ Hid (allI rowB 0 ((t.base.zip t.dflt).take k) = true)) (fun i _ => nd - (intOf i).toNat)
    case atStart => exact ⟨0, Nat.zero_le _, rfl, rfl, Lib.hid rfl⟩
    case round =>
      obtain ⟨k, hk, rfl, rfl, HA⟩ := hrel
      rcases Nat.lt_or_ge k nd with hkl | hkl
      · obtain ⟨x, hx⟩ : ∃ x, t.base[k]? = some x := ⟨_, List.getElem?_eq_getElem (by rw [HLB.out]; exact hkl)⟩
        obtain ⟨y, hy⟩ : ∃ x, t.dflt[k]? = some x := ⟨_, List.getElem?_eq_getElem (by rw [HLD.out]; exact hkl)⟩
        have hz : (t.base.zip t.dflt)[k]? = some (x, y) := by rw [List.getElem?_zip_eq_some]; exact ⟨hx, hy⟩
        obtain ⟨b1, o1, rfl, hb1, a1⟩ := int_at (w := W1) (HLB.out ▸ HB.out.later hg : Sl W1 (.slice p1 t.base.length c1) 1 t.base.length (t.base.map vI)) hx
        obtain ⟨b2, o2, rfl, hb2, a2⟩ := int_at (w := W1) (HLD.out ▸ HD.out.later hg : Sl W1 (.slice p2 t.dflt.length c2) 1 t.dflt.length (t.dflt.map vI)) hy
        have YES := Lib.hid (fun y1 : rowB k (x, y) = true => Lib.hid (show allI rowB 0 ((t.base.zip t.dflt).take (k + 1)) = true by rw [allI_take _ _ _ _ hz, HA.out, y1]; rfl))
        have NO := Lib.hid (fun y1 : rowB k (x, y) = false => Lib.hid (show R = false by rw [HZ.out, allI_false hz y1, Bool.false_and]))
        have hkI : (k : Int) < (nd : Int) := by omega
        have HKL := Lib.hid hkl
        clear hx hy hz hk hkl
        have c_e0 := xe.cell 0 _ rfl
        have c_e1 := xe.cell 1 _ rfl
        have c_e2 := xe.cell 2 _ rfl
        have c_e3 := xe.cell 3 _ rfl
        have m_e0 := xe.mark 0 _ rfl
        have m_e1 := xe.mark 1 _ rfl
        have m_e2 := xe.mark 2 _ rfl
        have m_e3 := xe.mark 3 _ rfl
        have l_e := xe.lt (Nat.succ_pos _)
        by_cases q1 : x < 0
        · have Z := NO.out (by unfold rowB; exact decide_eq_false (by omega))
          go_wp2_with fail
          go_ret
          exact ⟨ret_bool Z.out.symm, hg⟩
        by_cases q2 : 262144 < x
        · have Z := NO.out (by unfold rowB; exact decide_eq_false (by omega))
          go_wp2_with fail
          go_ret
          exact ⟨ret_bool Z.out.symm, hg⟩
        by_cases q3 : y < -1
        · have Z := NO.out (by unfold rowB; exact decide_eq_false (by omega))
          go_wp2_with fail
          go_ret
          exact ⟨ret_bool Z.out.symm, hg⟩
        by_cases q4 : (k : Int) ≤ y
        · have Z := NO.out (by unfold rowB; exact decide_eq_false (by omega))
          go_wp2_with fail
          go_ret
          exact ⟨ret_bool Z.out.symm, hg⟩
        · have Y := YES.out (by unfold rowB; exact decide_eq_true (by omega))
          go_wp2_with fail
          go_roundw
          case rel => exact ⟨k + 1, by have := HKL.out; omega, by go_num, trivial, Y⟩
          case measure => have := HKL.out; simp [intOf]; omega
      · have hkn : k = nd := by omega
        subst hkn
        have HROW := Lib.hid (show allI rowB 0 (t.base.zip t.dflt) = true by
          have := HA.out
          rw [List.take_of_length_le (by rw [List.length_zip]; have := HLB.out; have := HLD.out; omega)] at this
          exact this)
        have HZ2 := Lib.hid (show R = allI (slotB k nc K t.base) 0 (t.check.zip t.next) by
          rw [HZ.out]
          have := HA.out
          rw [List.take_of_length_le (by rw [List.length_zip]; have := HLB.out; have := HLD.out; omega)] at this
          rw [this, Bool.true_and])
        clear hk hkl HA
        have c_e0 := xe.cell 0 _ rfl
        have c_e1 := xe.cell 1 _ rfl
        have c_e2 := xe.cell 2 _ rfl
        have c_e3 := xe.cell 3 _ rfl
        have m_e0 := xe.mark 0 _ rfl
        have m_e1 := xe.mark 1 _ rfl
        have m_e2 := xe.mark 2 _ rfl
        have m_e3 := xe.mark 3 _ rfl
        have l_e := xe.lt (Nat.succ_pos _)
        go_wp2_with fail
        clear c_e0 c_e1 c_e2 c_e3 m_e0 m_e1 m_e2 m_e3 l_e
        go_loopw [87] (fun i wr => ∃ j : Nat, j ≤ nc ∧ i = .int .i64 (j : Int) ∧ W1 = wr ∧ Hid (allI (slotB k nc K t.base) 0 ((t.check.zip t.next).take j) = true)) (fun i _ => nc - (intOf i).toNat)
        case atStart => exact ⟨0, Nat.zero_le _, rfl, rfl, Lib.hid rfl⟩
        case round =>
          obtain ⟨j, hj, rfl, rfl, HA⟩ := hrel
          rcases Nat.lt_or_ge j nc with hjl | hjl
          · obtain ⟨x, hx⟩ : ∃ x, t.check[j]? = some x := ⟨_, List.getElem?_eq_getElem (by rw [HLC.out]; exact hjl)⟩
            obtain ⟨y, hy⟩ : ∃ x, t.next[j]? = some x := ⟨_, List.getElem?_eq_getElem (by rw [HLN.out]; exact hjl)⟩
            have hz : (t.check.zip t.next)[j]? = some (x, y) := by rw [List.getElem?_zip_eq_some]; exact ⟨hx, hy⟩
            obtain ⟨b4, o4, rfl, hb4, a4⟩ := int_at (w := W1) (HLC.out ▸ HC.out.later hg : Sl W1 (.slice p4 t.check.length c4) 1 t.check.length (t.check.map vI)) hx
            obtain ⟨b3, o3, rfl, hb3, a3⟩ := int_at (w := W1) (HLN.out ▸ HN.out.later hg : Sl W1 (.slice p3 t.next.length c3) 1 t.next.length (t.next.map vI)) hy
            have YES := Lib.hid (fun y1 : slotB k nc K t.base j (x, y) = true => Lib.hid (show allI (slotB k nc K t.base) 0 ((t.check.zip t.next).take (j + 1)) = true by rw [allI_take _ _ _ _ hz, HA.out, y1]; rfl))
            have NO := Lib.hid (fun y1 : slotB k nc K t.base j (x, y) = false => Lib.hid (show R = false by rw [HZ2.out, allI_false hz y1]))
            have hjI : (j : Int) < (nc : Int) := by omega
            have HJL := Lib.hid hjl
            clear hx hy hz hj hjl
            have c_e0 := xe.cell 0 _ rfl
            have c_e1 := xe.cell 1 _ rfl
            have c_e2 := xe.cell 2 _ rfl
            have c_e3 := xe.cell 3 _ rfl
            have m_e0 := xe.mark 0 _ rfl
            have m_e1 := xe.mark 1 _ rfl
            have m_e2 := xe.mark 2 _ rfl
            have m_e3 := xe.mark 3 _ rfl
            have l_e := xe.lt (Nat.succ_pos _)
            by_cases q1 : x < -1
            · have Z := NO.out (by unfold slotB; rw [decide_eq_false (by omega), Bool.false_and])
              go_wp2_with fail
              go_ret
              exact ⟨ret_bool Z.out.symm, hg⟩
            by_cases q2 : (k : Int) ≤ x
            · have Z := NO.out (by unfold slotB; rw [decide_eq_false (by omega), Bool.false_and])
              go_wp2_with fail
              go_ret
              exact ⟨ret_bool Z.out.symm, hg⟩
            by_cases q3 : y < -1
            · have Z := NO.out (by unfold slotB; rw [decide_eq_false (by omega), Bool.false_and])
              go_wp2_with fail
              go_ret
              exact ⟨ret_bool Z.out.symm, hg⟩
            by_cases q4 : (k : Int) ≤ y
            · have Z := NO.out (by unfold slotB; rw [decide_eq_false (by omega), Bool.false_and])
              go_wp2_with fail
              go_ret
              exact ⟨ret_bool Z.out.symm, hg⟩
            by_cases q5 : x = -1
            · subst q5
              have q5a : ((-1 : Int) == -1) = true := rfl
              by_cases q6 : y = -1
              · by_cases q7 : (j : Int) = (nc : Int) - 1
                · have Z := NO.out (slotB_f2 (fun h => (h rfl).2 (by omega)))
                  have q7b : (((j : Int) == (nc : Int) - 1)) = true := by rw [beq_iff_eq]; exact q7
                  have hw : IntKind.i64.wrap ((nc : Int) - 1) = (nc : Int) - 1 := by rw [IntWalk.i64_in _ (by omega)]
                  subst q6
                  clear q7
                  go_wp2_with fail
                  go_ret
                  exact ⟨ret_bool Z.out.symm, hg⟩
                · have Y := YES.out (by unfold slotB; rw [decide_eq_true (by omega), decide_eq_true (by intro _; exact ⟨q6, by omega⟩), decide_eq_true (by intro h; omega)]; rfl)
                  have q7b : (((j : Int) == (nc : Int) - 1)) = false := by rw [beq_eq_false_iff_ne]; exact q7
                  have hw : IntKind.i64.wrap ((nc : Int) - 1) = (nc : Int) - 1 := by rw [IntWalk.i64_in _ (by omega)]
                  subst q6
                  clear q7
                  go_wp2_with fail
                  go_roundw
                  case rel => exact ⟨j + 1, by have := HJL.out; omega, by go_num, trivial, Y⟩
                  case measure => have := HJL.out; simp [intOf]; omega
              · have Z := NO.out (slotB_f2 (fun h => q6 (h rfl).1))
                have q6b : (y != -1) = true := by rw [bne_iff_ne]; exact q6
                go_wp2_with fail
                go_ret
                exact ⟨ret_bool Z.out.symm, hg⟩
            · have hx0 : 0 ≤ x := by omega
              have q5b : (x == -1) = false := by rw [beq_eq_false_iff_ne]; exact q5
              obtain ⟨X, rfl⟩ : ∃ X : Nat, x = (X : Int) := ⟨x.toNat, by omega⟩
              obtain ⟨z, hz⟩ : ∃ z, t.base[X]? = some z := ⟨_, List.getElem?_eq_getElem (by rw [HLB.out]; omega)⟩
              have HFZ := HFIT.out z (List.mem_of_getElem? hz)
              obtain ⟨b1, o1, rfl, hb1, a1⟩ := int_at (w := W1) (HLB.out ▸ HB.out.later hg : Sl W1 (.slice p1 t.base.length c1) 1 t.base.length (t.base.map vI)) hz
              have hgd : t.base.getD ((X : Int)).toNat 0 = z := by rw [Int.toNat_natCast, List.getD_eq_getElem?_getD, hz]; rfl
              have HGD := Lib.hid hgd
              have HROWX := Lib.hid (show z ≤ 262144 by
                have h1 := HROW.out
                obtain ⟨y', hy'⟩ : ∃ x, t.dflt[X]? = some x := ⟨_, List.getElem?_eq_getElem (by rw [HLD.out]; omega)⟩
                have h2 := allI_iff.1 h1 X (z, y') (by rw [List.getElem?_zip_eq_some]; exact ⟨hz, hy'⟩)
                unfold rowB at h2
                simp only [decide_eq_true_eq] at h2
                omega)
              have hzw : z ≤ 262144 := HROWX.out
              have hw : IntKind.i64.wrap (z + K) = z + K := by rw [IntWalk.i64_in _ (by omega)]
              have hXI : (X : Int) < (k : Int) := by omega
              clear hz hgd
              by_cases q6 : (j : Int) < z
              · have Z := NO.out (slotB_f3 HGD.out hx0 (by omega))
                go_wp2_with fail
                go_ret
                exact ⟨ret_bool Z.out.symm, hg⟩
              by_cases q7 : z + K ≤ (j : Int)
              · have Z := NO.out (slotB_f3 HGD.out hx0 (by omega))
                go_wp2_with fail
                go_ret
                exact ⟨ret_bool Z.out.symm, hg⟩
              · have Y := YES.out (by unfold slotB; rw [decide_eq_true (by omega), decide_eq_true (fun h => by omega), decide_eq_true (fun h => by rw [HGD.out]; omega)]; rfl)
                go_wp2_with fail
                go_roundw
                case rel => exact ⟨j + 1, by have := HJL.out; omega, by go_num, trivial, Y⟩
                case measure => have := HJL.out; simp [intOf]; omega
          · have hjn : j = nc := by omega
            subst hjn
            have HY := Lib.hid (show R = true by
              rw [HZ2.out]
              have := HA.out
              rw [List.take_of_length_le (by rw [List.length_zip]; have := HLC.out; have := HLN.out; omega)] at this
              exact this)
            clear hj hjl
            go_wp2_with fail
            go_ret
            exact ⟨ret_bool HY.out.symm, hg⟩
  · have N := Lib.hid (show R = false by rw [HR1.out, decide_eq_false g, Bool.false_and])
    have HG := Lib.hid g
    clear g
    by_cases g1 : 1 ≤ K
    · by_cases g2 : K ≤ 256
      · by_cases g3 : (nb : Int) < 1
        · go_wp2_with fail
          go_ret
          exact ⟨ret_bool N.out.symm, hg⟩
        · by_cases g4 : 600 < (nb : Int)
          · go_wp2_with fail
            go_ret
            exact ⟨ret_bool N.out.symm, hg⟩
          · by_cases g5 : 262144 < (nn : Int)
            · go_wp2_with fail
              go_ret
              exact ⟨ret_bool N.out.symm, hg⟩
            · by_cases g6 : (nd : Int) = nb
              · have g7a : ¬ (nc : Int) = (nn : Int) := by have := HG.out; omega
                have g7 : ((nc : Int) == (nn : Int)) = false := by rw [beq_eq_false_iff_ne]; exact g7a
                have g6b : nd = nb := by omega
                subst g6b
                clear g6
                have g7m : ((nc : Int) != (nn : Int)) = true := by rw [bne_iff_ne]; exact g7a
                go_wp2_with fail
                go_ret
                exact ⟨ret_bool N.out.symm, hg⟩
              · have g6b : ((nd : Int) == (nb : Int)) = false := by rw [beq_eq_false_iff_ne]; exact g6
                go_wp2_with fail
                go_ret
                exact ⟨ret_bool N.out.symm, hg⟩
      · go_wp2_with fail
        go_ret
        exact ⟨ret_bool N.out.symm, hg⟩
    · go_wp2_with fail
      go_ret
      exact ⟨ret_bool N.out.symm, hg⟩

end Go.Proofs.YtcbfmajojkcibaaDoor
