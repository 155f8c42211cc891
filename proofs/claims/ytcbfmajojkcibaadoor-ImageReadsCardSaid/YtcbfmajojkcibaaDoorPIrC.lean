/- bolterref17.mayRule. Printed by gen_irc.py. No condition but bounds of lengths. -/
import Derived.Test.YtcbfmajojkcibaaDoorPIrB
import Derived.Test.YtcbfmajojkcibaaDoorPImgE
namespace Go.Proofs.YtcbfmajojkcibaaDoor
open Go Go.RowKit

theorem cut_key (k n : Int) : (k = 0 ∧ n = 0 ∧ cutB (k, n) = true) ∨ (k = 1 ∧ 0 ≤ n ∧ n ≤ 65536 ∧ cutB (k, n) = true) ∨ (k = 2 ∧ 1 ≤ n ∧ n ≤ 65536 ∧ cutB (k, n) = true) ∨
    (cutB (k, n) = false ∧ ((k = 0 ∧ n ≠ 0) ∨ (k = 1 ∧ n < 0) ∨ (k = 1 ∧ 0 ≤ n ∧ 65536 < n) ∨ (k = 2 ∧ n < 1) ∨ (k = 2 ∧ 1 ≤ n ∧ 65536 < n) ∨ (k ≠ 0 ∧ k ≠ 1 ∧ k ≠ 2))) := by
  unfold cutB
  simp only [Bool.or_eq_true, decide_eq_true_eq, Bool.or_eq_false_iff, decide_eq_false_iff_not]
  omega

set_option maxRecDepth 100000 in
set_option maxHeartbeats 16000000 in
theorem mayRule_any (t : Tb) (v : TbV) (k : Nat) (x : List UInt8) (cu : Int × Int) (ac : List (Int × Int)) (w : World) (h : TbIn w t v) (hx : t.labels[k]? = some x) (hcu : t.cuts[k]? = some cu) (hac : t.acts[k]? = some ac) :
    Calls Tryd.prog 43 #[tbV t v, .int .i64 (k : Int)] w fun e w' => e = .returned (.bool (ruleB t.modes.length (x, (cu, ac)))) ∧ Gr w w' := by
  obtain ⟨R, hR⟩ : ∃ R, ruleB t.modes.length (x, (cu, ac)) = R := ⟨_, rfl⟩
  rw [hR]
  have HR := Lib.hid (show R = (nameB x && (cutB cu && actsB t.modes.length ac)) from hR.symm)
  clear hR
  have H := Lib.hid h
  obtain ⟨pm, cm, e0⟩ := h.modes.len
  obtain ⟨pl, cl, e1⟩ := h.labels.len
  obtain ⟨pc, cc, e2⟩ := h.cuts.len
  obtain ⟨pa, ca, e3⟩ := h.acts.len
  obtain ⟨pk, ck, e4⟩ := h.classes.len
  obtain ⟨ps, cs, e5⟩ := h.starts.len
  obtain ⟨pb, cb, e6⟩ := h.label.len
  obtain ⟨p1, c1, e7⟩ := h.base.len
  obtain ⟨p2, c2, e8⟩ := h.dflt.len
  obtain ⟨p3, c3, e9⟩ := h.next.len
  obtain ⟨p4, c4, e10⟩ := h.check.len
  have HL := Lib.hid (e1 ▸ h.labels)
  have HC := Lib.hid (e2 ▸ h.cuts)
  have HA := Lib.hid (e3 ▸ h.acts)
  obtain ⟨u, hu1, hu2⟩ := h.rows k ac hac
  have hm1 := h.labels.2.1
  unfold maxLen at hm1
  unfold tbV
  rw [e0, e1, e2, e3, e4, e5, e6, e7, e8, e9, e10]
  clear h e0 e1 e2 e3 e4 e5 e6 e7 e8 e9 e10
  have hl1 : k < t.labels.length := (List.getElem?_eq_some_iff.1 hx).1
  have hl2 : k < t.cuts.length := (List.getElem?_eq_some_iff.1 hcu).1
  have hl3 : k < t.acts.length := (List.getElem?_eq_some_iff.1 hac).1
  obtain ⟨b1, o1, rfl, hb1, a1⟩ := str_at HL.out hx
  obtain ⟨b2, o2, rfl, hb2, a2, a3⟩ := pr_at HC.out hcu
  obtain ⟨b3, o3, rfl, hb3, a4⟩ := row_at HA.out hu1
  obtain ⟨q, d, rfl⟩ := hu2.len
  have HU := Lib.hid hu2
  have hm2 := hu2.2.1
  unfold maxLen at hm2
  have HN := Lib.hid (fun w' => name4_any x w' (H.out.texts x (.inr (List.mem_of_getElem? hx))))
  obtain ⟨f1, hf1⟩ : ∃ f, nameB x = f := ⟨_, rfl⟩
  rw [hf1] at HN HR
  have A4 := Lib.hid a4
  obtain ⟨n, hn⟩ : ∃ n, ac.length = n := ⟨_, rfl⟩
  obtain ⟨m, hm⟩ : ∃ m, t.modes.length = m := ⟨_, rfl⟩
  obtain ⟨N1, hN1⟩ : ∃ m, t.labels.length = m := ⟨_, rfl⟩
  obtain ⟨N2, hN2⟩ : ∃ m, t.cuts.length = m := ⟨_, rfl⟩
  obtain ⟨N3, hN3⟩ : ∃ m, t.acts.length = m := ⟨_, rfl⟩
  have HNN := Lib.hid hn
  rw [hn] at a4 A4 hm2
  rw [hm] at HR ⊢
  rw [hN1] at hl1 hm1 ⊢
  rw [hN2] at hl2 ⊢
  rw [hN3] at hl3 ⊢
  have hk1 : (k : Int) < (N1 : Int) := by omega
  have hk2 : (k : Int) < (N2 : Int) := by omega
  have hk3 : (k : Int) < (N3 : Int) := by omega
  obtain ⟨ck0, cn⟩ := cu
  dsimp only at a2 a3
  clear hx hcu hac hu1 hu2 hl1 hl2 hl3 hn hm hN1 hN2 hN3 hf1 HL HC HA H
  have hz1 : b1 ≠ w.heap.size := by omega
  have hz2 : b2 ≠ w.heap.size := by omega
  have hz3 : b3 ≠ w.heap.size := by omega
  have hy1 : b1 ≠ w.heap.size + 1 := by omega
  have hy2 : b2 ≠ w.heap.size + 1 := by omega
  have hy3 : b3 ≠ w.heap.size + 1 := by omega
  rcases cut_key ck0 cn with hk | hk | hk | ⟨hk, hc⟩
  case inr.inr.inr =>
    have N := Lib.hid (show R = false by rw [HR.out, hk]; simp)
    clear hk
    rcases hc with ⟨rfl, hq⟩ | ⟨rfl, hq⟩ | ⟨rfl, hq, hq2⟩ | ⟨rfl, hq⟩ | ⟨rfl, hq, hq2⟩ | ⟨hq, hq2, hq3⟩
    all_goals
      go_enter Tryd.func43, Tryd.ntmps43
      go_wp2_with fail
      all_goals (go_ret; exact ⟨ret_bool N.out.symm, (Gr.alloc _ _).trans (Gr.alloc _ _)⟩)
  all_goals
    first
      | (obtain ⟨rfl, rfl, hc⟩ := hk)
      | (obtain ⟨rfl, hc1, hc2, hc⟩ := hk)
    rw [hc, Bool.true_and] at HR
    clear hc
    cases f1 with
    | false =>
      have N := Lib.hid (show R = false by rw [HR.out]; rfl)
      go_enter Tryd.func43, Tryd.ntmps43
      go_wp2_with fail
      go_at_call 42
      (with_reducible refine (HN.out _).mono ?_); rintro e w1 ⟨rfl, rfl⟩
      go_wp2_with fail
      go_ret
      exact ⟨ret_bool N.out.symm, (Gr.alloc _ _).trans (Gr.alloc _ _)⟩
    | true =>
      rw [Bool.true_and] at HR
      by_cases h8 : (8 : Int) < (n : Int)
      · have N := Lib.hid (show R = false by rw [HR.out]; unfold actsB; rw [decide_eq_false (by rw [HNN.out]; omega), Bool.and_false])
        go_enter Tryd.func43, Tryd.ntmps43
        go_wp2_with fail
        go_at_call 42
        (with_reducible refine (HN.out _).mono ?_); rintro e w1 ⟨rfl, rfl⟩
        go_wp2_with fail
        go_ret
        exact ⟨ret_bool N.out.symm, (Gr.alloc _ _).trans (Gr.alloc _ _)⟩
      · have HR2 := Lib.hid (show R = ac.all (actB m) by rw [HR.out]; unfold actsB; rw [decide_eq_true (by rw [HNN.out]; omega), Bool.and_true])
        go_enter Tryd.func43, Tryd.ntmps43
        go_wp2_with fail
        go_at_call 42
        refine name_calls (fun W1 hW => ?_)
        have hg : Gr w W1 := by rw [hW]; exact (Gr.alloc _ _).trans (Gr.alloc _ _)
        have xe : boxAt W1 w.heap.size [.slice pm m cm, .slice (some ⟨b1, o1, none⟩) N1 cl, .slice (some ⟨b2, o2, none⟩) N2 cc, .slice (some ⟨b3, o3, none⟩) N3 ca, .slice pk t.classes.length ck, .int .i64 t.count, .slice ps t.starts.length cs, .slice pb t.label.length cb, .slice p1 t.base.length c1, .slice p2 t.dflt.length c2, .slice p3 t.next.length c3, .slice p4 t.check.length c4] := by rw [hW]; exact (boxAt.new [.slice pm m cm, .slice (some ⟨b1, o1, none⟩) N1 cl, .slice (some ⟨b2, o2, none⟩) N2 cc, .slice (some ⟨b3, o3, none⟩) N3 ca, .slice pk t.classes.length ck, .int .i64 t.count, .slice ps t.starts.length cs, .slice pb t.label.length cb, .slice p1 t.base.length c1, .slice p2 t.dflt.length c2, .slice p3 t.next.length c3, .slice p4 t.check.length c4] _ rfl).later (Gr.alloc _ _)
        clear hW
        (with_reducible refine (HN.out _).mono ?_); rintro e w1 ⟨rfl, hww⟩
        subst hww
        obtain ⟨W2, hW2⟩ : ∃ W2, W2 = w1 := ⟨_, rfl⟩
        subst hW2
        have a4b := hg.cell A4.out
        have c_e0 := xe.cell 0 _ rfl
        have c_e1 := xe.cell 1 _ rfl
        have c_e2 := xe.cell 2 _ rfl
        have c_e3 := xe.cell 3 _ rfl
        have c_e4 := xe.cell 4 _ rfl
        have c_e5 := xe.cell 5 _ rfl
        have c_e6 := xe.cell 6 _ rfl
        have c_e7 := xe.cell 7 _ rfl
        have c_e8 := xe.cell 8 _ rfl
        have c_e9 := xe.cell 9 _ rfl
        have c_e10 := xe.cell 10 _ rfl
        have c_e11 := xe.cell 11 _ rfl
        have m_e0 := xe.mark 0 _ rfl
        have m_e1 := xe.mark 1 _ rfl
        have m_e2 := xe.mark 2 _ rfl
        have m_e3 := xe.mark 3 _ rfl
        have m_e4 := xe.mark 4 _ rfl
        have m_e5 := xe.mark 5 _ rfl
        have m_e6 := xe.mark 6 _ rfl
        have m_e7 := xe.mark 7 _ rfl
        have m_e8 := xe.mark 8 _ rfl
        have m_e9 := xe.mark 9 _ rfl
        have m_e10 := xe.mark 10 _ rfl
        have m_e11 := xe.mark 11 _ rfl
        have l_e := xe.lt (Nat.succ_pos _)
        go_wp2_with fail
        clear c_e0 c_e1 c_e2 c_e3 c_e4 c_e5 c_e6 c_e7 c_e8 c_e9 c_e10 c_e11 m_e0 m_e1 m_e2 m_e3 m_e4 m_e5 m_e6 m_e7 m_e8 m_e9 m_e10 m_e11 l_e
        clear a4b a1 a2 a3 a4 hz1 hz2 hz3 hy1 hy2 hy3
        go_loopw [7, 8] (fun i _ wr => ∃ j : Nat, j ≤ n ∧ i = .int .i64 (j : Int) ∧ Gr W2 wr ∧ Hid ((ac.take j).all (actB m) = true)) (fun i _ _ => n - (intOf i).toNat)
        case atStart => exact ⟨0, Nat.zero_le _, rfl, Gr.refl _, Lib.hid rfl⟩
        case round =>
          obtain ⟨j, hj, rfl, hgr, HAL⟩ := hrel
          have xr := xe.later hgr
          have HG1 := Lib.hid hgr
          replace hgr := hg.trans hgr
          have a4 := hgr.cell A4.out
          have hsz := hgr.size
          have hz3 : b3 ≠ wr.heap.size := by omega
          by_cases hjl : j < n
          · obtain ⟨y, hy⟩ : ∃ y, ac[j]? = some y := ⟨_, List.getElem?_eq_getElem (by rw [HNN.out]; exact hjl)⟩
            obtain ⟨b4, o4, rfl, hb4, c0, c1⟩ := pr_at (w := wr) (HU.out.later hgr) hy
            have YES := Lib.hid (fun (y1 : actB m y = true) => Lib.hid (show (ac.take (j + 1)).all (actB m) = true by rw [all_take _ _ _ _ hy, HAL.out, y1]; rfl))
            have NO := Lib.hid (fun (y1 : actB m y = false) => Lib.hid (show R = false by rw [HR2.out]; exact all_false hy y1))
            have hjI : (j : Int) < (n : Int) := by omega
            have HJL := Lib.hid hjl
            obtain ⟨dd, nn⟩ := y
            dsimp only at c0 c1
            clear hy hj hjl
            have hz4 : b4 ≠ wr.heap.size := by omega
            have c_e0 := xr.cell 0 _ rfl
            have c_e1 := xr.cell 1 _ rfl
            have c_e2 := xr.cell 2 _ rfl
            have c_e3 := xr.cell 3 _ rfl
            have c_e4 := xr.cell 4 _ rfl
            have c_e5 := xr.cell 5 _ rfl
            have c_e6 := xr.cell 6 _ rfl
            have c_e7 := xr.cell 7 _ rfl
            have c_e8 := xr.cell 8 _ rfl
            have c_e9 := xr.cell 9 _ rfl
            have c_e10 := xr.cell 10 _ rfl
            have c_e11 := xr.cell 11 _ rfl
            have m_e0 := xr.mark 0 _ rfl
            have m_e1 := xr.mark 1 _ rfl
            have m_e2 := xr.mark 2 _ rfl
            have m_e3 := xr.mark 3 _ rfl
            have m_e4 := xr.mark 4 _ rfl
            have m_e5 := xr.mark 5 _ rfl
            have m_e6 := xr.mark 6 _ rfl
            have m_e7 := xr.mark 7 _ rfl
            have m_e8 := xr.mark 8 _ rfl
            have m_e9 := xr.mark 9 _ rfl
            have m_e10 := xr.mark 10 _ rfl
            have m_e11 := xr.mark 11 _ rfl
            have l_e := xr.lt (Nat.succ_pos _)
            by_cases h1 : dd = 1 ∨ dd = 2
            · by_cases h2 : nn < 0
              · have N := NO.out (by unfold actB; rw [decide_eq_false (by omega), decide_eq_false (by omega)]; rfl)
                rcases h1 with rfl | rfl
                all_goals
                  go_wp2_with fail
                  go_ret
                  exact ⟨ret_bool N.out.symm, hgr.trans (Gr.alloc _ _)⟩
              · by_cases h3 : (m : Int) ≤ nn
                · have N := NO.out (by unfold actB; rw [decide_eq_false (by omega), decide_eq_false (by omega)]; rfl)
                  rcases h1 with rfl | rfl
                  all_goals
                    go_wp2_with fail
                    go_ret
                    exact ⟨ret_bool N.out.symm, hgr.trans (Gr.alloc _ _)⟩
                · have Y := YES.out (by unfold actB; rw [decide_eq_true (by omega)]; rfl)
                  rcases h1 with rfl | rfl
                  all_goals
                    go_wp2_with fail
                    go_roundw
                    case rel => exact ⟨j + 1, by have := HJL.out; omega, by go_num, HG1.out.trans (Gr.alloc _ _), Y⟩
                    case measure => have := HJL.out; simp [intOf]; omega
            · have h1a : ¬ dd = 1 := fun h => h1 (.inl h)
              have h1b : ¬ dd = 2 := fun h => h1 (.inr h)
              clear h1
              by_cases h4 : dd = 3
              · by_cases h5 : nn = 0
                · have Y := YES.out (by unfold actB; rw [decide_eq_true (by omega : dd = 3 ∧ nn = 0), Bool.or_true])
                  subst h4 h5
                  clear h1a h1b
                  go_wp2_with fail
                  go_roundw
                  case rel => exact ⟨j + 1, by have := HJL.out; omega, by go_num, HG1.out.trans (Gr.alloc _ _), Y⟩
                  case measure => have := HJL.out; simp [intOf]; omega
                · have N := NO.out (by unfold actB; rw [decide_eq_false (by omega), decide_eq_false (by omega)]; rfl)
                  subst h4
                  clear h1a h1b
                  go_wp2_with fail
                  go_ret
                  exact ⟨ret_bool N.out.symm, hgr.trans (Gr.alloc _ _)⟩
              · have N := NO.out (by unfold actB; rw [decide_eq_false (by omega), decide_eq_false (by omega)]; rfl)
                go_wp2_with fail
                go_ret
                exact ⟨ret_bool N.out.symm, hgr.trans (Gr.alloc _ _)⟩
          · have hjI : ¬ (j : Int) < (n : Int) := by omega
            have HY := Lib.hid (show R = true by rw [HR2.out, ← HAL.out, List.take_of_length_le (by rw [HNN.out]; omega)])
            clear hj hjl
            have c_e0 := xr.cell 0 _ rfl
            have c_e1 := xr.cell 1 _ rfl
            have c_e2 := xr.cell 2 _ rfl
            have c_e3 := xr.cell 3 _ rfl
            have c_e4 := xr.cell 4 _ rfl
            have c_e5 := xr.cell 5 _ rfl
            have c_e6 := xr.cell 6 _ rfl
            have c_e7 := xr.cell 7 _ rfl
            have c_e8 := xr.cell 8 _ rfl
            have c_e9 := xr.cell 9 _ rfl
            have c_e10 := xr.cell 10 _ rfl
            have c_e11 := xr.cell 11 _ rfl
            have m_e0 := xr.mark 0 _ rfl
            have m_e1 := xr.mark 1 _ rfl
            have m_e2 := xr.mark 2 _ rfl
            have m_e3 := xr.mark 3 _ rfl
            have m_e4 := xr.mark 4 _ rfl
            have m_e5 := xr.mark 5 _ rfl
            have m_e6 := xr.mark 6 _ rfl
            have m_e7 := xr.mark 7 _ rfl
            have m_e8 := xr.mark 8 _ rfl
            have m_e9 := xr.mark 9 _ rfl
            have m_e10 := xr.mark 10 _ rfl
            have m_e11 := xr.mark 11 _ rfl
            have l_e := xr.lt (Nat.succ_pos _)
            go_wp2_with fail
            go_ret
            exact ⟨ret_bool HY.out.symm, hgr⟩

end Go.Proofs.YtcbfmajojkcibaaDoor
