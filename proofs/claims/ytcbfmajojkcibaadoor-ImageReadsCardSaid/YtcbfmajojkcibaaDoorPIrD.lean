/- bolterref17.May. Printed by gen_ird.py. No condition but bounds of lengths. -/
import Derived.Test.YtcbfmajojkcibaaDoorPIrC
namespace Go.Proofs.YtcbfmajojkcibaaDoor
open Go Go.RowKit

theorem mayB_ref (t : Tb) : mayB t = (decide (1 ≤ t.modes.length ∧ t.modes.length ≤ 16 ∧ t.starts.length = t.modes.length ∧ t.labels.length ≤ 200 ∧ t.cuts.length = t.labels.length ∧ t.acts.length = t.labels.length) &&
    (allI (modeB t.modes t.label.length) 0 (t.modes.zip t.starts) && ((t.labels.zip (t.cuts.zip t.acts)).all (ruleB t.modes.length) && (t.label.all (labB t.labels.length) && (classesB t.classes t.count && (combB t && decide (t.base.length = t.label.length))))))) := by
  unfold mayB ruledB
  rw [Bool.eq_iff_iff]
  simp only [Bool.and_eq_true, decide_eq_true_eq]
  constructor
  · rintro ⟨⟨h1, h2, h3⟩, ⟨⟨h4, h5, h6⟩, h7⟩, h8, h9, h10, h11, h12⟩
    exact ⟨⟨h1, h2, h3, h4, h5, h6⟩, h11, h7, h12, h8, h9, h10.symm⟩
  · rintro ⟨⟨h1, h2, h3, h4, h5, h6⟩, h11, h7, h12, h8, h9, h10⟩
    exact ⟨⟨h1, h2, h3⟩, ⟨⟨h4, h5, h6⟩, h7⟩, h8, h9, h10.symm, h11, h12⟩
theorem contains_take {l : List (List UInt8)} {j : Nat} {z x : List UInt8} (hz : l[j]? = some z) : (l.take (j + 1)).contains x = ((l.take j).contains x || x == z) := by
  rw [List.take_add_one, hz]
  simp [List.contains_eq_mem]
  by_cases h : x = z <;> simp [h]
theorem contains_sub {l : List (List UInt8)} {j k : Nat} {x : List UInt8} (hz : l[j]? = some x) (h : j < k) : (l.take k).contains x = true := by
  rw [List.contains_iff_mem]
  exact List.mem_of_getElem? (show (l.take k)[j]? = some x by rw [List.getElem?_take_of_lt h]; exact hz)

set_option maxRecDepth 100000 in
set_option maxHeartbeats 16000000 in
theorem may17_any (t : Tb) (v : TbV) (w : World) (h : TbIn w t v) (hfit : ∀ s, s ∈ t.base → -9223372036854775808 ≤ s ∧ s ≤ 9223372036854775807) : Calls Tryd.prog 12 #[tbV t v] w fun e w' => e = .returned (.bool (mayB t)) ∧ Gr w w' := by
  obtain ⟨R, hR⟩ : ∃ R, mayB t = R := ⟨_, rfl⟩
  rw [hR]
  have hHR : R = _ := hR.symm.trans (mayB_ref t)
  clear hR
  have H := Lib.hid h
  have hMR := fun (k : Nat) (x : List UInt8) (cu : Int × Int) (ac : List (Int × Int)) (hx : t.labels[k]? = some x) (hcu : t.cuts[k]? = some cu) (hac : t.acts[k]? = some ac) (w' : World) (hh : Gr w w') => mayRule_any t v k x cu ac w' (h.later hh) hx hcu hac
  have hCL := fun (w' : World) (hh : Gr w w') => mayClasses_any t.classes v.classes t.count w' (h.classes.later hh)
  have hCO := fun (w' : World) (hh : Gr w w') => may16_any t v w' (h.later hh) hfit
  unfold tbV at hMR
  obtain ⟨pm, cm, e0⟩ := h.modes.len
  obtain ⟨pl, cl, e1⟩ := h.labels.len
  obtain ⟨pc, cc, e2⟩ := h.cuts.len
  obtain ⟨pa, ca, e3⟩ := h.acts.len
  obtain ⟨pk, ck, e4⟩ := h.classes.len
  obtain ⟨ps, cs, e5⟩ := h.starts.len
  obtain ⟨pb, cb, e6⟩ := h.label.len
  obtain ⟨p1, c1, e7⟩ := h.base.len
  obtain ⟨p2, c2, e8⟩ := h.dflt.len
  obtain ⟨p3, c3, e9⟩ := h.next.len
  obtain ⟨p4, c4, e10⟩ := h.check.len
  have HM := Lib.hid (e0 ▸ h.modes)
  have HS := Lib.hid (e5 ▸ h.starts)
  have HB := Lib.hid (e6 ▸ h.label)
  have hm1 := h.modes.2.1
  have hm2 := h.labels.2.1
  have hm3 := h.label.2.1
  unfold maxLen at hm1 hm2 hm3
  unfold tbV
  rw [e0, e1, e2, e3, e4, e5, e6, e7, e8, e9, e10] at hMR ⊢
  rw [e4] at hCL
  rw [e7, e8, e9, e10] at hCO
  clear h e0 e1 e2 e3 e4 e5 e6 e7 e8 e9 e10
  obtain ⟨K, hK⟩ : ∃ n, t.count = n := ⟨_, rfl⟩
  obtain ⟨m, hm⟩ : ∃ n, t.modes.length = n := ⟨_, rfl⟩
  obtain ⟨r, hr⟩ : ∃ n, t.labels.length = n := ⟨_, rfl⟩
  obtain ⟨n, hn⟩ : ∃ n, t.label.length = n := ⟨_, rfl⟩
  obtain ⟨nk, hnk⟩ : ∃ n, t.classes.length = n := ⟨_, rfl⟩
  obtain ⟨nb, hnb⟩ : ∃ n, t.base.length = n := ⟨_, rfl⟩
  obtain ⟨nd, hnd⟩ : ∃ n, t.dflt.length = n := ⟨_, rfl⟩
  obtain ⟨nn, hnn⟩ : ∃ n, t.next.length = n := ⟨_, rfl⟩
  obtain ⟨nc, hnc⟩ : ∃ n, t.check.length = n := ⟨_, rfl⟩
  obtain ⟨s2, hs2⟩ : ∃ n, t.starts.length = n := ⟨_, rfl⟩
  obtain ⟨q2, hq2⟩ : ∃ n, t.cuts.length = n := ⟨_, rfl⟩
  obtain ⟨q3, hq3⟩ : ∃ n, t.acts.length = n := ⟨_, rfl⟩
  have HLM := Lib.hid hm
  have HLS := Lib.hid hs2
  have HLR := Lib.hid hr
  have HLC := Lib.hid hq2
  have HLA := Lib.hid hq3
  have HLN := Lib.hid hn
  obtain ⟨b4, hb4⟩ : ∃ b, classesB t.classes t.count = b := ⟨_, rfl⟩
  obtain ⟨b5, hb5⟩ : ∃ b, combB t = b := ⟨_, rfl⟩
  rw [hb4] at hHR hCL
  rw [hb5] at hHR hCO
  rw [hK, hm, hr, hn, hnk, hnb, hnd, hnn, hnc, hs2, hq2, hq3] at hMR
  rw [hK, hm, hr, hn, hnk, hnb, hnd, hnn, hnc, hs2, hq2, hq3]
  rw [hK, hnk] at hCL
  rw [hK, hnb, hnd, hnn, hnc] at hCO
  rw [hm, hr, hn, hnb, hs2, hq2, hq3] at hHR
  rw [hm] at hm1
  rw [hr] at hm2
  rw [hn] at hm3
  have HMR0 := Lib.hid hMR
  have HCL := Lib.hid hCL
  have HCO := Lib.hid hCO
  have HR1 := Lib.hid hHR
  clear hMR hCL hCO hHR hb4 hb5 hK hm hr hn hnk hnb hnd hnn hnc hs2 hq2 hq3 hfit
  by_cases g : 1 ≤ m ∧ m ≤ 16 ∧ s2 = m ∧ r ≤ 200 ∧ q2 = r ∧ q3 = r
  · have HR2 := Lib.hid (show R = (allI (modeB t.modes n) 0 (t.modes.zip t.starts) && ((t.labels.zip (t.cuts.zip t.acts)).all (ruleB m) && (t.label.all (labB r) && (b4 && (b5 && decide (nb = n)))))) by rw [HR1.out, decide_eq_true g, Bool.true_and])
    obtain ⟨g1, g2, g3, g4, g5, g6⟩ := g
    rw [g3] at HLS HMR0 ⊢
    rw [g5] at HLC HMR0 ⊢
    rw [g6] at HLA HMR0 ⊢
    clear HR1 g3 g5 g6
    have g1I : ¬ (m : Int) < 1 := by omega
    have g2I : ¬ 16 < (m : Int) := by omega
    have g4I : ¬ 200 < (r : Int) := by omega
    have z1 : ((m : Int) != (m : Int)) = false := by simp
    have z2 : ((r : Int) != (r : Int)) = false := by simp
    go_enter Tryd.func12, Tryd.ntmps12
    go_wp2_with fail
    refine name_world (fun W1 hW => ?_)
    have xe : boxAt W1 w.heap.size [.slice pm m cm, .slice pl r cl, .slice pc r cc, .slice pa r ca, .slice pk nk ck, .int .i64 K, .slice ps m cs, .slice pb n cb, .slice p1 nb c1, .slice p2 nd c2, .slice p3 nn c3, .slice p4 nc c4] := boxAt.new _ _ hW
    have hg : Gr w W1 := by rw [hW]; exact Gr.alloc _ _
    clear hW
    go_loopw [6, 7] (fun i _ wr => ∃ k : Nat, k ≤ m ∧ i = .int .i64 (k : Int) ∧ Gr W1 wr ∧ Hid (allI (modeB t.modes n) 0 ((t.modes.zip t.starts).take k) = true)) (fun i _ _ => m - (intOf i).toNat)
    case atStart => exact ⟨0, Nat.zero_le _, rfl, Gr.refl _, Lib.hid rfl⟩
    case round =>
      obtain ⟨k, hk, rfl, hgr, HA⟩ := hrel
      have xr := xe.later hgr
      have HG1 := Lib.hid hgr
      replace hgr := hg.trans hgr
      rcases Nat.lt_or_ge k m with hkl | hkl
      · obtain ⟨x, hx⟩ : ∃ x, t.modes[k]? = some x := ⟨_, List.getElem?_eq_getElem (by rw [HLM.out]; exact hkl)⟩
        obtain ⟨y, hy⟩ : ∃ x, t.starts[k]? = some x := ⟨_, List.getElem?_eq_getElem (by rw [HLS.out]; exact hkl)⟩
        have hz : (t.modes.zip t.starts)[k]? = some (x, y) := by rw [List.getElem?_zip_eq_some]; exact ⟨hx, hy⟩
        obtain ⟨b1, o1, rfl, hb1, a1⟩ := str_at (HM.out.later hgr) hx
        obtain ⟨b2, o2, rfl, hb2, a2⟩ := int_at (HS.out.later hgr) hy
        have HN := Lib.hid (fun w' => name4_any x w' (H.out.texts x (.inl (List.mem_of_getElem? hx))))
        have YES := Lib.hid (fun (y1 : modeB t.modes n k (x, y) = true) => Lib.hid (show allI (modeB t.modes n) 0 ((t.modes.zip t.starts).take (k + 1)) = true by rw [allI_take _ _ _ _ hz, HA.out, y1]; rfl))
        have NO := Lib.hid (fun (y1 : modeB t.modes n k (x, y) = false) => Lib.hid (show R = false by rw [HR2.out, allI_false hz y1, Bool.false_and]))
        have hkI : (k : Int) < (m : Int) := by omega
        have HKL := Lib.hid hkl
        have HX := Lib.hid hx
        obtain ⟨f1, hf1⟩ : ∃ f, nameB x = f := ⟨_, rfl⟩
        rw [hf1] at HN
        have HF1 := Lib.hid hf1
        have A1 := Lib.hid a1
        clear hx hy hz hk hkl hf1
        have c_e0 := xr.cell 0 _ rfl
        have c_e1 := xr.cell 1 _ rfl
        have c_e2 := xr.cell 2 _ rfl
        have c_e3 := xr.cell 3 _ rfl
        have c_e4 := xr.cell 4 _ rfl
        have c_e5 := xr.cell 5 _ rfl
        have c_e6 := xr.cell 6 _ rfl
        have c_e7 := xr.cell 7 _ rfl
        have c_e8 := xr.cell 8 _ rfl
        have c_e9 := xr.cell 9 _ rfl
        have c_e10 := xr.cell 10 _ rfl
        have c_e11 := xr.cell 11 _ rfl
        have m_e0 := xr.mark 0 _ rfl
        have m_e1 := xr.mark 1 _ rfl
        have m_e2 := xr.mark 2 _ rfl
        have m_e3 := xr.mark 3 _ rfl
        have m_e4 := xr.mark 4 _ rfl
        have m_e5 := xr.mark 5 _ rfl
        have m_e6 := xr.mark 6 _ rfl
        have m_e7 := xr.mark 7 _ rfl
        have m_e8 := xr.mark 8 _ rfl
        have m_e9 := xr.mark 9 _ rfl
        have m_e10 := xr.mark 10 _ rfl
        have m_e11 := xr.mark 11 _ rfl
        have l_e := xr.lt (Nat.succ_pos _)
        cases f1 with
        | false =>
          have Z := NO.out (by unfold modeB; rw [HF1.out]; rfl)
          go_wp2_with fail
          go_at_call 42
          (with_reducible refine (HN.out _).mono ?_); rintro e w1 ⟨rfl, rfl⟩
          go_wp2_with fail
          go_ret
          exact ⟨ret_bool Z.out.symm, hgr⟩
        | true =>
          by_cases q1 : y < 0
          · have Z := NO.out (by unfold modeB; rw [decide_eq_false (by omega)]; simp)
            go_wp2_with fail
            go_at_call 42
            (with_reducible refine (HN.out _).mono ?_); rintro e w1 ⟨rfl, rfl⟩
            go_wp2_with fail
            go_ret
            exact ⟨ret_bool Z.out.symm, hgr⟩
          by_cases q2 : (n : Int) ≤ y
          · have Z := NO.out (by unfold modeB; rw [decide_eq_false (by omega)]; simp)
            go_wp2_with fail
            go_at_call 42
            (with_reducible refine (HN.out _).mono ?_); rintro e w1 ⟨rfl, rfl⟩
            go_wp2_with fail
            go_ret
            exact ⟨ret_bool Z.out.symm, hgr⟩
          have HQ := Lib.hid (show 0 ≤ y ∧ y < n by omega)
          go_wp2_with fail
          go_at_call 42
          (with_reducible refine (HN.out _).mono ?_); rintro e w1 ⟨rfl, rfl⟩
          go_wp2_with fail
          clear c_e0 c_e1 c_e2 c_e3 c_e4 c_e5 c_e6 c_e7 c_e8 c_e9 c_e10 c_e11 m_e0 m_e1 m_e2 m_e3 m_e4 m_e5 m_e6 m_e7 m_e8 m_e9 m_e10 m_e11 l_e
          clear a1 a2 q1 q2
          go_loopw [7] (fun i ws => ∃ j : Nat, j ≤ k ∧ i = .int .i64 (j : Int) ∧ Gr W1 ws ∧ Hid ((t.modes.take j).contains x = false)) (fun i _ => k - (intOf i).toNat)
          case atStart => exact ⟨0, Nat.zero_le _, rfl, HG1.out, Lib.hid rfl⟩
          case round =>
            obtain ⟨j, hj, rfl, hgs, HA2⟩ := hrel
            have xs := xe.later hgs
            have HG2 := Lib.hid hgs
            replace hgs := hg.trans hgs
            rcases Nat.lt_or_ge j k with hjl | hjl
            · obtain ⟨z, hz⟩ : ∃ x, t.modes[j]? = some x := ⟨_, List.getElem?_eq_getElem (by rw [HLM.out]; have := HKL.out; omega)⟩
              have HZ := Lib.hid hz
              obtain ⟨b1', o1', hp1, hb1b, a1⟩ := str_at (HM.out.later hgs) HX.out
              injection hp1 with hp1
              injection hp1 with hp1 hp2
              subst hp1 hp2
              obtain ⟨b3', o3', hp3, hb3, a3⟩ := str_at (HM.out.later hgs) hz
              injection hp3 with hp3
              injection hp3 with hp3 hp4
              subst hp3 hp4
              have hjk : (j : Int) < (k : Int) := by omega
              have hjm : (j : Int) < (m : Int) := by omega
              have HJL := Lib.hid hjl
              clear hz hj hjl
              obtain ⟨b, hb⟩ : ∃ b, (z == x) = b := ⟨_, rfl⟩
              have hbs : ((st z).toList == (st x).toList) = b := by rw [st_beq]; exact hb
              have HBB := Lib.hid hb
              clear hb
              have c_e0 := xs.cell 0 _ rfl
              have c_e1 := xs.cell 1 _ rfl
              have c_e2 := xs.cell 2 _ rfl
              have c_e3 := xs.cell 3 _ rfl
              have c_e4 := xs.cell 4 _ rfl
              have c_e5 := xs.cell 5 _ rfl
              have c_e6 := xs.cell 6 _ rfl
              have c_e7 := xs.cell 7 _ rfl
              have c_e8 := xs.cell 8 _ rfl
              have c_e9 := xs.cell 9 _ rfl
              have c_e10 := xs.cell 10 _ rfl
              have c_e11 := xs.cell 11 _ rfl
              have m_e0 := xs.mark 0 _ rfl
              have m_e1 := xs.mark 1 _ rfl
              have m_e2 := xs.mark 2 _ rfl
              have m_e3 := xs.mark 3 _ rfl
              have m_e4 := xs.mark 4 _ rfl
              have m_e5 := xs.mark 5 _ rfl
              have m_e6 := xs.mark 6 _ rfl
              have m_e7 := xs.mark 7 _ rfl
              have m_e8 := xs.mark 8 _ rfl
              have m_e9 := xs.mark 9 _ rfl
              have m_e10 := xs.mark 10 _ rfl
              have m_e11 := xs.mark 11 _ rfl
              have l_e := xs.lt (Nat.succ_pos _)
              cases b with
              | true =>
                have Z := NO.out (by
                  have hzx := HBB.out
                  rw [beq_iff_eq] at hzx
                  unfold modeB
                  have h2 := HZ.out
                  rw [hzx] at h2
                  rw [contains_sub h2 HJL.out]; simp)
                go_wp2_with fail
                refine wp_region_G (.take 0 (.take 1 (.take 2 (.take 3 (.take 4 (.take 5 (.take 6 (.take 7 (.take 8 (.take 9 (.take 10 .nil))))))))))) (by kernel_rfl) (by kernel_rfl) ?_
                simp only [pickOps, nthOp]
                intro wq hG
                repeat (first | (refine wpG_skip_take ?_ ?_; (focus rfl); try simp only [Act.put, List.setIfInBounds_toArray, List.set_cons_zero, List.set_cons_succ]) | (refine wpG_skip_run ?_ ?_; (focus rfl); try simp only [Act.put, List.setIfInBounds_toArray, List.set_cons_zero, List.set_cons_succ]) | (refine wpG_take ?_ ?_; (focus rfl); apply Exists.intro; refine ⟨fun w' hw' => ?_, ?_⟩; (focus (have hc := Gr.cells hw'; go_simp; (try rfl); done)); try simp only [Act.put, List.setIfInBounds_toArray, List.set_cons_zero, List.set_cons_succ]))
                refine wpG_done ?_
                go_wp2_with fail
                go_ret
                exact ⟨ret_bool Z.out.symm, hgs.trans hG⟩
              | false =>
                have Y := Lib.hid (show (t.modes.take (j + 1)).contains x = false by
                  rw [contains_take HZ.out, HA2.out]
                  have h2 := HBB.out
                  rw [beq_eq_false_iff_ne] at h2
                  rw [Bool.false_or, beq_eq_false_iff_ne]
                  exact fun e => h2 e.symm)
                go_wp2_with fail
                refine wp_region_G (.take 0 (.take 1 (.take 2 (.take 3 (.take 4 (.take 5 (.take 6 (.take 7 (.take 8 (.take 9 (.take 10 .nil))))))))))) (by kernel_rfl) (by kernel_rfl) ?_
                simp only [pickOps, nthOp]
                intro wq hG
                repeat (first | (refine wpG_skip_take ?_ ?_; (focus rfl); try simp only [Act.put, List.setIfInBounds_toArray, List.set_cons_zero, List.set_cons_succ]) | (refine wpG_skip_run ?_ ?_; (focus rfl); try simp only [Act.put, List.setIfInBounds_toArray, List.set_cons_zero, List.set_cons_succ]) | (refine wpG_take ?_ ?_; (focus rfl); apply Exists.intro; refine ⟨fun w' hw' => ?_, ?_⟩; (focus (have hc := Gr.cells hw'; go_simp; (try rfl); done)); try simp only [Act.put, List.setIfInBounds_toArray, List.set_cons_zero, List.set_cons_succ]))
                refine wpG_done ?_
                go_wp2_with fail
                go_roundw
                case rel => exact ⟨j + 1, by have := HJL.out; omega, by go_num, HG2.out.trans hG, Y⟩
                case measure => have := HJL.out; simp [intOf]; omega
            · have hjk : ¬ (j : Int) < (k : Int) := by omega
              have hjn : j = k := by omega
              have Y := YES.out (by
                unfold modeB
                have := HA2.out
                rw [hjn] at this
                rw [this, HF1.out, decide_eq_true HQ.out]; rfl)
              clear hj hjl hjn
              go_wp2_with fail
              go_roundw
              case rel => first | exact ⟨k + 1, by have := HKL.out; omega, by go_num, HG2.out, Y⟩ | exact ⟨⟨k + 1, by have := HKL.out; omega, by go_num, HG2.out, Y⟩, rfl⟩
              case measure => have := HKL.out; simp [intOf]; omega
      · have hkI : ¬ (k : Int) < (m : Int) := by omega
        have HR3 := Lib.hid (show R = ((t.labels.zip (t.cuts.zip t.acts)).all (ruleB m) && (t.label.all (labB r) && (b4 && (b5 && decide (nb = n))))) by
          rw [HR2.out]
          have := HA.out
          rw [List.take_of_length_le (by rw [List.length_zip, HLM.out, HLS.out]; omega)] at this
          rw [this, Bool.true_and])
        have HG2 := Lib.hid hgr
        clear hk hkl
        go_wp2_with fail
        clear hkI hgr
        obtain ⟨W2, hW2⟩ : ∃ W2, W2 = wr := ⟨_, rfl⟩
        subst hW2
        have HGA := Lib.hid HG1.out
        clear HG1
        go_loopw [8] (fun i wr => ∃ k : Nat, k ≤ r ∧ i = .int .i64 (k : Int) ∧ Gr W1 wr ∧ Hid (((t.labels.zip (t.cuts.zip t.acts)).take k).all (ruleB m) = true)) (fun i _ => r - (intOf i).toNat)
        case atStart => exact ⟨0, Nat.zero_le _, rfl, HGA.out, Lib.hid rfl⟩
        case round =>
          obtain ⟨k, hk, rfl, hgr, HA3⟩ := hrel
          have xs := xe.later hgr
          have HG1 := Lib.hid hgr
          replace hgr := hg.trans hgr
          rcases Nat.lt_or_ge k r with hkl | hkl
          · obtain ⟨x, hx⟩ : ∃ x, t.labels[k]? = some x := ⟨_, List.getElem?_eq_getElem (by rw [HLR.out]; exact hkl)⟩
            obtain ⟨cu, hcu⟩ : ∃ x, t.cuts[k]? = some x := ⟨_, List.getElem?_eq_getElem (by rw [HLC.out]; exact hkl)⟩
            obtain ⟨ac, hac⟩ : ∃ x, t.acts[k]? = some x := ⟨_, List.getElem?_eq_getElem (by rw [HLA.out]; exact hkl)⟩
            have hz : (t.labels.zip (t.cuts.zip t.acts))[k]? = some (x, (cu, ac)) := by
              rw [List.getElem?_zip_eq_some]; exact ⟨hx, by rw [List.getElem?_zip_eq_some]; exact ⟨hcu, hac⟩⟩
            have HMR := Lib.hid (HMR0.out k x cu ac hx hcu hac wr hgr)
            obtain ⟨f, hf⟩ : ∃ f, ruleB m (x, (cu, ac)) = f := ⟨_, rfl⟩
            rw [hf] at HMR
            have YES := Lib.hid (fun (y1 : f = true) => Lib.hid (show ((t.labels.zip (t.cuts.zip t.acts)).take (k + 1)).all (ruleB m) = true by rw [all_take _ _ _ _ hz, HA3.out, hf, y1]; rfl))
            have NO := Lib.hid (fun (y1 : f = false) => Lib.hid (show R = false by rw [HR3.out, all_false hz (hf.trans y1), Bool.false_and]))
            have hkI : (k : Int) < (r : Int) := by omega
            have HKL := Lib.hid hkl
            clear hx hcu hac hz hk hkl hf
            have c_e0 := xs.cell 0 _ rfl
            have c_e1 := xs.cell 1 _ rfl
            have c_e2 := xs.cell 2 _ rfl
            have c_e3 := xs.cell 3 _ rfl
            have c_e4 := xs.cell 4 _ rfl
            have c_e5 := xs.cell 5 _ rfl
            have c_e6 := xs.cell 6 _ rfl
            have c_e7 := xs.cell 7 _ rfl
            have c_e8 := xs.cell 8 _ rfl
            have c_e9 := xs.cell 9 _ rfl
            have c_e10 := xs.cell 10 _ rfl
            have c_e11 := xs.cell 11 _ rfl
            have m_e0 := xs.mark 0 _ rfl
            have m_e1 := xs.mark 1 _ rfl
            have m_e2 := xs.mark 2 _ rfl
            have m_e3 := xs.mark 3 _ rfl
            have m_e4 := xs.mark 4 _ rfl
            have m_e5 := xs.mark 5 _ rfl
            have m_e6 := xs.mark 6 _ rfl
            have m_e7 := xs.mark 7 _ rfl
            have m_e8 := xs.mark 8 _ rfl
            have m_e9 := xs.mark 9 _ rfl
            have m_e10 := xs.mark 10 _ rfl
            have m_e11 := xs.mark 11 _ rfl
            have l_e := xs.lt (Nat.succ_pos _)
            cases f with
            | false =>
              have Z := NO.out rfl
              go_wp2_with fail
              clear c_e0 c_e1 c_e2 c_e3 c_e4 c_e5 c_e6 c_e7 c_e8 c_e9 c_e10 c_e11 m_e0 m_e1 m_e2 m_e3 m_e4 m_e5 m_e6 m_e7 m_e8 m_e9 m_e10 m_e11 l_e
              go_at_call 43
              (with_reducible refine HMR.out.mono ?_); rintro e w1 ⟨rfl, hb⟩
              go_wp2_with fail
              go_ret
              exact ⟨ret_bool Z.out.symm, hgr.trans hb⟩
            | true =>
              have Y := YES.out rfl
              go_wp2_with fail
              clear c_e0 c_e1 c_e2 c_e3 c_e4 c_e5 c_e6 c_e7 c_e8 c_e9 c_e10 c_e11 m_e0 m_e1 m_e2 m_e3 m_e4 m_e5 m_e6 m_e7 m_e8 m_e9 m_e10 m_e11 l_e
              go_at_call 43
              (with_reducible refine HMR.out.mono ?_); rintro e w1 ⟨rfl, hb⟩
              go_wp2_with fail
              go_roundw
              case rel => exact ⟨k + 1, by have := HKL.out; omega, by go_num, HG1.out.trans hb, Y⟩
              case measure => have := HKL.out; simp [intOf]; omega
          · have hkI : ¬ (k : Int) < (r : Int) := by omega
            have HR4 := Lib.hid (show R = (t.label.all (labB r) && (b4 && (b5 && decide (nb = n)))) by
              rw [HR3.out]
              have := HA3.out
              rw [List.take_of_length_le (by rw [List.length_zip, List.length_zip, HLR.out, HLC.out, HLA.out]; omega)] at this
              rw [this, Bool.true_and])
            clear hk hkl
            go_wp2_with fail
            clear hkI hgr
            go_loopw [9] (fun i ws => ∃ j : Nat, j ≤ n ∧ i = .int .i64 (j : Int) ∧ Gr W1 ws ∧ Hid ((t.label.take j).all (labB r) = true)) (fun i _ => n - (intOf i).toNat)
            case atStart => exact ⟨0, Nat.zero_le _, rfl, HG1.out, Lib.hid rfl⟩
            case round =>
              obtain ⟨j, hj, rfl, hgs, HA5⟩ := hrel
              have xs := xe.later hgs
              have HG5 := Lib.hid hgs
              replace hgs := hg.trans hgs
              rcases Nat.lt_or_ge j n with hjl | hjl
              · obtain ⟨x, hx⟩ : ∃ x, t.label[j]? = some x := ⟨_, List.getElem?_eq_getElem (by rw [HLN.out]; exact hjl)⟩
                obtain ⟨b6, o6, rfl, hb6, a6⟩ := int_at (HB.out.later hgs) hx
                have YES := Lib.hid (fun (y1 : labB r x = true) => Lib.hid (show (t.label.take (j + 1)).all (labB r) = true by rw [all_take _ _ _ _ hx, HA5.out, y1]; rfl))
                have NO := Lib.hid (fun (y1 : labB r x = false) => Lib.hid (show R = false by rw [HR4.out, all_false hx y1, Bool.false_and]))
                have hjI : (j : Int) < (n : Int) := by omega
                have HJL := Lib.hid hjl
                clear hx hj hjl
                have c_e0 := xs.cell 0 _ rfl
                have c_e1 := xs.cell 1 _ rfl
                have c_e2 := xs.cell 2 _ rfl
                have c_e3 := xs.cell 3 _ rfl
                have c_e4 := xs.cell 4 _ rfl
                have c_e5 := xs.cell 5 _ rfl
                have c_e6 := xs.cell 6 _ rfl
                have c_e7 := xs.cell 7 _ rfl
                have c_e8 := xs.cell 8 _ rfl
                have c_e9 := xs.cell 9 _ rfl
                have c_e10 := xs.cell 10 _ rfl
                have c_e11 := xs.cell 11 _ rfl
                have m_e0 := xs.mark 0 _ rfl
                have m_e1 := xs.mark 1 _ rfl
                have m_e2 := xs.mark 2 _ rfl
                have m_e3 := xs.mark 3 _ rfl
                have m_e4 := xs.mark 4 _ rfl
                have m_e5 := xs.mark 5 _ rfl
                have m_e6 := xs.mark 6 _ rfl
                have m_e7 := xs.mark 7 _ rfl
                have m_e8 := xs.mark 8 _ rfl
                have m_e9 := xs.mark 9 _ rfl
                have m_e10 := xs.mark 10 _ rfl
                have m_e11 := xs.mark 11 _ rfl
                have l_e := xs.lt (Nat.succ_pos _)
                by_cases q1 : x < -1
                · have Z := NO.out (by unfold labB; exact decide_eq_false (by omega))
                  go_wp2_with fail
                  go_ret
                  exact ⟨ret_bool Z.out.symm, hgs⟩
                by_cases q2 : (r : Int) ≤ x
                · have Z := NO.out (by unfold labB; exact decide_eq_false (by omega))
                  go_wp2_with fail
                  go_ret
                  exact ⟨ret_bool Z.out.symm, hgs⟩
                · have Y := YES.out (by unfold labB; exact decide_eq_true (by omega))
                  go_wp2_with fail
                  go_roundw
                  case rel => exact ⟨j + 1, by have := HJL.out; omega, by go_num, HG5.out, Y⟩
                  case measure => have := HJL.out; simp [intOf]; omega
              · have hjI : ¬ (j : Int) < (n : Int) := by omega
                have HR5 := Lib.hid (show R = (b4 && (b5 && decide (nb = n))) by
                  rw [HR4.out]
                  have := HA5.out
                  rw [List.take_of_length_le (by rw [HLN.out]; omega)] at this
                  rw [this, Bool.true_and])
                clear hj hjl
                have c_e0 := xs.cell 0 _ rfl
                have c_e1 := xs.cell 1 _ rfl
                have c_e2 := xs.cell 2 _ rfl
                have c_e3 := xs.cell 3 _ rfl
                have c_e4 := xs.cell 4 _ rfl
                have c_e5 := xs.cell 5 _ rfl
                have c_e6 := xs.cell 6 _ rfl
                have c_e7 := xs.cell 7 _ rfl
                have c_e8 := xs.cell 8 _ rfl
                have c_e9 := xs.cell 9 _ rfl
                have c_e10 := xs.cell 10 _ rfl
                have c_e11 := xs.cell 11 _ rfl
                have m_e0 := xs.mark 0 _ rfl
                have m_e1 := xs.mark 1 _ rfl
                have m_e2 := xs.mark 2 _ rfl
                have m_e3 := xs.mark 3 _ rfl
                have m_e4 := xs.mark 4 _ rfl
                have m_e5 := xs.mark 5 _ rfl
                have m_e6 := xs.mark 6 _ rfl
                have m_e7 := xs.mark 7 _ rfl
                have m_e8 := xs.mark 8 _ rfl
                have m_e9 := xs.mark 9 _ rfl
                have m_e10 := xs.mark 10 _ rfl
                have m_e11 := xs.mark 11 _ rfl
                have l_e := xs.lt (Nat.succ_pos _)
                cases b4 with
                | false =>
                  have Z := Lib.hid (show R = false by rw [HR5.out]; rfl)
                  go_wp2_with fail
                  clear c_e0 c_e1 c_e2 c_e3 c_e4 c_e5 c_e6 c_e7 c_e8 c_e9 c_e10 c_e11 m_e0 m_e1 m_e2 m_e3 m_e4 m_e5 m_e6 m_e7 m_e8 m_e9 m_e10 m_e11 l_e
                  go_at_call 44
                  (with_reducible refine (HCL.out _ hgs).mono ?_); rintro e w1 ⟨rfl, rfl⟩
                  go_wp2_with fail
                  go_ret
                  exact ⟨ret_bool Z.out.symm, hgs⟩
                | true =>
                  go_wp2_with fail
                  go_at_call 44
                  (with_reducible refine (HCL.out _ hgs).mono ?_); rintro e w1 ⟨rfl, hww⟩
                  subst hww
                  go_wp2_with fail
                  clear c_e0 c_e1 c_e2 c_e3 c_e4 c_e5 c_e6 c_e7 c_e8 c_e9 c_e10 c_e11 m_e0 m_e1 m_e2 m_e3 m_e4 m_e5 m_e6 m_e7 m_e8 m_e9 m_e10 m_e11 l_e
                  go_at_call 45
                  (with_reducible refine (HCO.out _ hgs).mono ?_); rintro e w2 ⟨rfl, hb⟩
                  replace xs := xs.later hb
                  replace hgs := hgs.trans hb
                  clear hb
                  have c_e0 := xs.cell 0 _ rfl
                  have c_e1 := xs.cell 1 _ rfl
                  have c_e2 := xs.cell 2 _ rfl
                  have c_e3 := xs.cell 3 _ rfl
                  have c_e4 := xs.cell 4 _ rfl
                  have c_e5 := xs.cell 5 _ rfl
                  have c_e6 := xs.cell 6 _ rfl
                  have c_e7 := xs.cell 7 _ rfl
                  have c_e8 := xs.cell 8 _ rfl
                  have c_e9 := xs.cell 9 _ rfl
                  have c_e10 := xs.cell 10 _ rfl
                  have c_e11 := xs.cell 11 _ rfl
                  have m_e0 := xs.mark 0 _ rfl
                  have m_e1 := xs.mark 1 _ rfl
                  have m_e2 := xs.mark 2 _ rfl
                  have m_e3 := xs.mark 3 _ rfl
                  have m_e4 := xs.mark 4 _ rfl
                  have m_e5 := xs.mark 5 _ rfl
                  have m_e6 := xs.mark 6 _ rfl
                  have m_e7 := xs.mark 7 _ rfl
                  have m_e8 := xs.mark 8 _ rfl
                  have m_e9 := xs.mark 9 _ rfl
                  have m_e10 := xs.mark 10 _ rfl
                  have m_e11 := xs.mark 11 _ rfl
                  have l_e := xs.lt (Nat.succ_pos _)
                  cases b5 with
                  | false =>
                    have Z := Lib.hid (show R = false by rw [HR5.out]; rfl)
                    go_wp2_with fail
                    go_ret
                    exact ⟨ret_bool Z.out.symm, hgs⟩
                  | true =>
                    have Z := Lib.hid (show R = decide ((nb : Int) = (n : Int)) by
                      rw [HR5.out, Bool.true_and, Bool.true_and]
                      exact decide_eq_decide.2 ⟨fun h => by omega, fun h => by omega⟩)
                    by_cases q : (nb : Int) = (n : Int)
                    all_goals
                      go_wp2_with fail
                      go_ret
                      exact ⟨ret_bool (by rw [Z.out]; simp [q]), hgs⟩
  · have N := Lib.hid (show R = false by rw [HR1.out, decide_eq_false g, Bool.false_and])
    have HG := Lib.hid g
    clear g
    by_cases g1 : (m : Int) < 1
    · go_enter Tryd.func12, Tryd.ntmps12
      go_wp2_with fail
      all_goals (go_ret; exact ⟨ret_bool N.out.symm, Gr.alloc _ _⟩)
    by_cases g2 : 16 < (m : Int)
    · go_enter Tryd.func12, Tryd.ntmps12
      go_wp2_with fail
      all_goals (go_ret; exact ⟨ret_bool N.out.symm, Gr.alloc _ _⟩)
    by_cases g3 : s2 = m
    case neg =>
      have z1 : ((s2 : Int) != (m : Int)) = true := by rw [bne_iff_ne]; omega
      go_enter Tryd.func12, Tryd.ntmps12
      go_wp2_with fail
      all_goals (go_ret; exact ⟨ret_bool N.out.symm, Gr.alloc _ _⟩)
    have z1 : ((s2 : Int) != (m : Int)) = false := by rw [bne_eq_false_iff_eq]; omega
    by_cases g4 : 200 < (r : Int)
    · go_enter Tryd.func12, Tryd.ntmps12
      go_wp2_with fail
      all_goals (go_ret; exact ⟨ret_bool N.out.symm, Gr.alloc _ _⟩)
    by_cases g5 : q2 = r
    case neg =>
      have z2 : ((q2 : Int) != (r : Int)) = true := by rw [bne_iff_ne]; omega
      go_enter Tryd.func12, Tryd.ntmps12
      go_wp2_with fail
      all_goals (go_ret; exact ⟨ret_bool N.out.symm, Gr.alloc _ _⟩)
    have z2 : ((q2 : Int) != (r : Int)) = false := by rw [bne_eq_false_iff_eq]; omega
    have z3 : ((q3 : Int) != (r : Int)) = true := by rw [bne_iff_ne]; have := HG.out; omega
    clear g5
    go_enter Tryd.func12, Tryd.ntmps12
    go_wp2_with fail
    all_goals (go_ret; exact ⟨ret_bool N.out.symm, Gr.alloc _ _⟩)

end Go.Proofs.YtcbfmajojkcibaaDoor
