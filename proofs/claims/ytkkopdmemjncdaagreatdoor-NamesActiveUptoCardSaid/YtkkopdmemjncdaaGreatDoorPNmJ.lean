/- bolterlaw6.NamesActive answers true. Printed by gen_nmj.py. No condition but the errors' variables and a bound of the argument's bulk. -/
import Derived.Test.YtkkopdmemjncdaaGreatDoorPNmJr
namespace Go.Proofs.YtkkopdmemjncdaaGreatDoor
open Go Go.RowKit

set_option maxRecDepth 100000 in
set_option maxHeartbeats 16000000 in
theorem namesActive_any (s : Sc) (w : World) (es : Nat → Addr) (hF : FaultsIn w es) (vm vd vr : Value) (hs : ScIn w s vm vd vr) (hwt : wtS s ≤ 1048576) : Calls Tryz.prog 8 #[scV vm vd vr] w fun e w' => e = .returned (.bool true) ∧ Gr w w' := by
  have HHV := Lib.hid (fun W (hG : Gr w W) => heavy6_any s vm vd vr W (hs.later hG))
  have HWK := Lib.hid (fun W (hG : Gr w W) => wakes6_any W es (hF.later hG))
  have HRS := Lib.hid (fun W (hG : Gr w W) => resolve_any s W vm vd vr (esN es 15) (esN es 6) (esN es 7) (hs.later hG) (faults_glo (hF.later hG)).1 (faults_glo (hF.later hG)).2.1 (faults_glo (hF.later hG)).2.2 ⟨_, _, rfl⟩ ⟨_, _, rfl⟩ ⟨_, _, rfl⟩ (refs_wtS hwt))
  obtain ⟨dl, rl, hd, hr, hm, hmo, hmn, hmb, hds, hdi, hdn, hdb, hrs, hri, hrn, hrb⟩ := hs
  obtain ⟨pm, cm, evm⟩ := hm.len
  obtain ⟨pr, cr, evr⟩ := hrs.len
  obtain ⟨ns, hns⟩ : ∃ n, s.modes.length = n := ⟨_, rfl⟩
  obtain ⟨nr, hnr⟩ : ∃ n, rl.length = n := ⟨_, rfl⟩
  have HNS := Lib.hid hns
  have HNR := Lib.hid hnr
  rw [hns] at evm hm
  rw [hnr] at evr hrs
  have HMS := Lib.hid hm
  have HR := Lib.hid hrs
  have HRI := Lib.hid hri
  have HHR := Lib.hid hr
  subst evm evr
  unfold scV at HHV HRS ⊢
  clear hns hnr hd hr hm hmo hmn hmb hds hdi hdn hdb hrs hri hrn hrb hF hwt
  go_enter Tryz.func8, Tryz.ntmps8
  go_wp2_with fail
  go_at_call 9
  refine name_calls (fun W1 hW1 => ?_)
  have xs : boxAt W1 w.heap.size [.slice pm ns cm, vd, .slice pr nr cr] := by rw [hW1]; exact boxAt.new_atN _ _ _ rfl rfl
  have hg1 : Gr w W1 := by rw [hW1]; exact Gr.alloc _ _
  clear hW1
  (with_reducible refine (HHV.out W1 hg1).mono ?_); rintro e w2 ⟨⟨hv, rfl⟩, hg2⟩
  have XS := Lib.hid (xs.later hg2)
  have HG2 := Lib.hid (hg1.trans hg2)
  clear xs hg1 hg2 HHV
  cases hv with
  | true =>
    go_wp2_with fail
    go_at_call 21
    (with_reducible refine (HWK.out w2 HG2.out).mono ?_); rintro e w3 ⟨rfl, hg3⟩
    go_wp2_with fail
    go_ret
    exact ⟨rfl, HG2.out.trans hg3⟩
  | false =>
    have xs := XS.out
    have c_s0 := xs.cell 0 _ rfl
    have c_s1 := xs.cell 1 _ rfl
    have c_s2 := xs.cell 2 _ rfl
    have m_s0 := xs.mark 0 _ rfl
    have m_s1 := xs.mark 1 _ rfl
    have m_s2 := xs.mark 2 _ rfl
    have l_s := xs.lt (Nat.succ_pos _)
    go_wp2_with fail
    go_at_call 12
    (with_reducible refine (HRS.out w2 HG2.out).mono ?_); rintro e w3 ⟨hres, hg3⟩
    have HG3 := Lib.hid (HG2.out.trans hg3)
    have XS3 := Lib.hid (XS.out.later hg3)
    clear c_s0 c_s1 c_s2 m_s0 m_s1 m_s2 l_s
    clear xs HRS hg3
    rcases hres with ⟨_, rfl⟩ | ⟨x, v, _, _, hv, rfl⟩ | ⟨i, far2, b2, nv2, _, _, hi, hc, hf, hp, _, _, _, rfl⟩ | ⟨B, v0, v1, v2, v3, vs1, vs3, hsp, hno, hl, hB, h1, h3, hr, h2, ha, rfl⟩
    · unfold nmsZ esN
      go_wp2_with fail
      go_at_call 21
      refine name_calls (fun W4 hW4 => ?_)
      have hg4 : Gr w3 W4 := by rw [hW4]; exact Gr.alloc _ _
      clear hW4
      (with_reducible refine (HWK.out W4 (HG3.out.trans hg4)).mono ?_); rintro e w5 ⟨rfl, hg5⟩
      go_wp2_with fail
      go_ret
      exact ⟨rfl, HG3.out.trans (hg4.trans hg5)⟩
    · obtain ⟨b1, b2, nv, rfl, _⟩ := hv
      unfold nmsZ
      go_wp2_with fail
      go_at_call 21
      refine name_calls (fun W4 hW4 => ?_)
      have hg4 : Gr w3 W4 := by rw [hW4]; exact Gr.alloc _ _
      clear hW4
      (with_reducible refine (HWK.out W4 (HG3.out.trans hg4)).mono ?_); rintro e w5 ⟨rfl, hg5⟩
      go_wp2_with fail
      go_ret
      exact ⟨rfl, HG3.out.trans (hg4.trans hg5)⟩
    · clear hi hc hf hp
      unfold nmsZ
      go_wp2_with fail
      go_at_call 21
      refine name_calls (fun W4 hW4 => ?_)
      have hg4 : Gr w3 W4 := by rw [hW4]; exact Gr.alloc _ _
      clear hW4
      (with_reducible refine (HWK.out W4 (HG3.out.trans hg4)).mono ?_); rintro e w5 ⟨rfl, hg5⟩
      go_wp2_with fail
      go_ret
      exact ⟨rfl, HG3.out.trans (hg4.trans hg5)⟩
    have hnm := NmIn.of h1 h3 hr h2
    have HRT := Lib.hid (right_of hno)
    have HSP := Lib.hid (spec_lens hsp)
    have HSC := Lib.hid hsp
    obtain ⟨nm, hnmL⟩ : ∃ n, (modesN s).length = n := ⟨_, rfl⟩
    have HNM := Lib.hid hnmL
    have hAL : (namesN s).active.length = nm := by rw [← hnmL]; show ((List.range _).map _).length = _; simp
    have hCL : (actsR s).length = nr := by
      unfold actsR
      rw [List.length_map, ← HHR.out, List.length_map]; exact HNR.out
    obtain ⟨p0, c0, rfl⟩ : ∃ p c, v0 = .slice p nm c := by have := hnm.m; rw [hnmL] at this; exact this.len
    obtain ⟨p1, c1, rfl⟩ : ∃ p c, v1 = .slice p nm c := by
      obtain ⟨vs, _, h, _⟩ := hnm.a.sl
      rw [hAL] at h; exact h.len
    obtain ⟨p2, c2, rfl⟩ := hnm.o.len
    obtain ⟨p3, c3, rfl⟩ : ∃ p c, v3 = .slice p nr c := by
      obtain ⟨vs, _, h, _⟩ := hnm.c.sl
      rw [hCL] at h; exact h.len
    have HNI := Lib.hid hnm
    have hnmp : 0 < nm := by rw [← hnmL]; exact modesN_pos s
    have HNP := Lib.hid (show ns = 0 ∨ nm = ns from by
      rcases Nat.eq_zero_or_pos ns with h | h
      · exact .inl h
      · right
        rw [← hnmL, ← HNS.out, modesN_len (fun h2 => by rw [← HNS.out, h2] at h; simp at h)])
    have hn0 : ((nm : Int) == 0) = false := by rw [beq_eq_false_iff_ne]; omega
    obtain ⟨no, hno2⟩ : ∃ n, (namesN s).order.length = n := ⟨_, rfl⟩
    rw [hno2]
    clear h1 h3 hr h2 ha hB hl hno hsp hnm hnmL hAL hCL hno2
    have xs := XS3.out
    have c_s0 := xs.cell 0 _ rfl
    have c_s1 := xs.cell 1 _ rfl
    have c_s2 := xs.cell 2 _ rfl
    have m_s0 := xs.mark 0 _ rfl
    have m_s1 := xs.mark 1 _ rfl
    have m_s2 := xs.mark 2 _ rfl
    have l_s := xs.lt (Nat.succ_pos _)
    go_upto_region 6 with fail
    refine name_world (fun W4 hW4 => ?_)
    have xn : boxAt W4 w3.heap.size [.slice p0 nm c0, .slice p1 nm c1, .slice p2 no c2, .slice p3 nr c3] := by rw [hW4]; exact boxAt.new_atN _ _ _ rfl rfl
    have hg4 : Gr w3 W4 := by rw [hW4]; exact Gr.alloc _ _
    have XN := Lib.hid xn
    have XS4 := Lib.hid (XS3.out.later hg4)
    have NI := Lib.hid (HNI.out.later hg4)
    have HG4 := Lib.hid (HG3.out.trans hg4)
    have hsb : w.heap.size < w3.heap.size := xs.lt (by simp)
    obtain ⟨nb, hnb⟩ : ∃ b, w3.heap.size = b := ⟨_, rfl⟩
    obtain ⟨sb, hsb2⟩ : ∃ b, w.heap.size = b := ⟨_, rfl⟩
    rw [hnb] at XN
    rw [hsb2] at XS4
    simp only [hnb, hsb2]
    clear c_s0 c_s1 c_s2 m_s0 m_s1 m_s2 l_s
    clear hW4 xn hg4 hsb hnb hsb2 xs HNI XS3 XS HG3 HG2
    have xn := XN.out
    have xs := XS4.out
    have c_n0 := xn.cell 0 _ rfl
    have c_n1 := xn.cell 1 _ rfl
    have c_n2 := xn.cell 2 _ rfl
    have c_n3 := xn.cell 3 _ rfl
    have m_n0 := xn.mark 0 _ rfl
    have m_n1 := xn.mark 1 _ rfl
    have m_n2 := xn.mark 2 _ rfl
    have m_n3 := xn.mark 3 _ rfl
    have l_n := xn.lt (Nat.succ_pos _)
    have c_s0 := xs.cell 0 _ rfl
    have c_s1 := xs.cell 1 _ rfl
    have c_s2 := xs.cell 2 _ rfl
    have m_s0 := xs.mark 0 _ rfl
    have m_s1 := xs.mark 1 _ rfl
    have m_s2 := xs.mark 2 _ rfl
    have l_s := xs.lt (Nat.succ_pos _)
    go_cut [63] from 27 to 63 (fun v wx => v = .bool false ∧ W4 = wx)
    case first =>
      rcases Nat.eq_zero_or_pos ns with h0 | h0
      · have hz : ¬ (0 : Int) < (ns : Int) := by omega
        clear h0
        go_wp2_with fail
        go_meet
        case rel => exact ⟨rfl, rfl⟩
      · have hz : (0 : Int) < (ns : Int) := by omega
        have hq : nm = ns := HNP.out.resolve_left (by omega)
        subst hq
        clear h0
        go_wp2_with fail
        go_meet
        case rel => exact ⟨rfl, rfl⟩
    case rest =>
    obtain ⟨rfl, rfl⟩ := hcut
    clear c_n0 c_n1 c_n2 c_n3 m_n0 m_n1 m_n2 m_n3 l_n
    clear c_s0 c_s1 c_s2 m_s0 m_s1 m_s2 l_s
    clear xn xs
    go_wp2_with fail
    go_loopw [5] (fun i wr => ∃ m : Nat, m ≤ nm ∧ i = .int .i64 (m : Int) ∧ Hid (Gr W4 wr)) (fun i _ => nm - (intOf i).toNat)
    case atStart => exact ⟨0, Nat.zero_le _, rfl, Lib.hid (Gr.refl _)⟩
    case round =>
      obtain ⟨m, hm, rfl, HG⟩ := hrel
      have xn := XN.out.later HG.out
      have xs := XS4.out.later HG.out
      have c_n0 := xn.cell 0 _ rfl
      have c_n1 := xn.cell 1 _ rfl
      have c_n2 := xn.cell 2 _ rfl
      have c_n3 := xn.cell 3 _ rfl
      have m_n0 := xn.mark 0 _ rfl
      have m_n1 := xn.mark 1 _ rfl
      have m_n2 := xn.mark 2 _ rfl
      have m_n3 := xn.mark 3 _ rfl
      have l_n := xn.lt (Nat.succ_pos _)
      have c_s0 := xs.cell 0 _ rfl
      have c_s1 := xs.cell 1 _ rfl
      have c_s2 := xs.cell 2 _ rfl
      have m_s0 := xs.mark 0 _ rfl
      have m_s1 := xs.mark 1 _ rfl
      have m_s2 := xs.mark 2 _ rfl
      have l_s := xs.lt (Nat.succ_pos _)
      rcases Nat.lt_or_ge m nm with hmn | hmn
      · have hmI : (m : Int) < (nm : Int) := by omega
        have HMN := Lib.hid hmn
        have hnm16 : (nm : Int) ≤ 16 := by
          have h1 := HSP.out.1
          have h2 := HNP.out
          have h3 := HNS.out
          have h4 := HNM.out
          rcases h2 with h2 | h2
          · have : s.modes = [] := List.eq_nil_of_length_eq_zero (by omega)
            have h5 : (modesN s).length = 1 := by unfold modesN; rw [if_pos this]; rfl
            omega
          · omega
        obtain ⟨nmM, hx0⟩ : ∃ x, (modesN s)[m]? = some x := ⟨_, List.getElem?_eq_getElem (by rw [HNM.out]; exact hmn)⟩
        have HX0 := Lib.hid hx0
        have hmS := NI.out.m
        obtain ⟨b0, o0, hp0, hb0, hc0⟩ := txt_at hmS hx0
        subst hp0
        have HC0 := Lib.hid hc0
        have hb0x := hb0
        have k0 := HG.out.cell hc0
        have hbr0 := Nat.lt_of_lt_of_le hb0 HG.out.size
        have HNSM := Lib.hid (show ns = 0 ∧ s.modes = [] ∨ 0 < ns ∧ (m : Int) < (ns : Int) ∧ ∃ b off, pm = some ⟨b, off, none⟩ ∧ b < wr.heap.size ∧ wr.cell? ⟨b, off + m * 3, none⟩ = some (.string nmM) ∧ wr.cell? ⟨b, off + m * 3 + 1, none⟩ = some (.bool (ownM s m)) from by
          rcases Nat.eq_zero_or_pos ns with h | h
          · exact .inl ⟨h, List.eq_nil_of_length_eq_zero (HNS.out.trans h)⟩
          · right
            have hq := HNP.out.resolve_left (by omega)
            obtain ⟨md, hx⟩ : ∃ x, s.modes[m]? = some x := ⟨_, List.getElem?_eq_getElem (by rw [HNS.out]; omega)⟩
            have hS := HMS.out
            rw [← HNS.out] at hS
            obtain ⟨b8, o8, hp8, hb8, hc8⟩ := mode_at hS hx
            have hg := HG4.out.trans HG.out
            have e1 : nmM = md.name := by
              have h5 := HX0.out
              unfold modesN at h5
              rw [if_neg (fun h2 => by rw [h2] at hx; simp at hx), List.getElem?_map, hx] at h5
              injection h5 with h5
              exact h5.symm
            have e2 : ownM s m = md.own := by unfold ownM; rw [hx]
            refine ⟨h, by omega, b8, o8, hp8, Nat.lt_of_lt_of_le hb8 hg.size, ?_, ?_⟩
            · rw [e1]; exact hg.cell (hc8 0 _ rfl)
            · rw [e2]; exact hg.cell (hc8 1 _ rfl))
        clear hx0 hmS hb0 hc0 hm hmn
        go_upto_region 11 with fail
        go_cut [6] from 71 to 82 (fun v wx => v = .bool (ownM s m) ∧ wr = wx)
        case first =>
          rcases HNSM.out with ⟨h0, hnil⟩ | ⟨h0, hmI2, b8, o8, hp8, hb8, hc1, hc2⟩
          · have hz : ¬ (0 : Int) < (ns : Int) := by omega
            have HO := Lib.hid (ownM_nil hnil m)
            clear h0 hnil
            go_wp2_with fail
            go_meet
            case rel => exact ⟨by rw [HO.out], rfl⟩
          · have hz : (0 : Int) < (ns : Int) := by omega
            subst hp8
            clear h0
            go_wp2_with fail
            go_meet
            case rel => exact ⟨rfl, rfl⟩
        case rest =>
        obtain ⟨rfl, rfl⟩ := hcut
        go_upto_region 12 with fail
        go_cut [100] from 83 to 100 (fun v wx => v = .bool false ∧ Gr wr wx)
        case first =>
          rcases HNSM.out with ⟨h0, hnil⟩ | ⟨h0, hmI2, b8, o8, hp8, hb8, hc1, hc2⟩
          · have hz : ¬ (0 : Int) < (ns : Int) := by omega
            have HD := Lib.hid (show decide ((0 : Int) < (ns : Int)) = false ∧ decide (0 < ns) = false from ⟨decide_eq_false hz, decide_eq_false (by omega)⟩)
            clear h0 hnil
            refine wp_region_G (.take 0 (.take 1 (.take 2 (.take 3 (.take 4 (.take 5 (.take 6 (.take 7 (.take 8 (.take 9 (.take 10 (.take 11 (.take 12 (.take 13 (.take 14 (.take 15 (.take 16 (.take 17 .nil)))))))))))))))))) (by kernel_rfl) (by kernel_rfl) ?_
            simp only [pickOps, nthOp]
            intro wq hG
            repeat (first | (refine wpG_skip_take ?_ ?_; (focus rfl); try simp only [Act.put, List.setIfInBounds_toArray, List.set_cons_zero, List.set_cons_succ]) | (refine wpG_skip_run ?_ ?_; (focus rfl); try simp only [Act.put, List.setIfInBounds_toArray, List.set_cons_zero, List.set_cons_succ]) | (refine wpG_take ?_ ?_; (focus rfl); apply Exists.intro; refine ⟨fun w' hw' => ?_, ?_⟩; (focus (have hc := Gr.cells hw'; go_simp; (try rfl); done)); try simp only [Act.put, List.setIfInBounds_toArray, List.set_cons_zero, List.set_cons_succ]))
            first | rw [HD.out.1] | rw [HD.out.2]
            repeat (first | (refine wpG_skip_take ?_ ?_; (focus rfl); try simp only [Act.put, List.setIfInBounds_toArray, List.set_cons_zero, List.set_cons_succ]) | (refine wpG_skip_run ?_ ?_; (focus rfl); try simp only [Act.put, List.setIfInBounds_toArray, List.set_cons_zero, List.set_cons_succ]) | (refine wpG_take ?_ ?_; (focus rfl); apply Exists.intro; refine ⟨fun w' hw' => ?_, ?_⟩; (focus (have hc := Gr.cells hw'; go_simp; (try rfl); done)); try simp only [Act.put, List.setIfInBounds_toArray, List.set_cons_zero, List.set_cons_succ]))
            refine wpG_done ?_
            go_wp2_with fail
            go_meet
            case rel => exact ⟨rfl, hG⟩
          · have hz : (0 : Int) < (ns : Int) := by omega
            subst hp8
            have HD := Lib.hid (show decide ((0 : Int) < (ns : Int)) = true ∧ decide (0 < ns) = true from ⟨decide_eq_true hz, decide_eq_true (by omega)⟩)
            clear h0
            refine wp_region_G (.take 0 (.take 1 (.take 2 (.take 3 (.take 4 (.take 5 (.take 6 (.take 7 (.take 8 (.take 9 (.take 10 (.take 11 (.take 12 (.take 13 (.take 14 (.take 15 (.take 16 (.take 17 .nil)))))))))))))))))) (by kernel_rfl) (by kernel_rfl) ?_
            simp only [pickOps, nthOp]
            intro wq hG
            repeat (first | (refine wpG_skip_take ?_ ?_; (focus rfl); try simp only [Act.put, List.setIfInBounds_toArray, List.set_cons_zero, List.set_cons_succ]) | (refine wpG_skip_run ?_ ?_; (focus rfl); try simp only [Act.put, List.setIfInBounds_toArray, List.set_cons_zero, List.set_cons_succ]) | (refine wpG_take ?_ ?_; (focus rfl); apply Exists.intro; refine ⟨fun w' hw' => ?_, ?_⟩; (focus (have hc := Gr.cells hw'; go_simp; (try rfl); done)); try simp only [Act.put, List.setIfInBounds_toArray, List.set_cons_zero, List.set_cons_succ]))
            first | rw [HD.out.1] | rw [HD.out.2]
            repeat (first | (refine wpG_skip_take ?_ ?_; (focus rfl); try simp only [Act.put, List.setIfInBounds_toArray, List.set_cons_zero, List.set_cons_succ]) | (refine wpG_skip_run ?_ ?_; (focus rfl); try simp only [Act.put, List.setIfInBounds_toArray, List.set_cons_zero, List.set_cons_succ]) | (refine wpG_take ?_ ?_; (focus rfl); apply Exists.intro; refine ⟨fun w' hw' => ?_, ?_⟩; (focus (have hc := Gr.cells hw'; go_simp; (try rfl); done)); try simp only [Act.put, List.setIfInBounds_toArray, List.set_cons_zero, List.set_cons_succ]))
            refine wpG_done ?_
            go_wp2_with fail
            go_meet
            case rel => exact ⟨by simp, hG⟩
        case rest =>
        obtain ⟨rfl, hG12⟩ := hcut
        have HGC := Lib.hid (HG.out.trans hG12)
        obtain ⟨ow, how⟩ : ∃ b, ownM s m = b := ⟨_, rfl⟩
        rw [how]
        have HOW := Lib.hid how
        have hAm : (namesN s).active[m]? = some (activeN s m ow) := by
          show ((List.range (modesN s).length).map _)[m]? = _
          rw [List.getElem?_map, List.getElem?_range (by rw [HNM.out]; exact HMN.out), ← how]; rfl
        obtain ⟨bA1, oA1, uA, hpA, hbA, hcA, hsA⟩ := NI.out.a.row hAm
        subst hpA
        obtain ⟨pA, cA, rfl⟩ := hsA.len
        have HCA := Lib.hid hcA
        have HSA := Lib.hid hsA
        have HBA := Lib.hid hbA
        have HBM := Lib.hid hb0x
        have xs5 := XS4.out.later HGC.out
        clear c_n0 c_n1 c_n2 c_n3 m_n0 m_n1 m_n2 m_n3 l_n
        clear c_s0 c_s1 c_s2 m_s0 m_s1 m_s2 l_s
        clear hG12 how hAm hcA hsA hbA xn xs k0 hbr0
        have c_s0 := xs5.cell 0 _ rfl
        have c_s1 := xs5.cell 1 _ rfl
        have c_s2 := xs5.cell 2 _ rfl
        have m_s0 := xs5.mark 0 _ rfl
        have m_s1 := xs5.mark 1 _ rfl
        have m_s2 := xs5.mark 2 _ rfl
        have l_s := xs5.lt (Nat.succ_pos _)
        go_wp2_with fail
        clear c_s0 c_s1 c_s2 m_s0 m_s1 m_s2 l_s
        clear xs5
        go_loopw [7] (fun i wr => ∃ k : Nat, k ≤ nr ∧ i = .int .i64 (k : Int) ∧ Hid (Gr W4 wr)) (fun i _ => nr - (intOf i).toNat)
        case atStart => exact ⟨0, Nat.zero_le _, rfl, HGC⟩
        case round =>
          clear HGC
          obtain ⟨k, hk, rfl, HGK⟩ := hrel
          have xn := XN.out.later HGK.out
          have xs := XS4.out.later HGK.out
          have c_n0 := xn.cell 0 _ rfl
          have c_n1 := xn.cell 1 _ rfl
          have c_n2 := xn.cell 2 _ rfl
          have c_n3 := xn.cell 3 _ rfl
          have m_n0 := xn.mark 0 _ rfl
          have m_n1 := xn.mark 1 _ rfl
          have m_n2 := xn.mark 2 _ rfl
          have m_n3 := xn.mark 3 _ rfl
          have l_n := xn.lt (Nat.succ_pos _)
          have c_s0 := xs.cell 0 _ rfl
          have c_s1 := xs.cell 1 _ rfl
          have c_s2 := xs.cell 2 _ rfl
          have m_s0 := xs.mark 0 _ rfl
          have m_s1 := xs.mark 1 _ rfl
          have m_s2 := xs.mark 2 _ rfl
          have l_s := xs.lt (Nat.succ_pos _)
          rcases Nat.lt_or_ge k nr with hkn | hkn
          · have hkI : (k : Int) < (nr : Int) := by omega
            have HKN := Lib.hid hkn
            obtain ⟨⟨r, cs⟩, hx⟩ : ∃ x, rl[k]? = some x := ⟨_, List.getElem?_eq_getElem (by rw [HNR.out]; exact hkn)⟩
            have hg := HG4.out.trans HGK.out
            have hD := HR.out
            obtain ⟨b2, off, hpm, hbl, hc⟩ := elem_at hD (fun x hx => (HRI.out x hx).len) HNR.out hx
            have hok := HRI.out _ (List.mem_of_getElem? hx)
            have hsr : s.rules[k]? = some r := by rw [← HHR.out, List.getElem?_map, hx]; rfl
            dsimp only at hok hc
            obtain ⟨po, al, pum, num, cum, op, ps, s1, tx, mn, mx, p1x, n1, c1x, ht, op2, ps2, s2, tx2, mn2, mx2, p2x, n2, c2x, lb, pua, nua, cua, hcs, hmm, hma, hsm, hsa, hmo, hao, hmb, hab⟩ := hok.formX
            have HAL := Lib.hid (show r.all = al from by
              cases hok with
              | mk vm va ec tc he ht hm hmn hmb hmo ha han hab hao hl hp => simp at hcs; exact hcs.2.1)
            subst hcs
            subst hpm
            have HCELL := Lib.hid (fun t u (h : ([.int .i64 po, .bool al, .slice pum num cum, .int .i64 op, .int .i64 ps, .int .u64 (wd s1 0), .int .u64 (wd s1 1), .int .u64 (wd s1 2), .int .u64 (wd s1 3), .string tx, .int .i64 mn, .int .i64 mx, .slice p1x n1 c1x, .bool ht, .int .i64 op2, .int .i64 ps2, .int .u64 (wd s2 0), .int .u64 (wd s2 1), .int .u64 (wd s2 2), .int .u64 (wd s2 3), .string tx2, .int .i64 mn2, .int .i64 mx2, .slice p2x n2 c2x, .string lb, .slice pua nua cua] : List Value)[t]? = some u) => hg.cell (hc t u h))
            have hbr := Nat.lt_of_lt_of_le hbl hg.size
            have HSR := Lib.hid hsr
            have HMM := Lib.hid hmm
            have HUM := Lib.hid hsm
            have hmb2 : (num : Int) ≤ 9223372036854775806 := by omega
            have hnr2 : (nr : Int) ≤ 1048576 := by
              have h1 := HSP.out.2.2
              rw [← HHR.out, List.length_map, HNR.out] at h1
              omega
            clear hx hok hk hkn hc hD hbl hg hmm hma hsm hsa hmo hao hmb hab hsr
            go_upto_region 18 with (first | ((with_reducible refine wpList_plain ?_ (fun _ hK => ?_)); (focus rfl); refine wp_load_at 71 (.tmp 111) rfl b2 (off + k * 26) rfl [.int .i64 po, .bool al, .slice pum num cum, .int .i64 op, .int .i64 ps, .int .u64 (wd s1 0), .int .u64 (wd s1 1), .int .u64 (wd s1 2), .int .u64 (wd s1 3), .string tx, .int .i64 mn, .int .i64 mx, .slice p1x n1 c1x, .bool ht, .int .i64 op2, .int .i64 ps2, .int .u64 (wd s2 0), .int .u64 (wd s2 1), .int .u64 (wd s2 2), .int .u64 (wd s2 3), .string tx2, .int .i64 mn2, .int .i64 mx2, .slice p2x n2 c2x, .string lb, .slice pua nua cua] _ HCELL.out Tryz.underlying71 rfl (by kernel_rfl) (hK _ _ ?_)) | ((with_reducible refine wpList_plain ?_ (fun _ hK => ?_)); (focus rfl); refine wp_store_row 71 (.tmp 8) (.tmp 112) rfl wr.heap.size #[.int .i64 po, .bool al, .slice pum num cum, .int .i64 op, .int .i64 ps, .int .u64 (wd s1 0), .int .u64 (wd s1 1), .int .u64 (wd s1 2), .int .u64 (wd s1 3), .string tx, .int .i64 mn, .int .i64 mx, .slice p1x n1 c1x, .bool ht, .int .i64 op2, .int .i64 ps2, .int .u64 (wd s2 0), .int .u64 (wd s2 1), .int .u64 (wd s2 2), .int .u64 (wd s2 3), .string tx2, .int .i64 mn2, .int .i64 mx2, .slice p2x n2 c2x, .string lb, .slice pua nua cua] rfl rfl 71 _ (heap_alloc_new wr _) (by kernel_rfl) rfl (all_ones _ rfl) (hK _ _ ?_); clear hK; refine name_wpList (fun xc_w hxc => ?_); obtain ⟨xc, xc_g, xc_s⟩ := new_row (cs := [.int .i64 po, .bool al, .slice pum num cum, .int .i64 op, .int .i64 ps, .int .u64 (wd s1 0), .int .u64 (wd s1 1), .int .u64 (wd s1 2), .int .u64 (wd s1 3), .string tx, .int .i64 mn, .int .i64 mx, .slice p1x n1 c1x, .bool ht, .int .i64 op2, .int .i64 ps2, .int .u64 (wd s2 0), .int .u64 (wd s2 1), .int .u64 (wd s2 2), .int .u64 (wd s2 3), .string tx2, .int .i64 mn2, .int .i64 mx2, .slice p2x n2 c2x, .string lb, .slice pua nua cua]) hxc; clear hxc; have xc_h := boxAt.row xc; have y1 := xc.cell 1 _ rfl; have y2 := xc.cell 2 _ rfl; have yl := xc.lt (Nat.succ_pos _)))
            have HXC := Lib.hid xc
            obtain ⟨rb, hrb⟩ : ∃ b, wr.heap.size = b := ⟨_, rfl⟩
            rw [hrb] at HXC y1 y2 yl
            simp only [hrb]
            have HGX := Lib.hid (HGK.out.trans xc_g)
            clear c_n0 c_n1 c_n2 c_n3 m_n0 m_n1 m_n2 m_n3 l_n
            clear c_s0 c_s1 c_s2 m_s0 m_s1 m_s2 l_s
            clear xc_h xc_s xc_g hrb xn xs HCELL hbr xc
            try dsimp only [Act.put]
            go_cut [9] from 113 to 124 (fun v wx => v = .bool (al || (decide (num = 0) && !ow)) ∧ xc_w = wx)
            case first =>
              cases al with
              | true =>
                go_wp2_with fail
                go_meet
                case rel => exact ⟨rfl, rfl⟩
              | false =>
                by_cases hz : num = 0
                · have hzI : ((num : Int) == 0) = true := by rw [hz]; rfl
                  have HZ := Lib.hid (decide_eq_true hz)
                  clear hz
                  go_wp2_with fail
                  go_meet
                  case rel => exact ⟨by rw [HZ.out]; rfl, rfl⟩
                · have hzI : ((num : Int) == 0) = false := by rw [beq_eq_false_iff_ne]; omega
                  have HZ := Lib.hid (decide_eq_false hz)
                  clear hz
                  go_wp2_with fail
                  go_meet
                  case rel => exact ⟨by rw [HZ.out]; rfl, rfl⟩
            case rest =>
            obtain ⟨rfl, rfl⟩ := hcut
            clear y1 y2 yl
            obtain ⟨D0, hD0⟩ : ∃ b, (al || (decide (num = 0) && !ow)) = b := ⟨_, rfl⟩
            rw [hD0]
            have HD0 := Lib.hid hD0
            clear hD0
            go_wp2_with fail
            go_loopw [9, 10] (fun dv kv wr => ∃ j : Nat, j ≤ num ∧ kv = .int .i64 (j : Int) ∧ dv = .bool (D0 || (r.modes.take j).any (fun u => decide (u.name = nmM))) ∧ Hid (Gr xc_w wr)) (fun _ kv _ => num - (intOf kv).toNat)
            case atStart => exact ⟨0, Nat.zero_le _, rfl, by simp, Lib.hid (Gr.refl _)⟩
            case round =>
              obtain ⟨j, hj, rfl, rfl, HGJ⟩ := hrel
              have HGJ4 := Lib.hid (HGX.out.trans HGJ.out)
              have xn := XN.out.later HGJ4.out
              have xr := HXC.out.later HGJ.out
              have y2 := xr.cell 2 _ rfl
              have yl := xr.lt (Nat.succ_pos _)
              have c_n0 := xn.cell 0 _ rfl
              have c_n1 := xn.cell 1 _ rfl
              have c_n2 := xn.cell 2 _ rfl
              have c_n3 := xn.cell 3 _ rfl
              have m_n0 := xn.mark 0 _ rfl
              have m_n1 := xn.mark 1 _ rfl
              have m_n2 := xn.mark 2 _ rfl
              have m_n3 := xn.mark 3 _ rfl
              have l_n := xn.lt (Nat.succ_pos _)
              rcases Nat.lt_or_ge j num with hjn | hjn
              · have hjI : (j : Int) < (num : Int) := by omega
                have HJN := Lib.hid hjn
                obtain ⟨⟨nmu, pou⟩, hx⟩ : ∃ x, r.modes[j]? = some x := ⟨_, List.getElem?_eq_getElem (by rw [HMM.out]; exact hjn)⟩
                have hD := HUM.out
                obtain ⟨b4, o4, hp4, hb4, hc4⟩ := use_at hD hx
                subst hp4
                have hg := HG4.out.trans HGJ4.out
                have ku := hg.cell (hc4 0 _ rfl)
                simp only [Nat.add_zero] at ku
                have hbu := Nat.lt_of_lt_of_le hb4 hg.size
                have k0 := HGJ4.out.cell HC0.out
                have hbr0 := Nat.lt_of_lt_of_le HBM.out HGJ4.out.size
                have hmI2 : (m : Int) < (nm : Int) := by have := HMN.out; omega
                have HTK := Lib.hid (show (D0 || (r.modes.take (j + 1)).any (fun u => decide (u.name = nmM))) = ((D0 || (r.modes.take j).any (fun u => decide (u.name = nmM))) || decide (nmu = nmM)) from by
                  rw [List.take_add_one, hx]
                  simp [Bool.or_assoc])
                obtain ⟨dj, hdj⟩ : ∃ b, (D0 || (r.modes.take j).any (fun u => decide (u.name = nmM))) = b := ⟨_, rfl⟩
                rw [hdj] at HTK ⊢
                clear hx hj hjn hD hb4 hc4 hg hdj
                cases dj with
                | true =>
                  go_upto_region 22 with fail
                  refine wp_region_G (.take 0 (.take 1 (.take 2 (.take 3 (.take 4 (.take 5 (.take 6 (.take 7 (.take 8 (.take 9 (.take 10 (.take 11 (.take 12 (.take 13 (.take 14 (.run 15 true .nil)))))))))))))))) (by kernel_rfl) (by kernel_rfl) ?_
                  simp only [pickOps, nthOp]
                  intro wq hG
                  repeat (first | (refine wpG_skip_take ?_ ?_; (focus rfl); try simp only [Act.put, List.setIfInBounds_toArray, List.set_cons_zero, List.set_cons_succ]) | (refine wpG_skip_run ?_ ?_; (focus rfl); try simp only [Act.put, List.setIfInBounds_toArray, List.set_cons_zero, List.set_cons_succ]) | (refine wpG_take ?_ ?_; (focus rfl); apply Exists.intro; refine ⟨fun w' hw' => ?_, ?_⟩; (focus (have hc := Gr.cells hw'; go_simp; (try rfl); done)); try simp only [Act.put, List.setIfInBounds_toArray, List.set_cons_zero, List.set_cons_succ]))
                  refine wpG_last ?_ (fun K hK => ?_); (focus rfl)
                  have hc := hG.cells
                  have hm := hG.marks
                  go_simp
                  refine hK.out _ _ ?_
                  try simp only [Act.put, List.setIfInBounds_toArray, List.set_cons_zero, List.set_cons_succ]
                  clear hK K hc hm
                  refine wpG_done ?_
                  have HGQ := Lib.hid (HGJ.out.trans hG)
                  clear c_n0 c_n1 c_n2 c_n3 m_n0 m_n1 m_n2 m_n3 l_n
                  clear hG xn xr y2 yl ku k0
                  go_wp2_with fail
                  go_roundw
                  case rel => exact ⟨j + 1, HJN.out, by go_num, by rw [HTK.out]; rfl, HGQ⟩
                  case measure => have := HJN.out; simp [intOf]; omega
                | false =>
                  obtain ⟨q, hq⟩ : ∃ b : Bool, decide (nmu = nmM) = b := ⟨_, rfl⟩
                  have HQ2 := Lib.hid (show (nmu.toList == nmM.toList) = q from by
                    rw [← hq, Bool.eq_iff_iff, beq_iff_eq, decide_eq_true_iff]
                    exact ⟨toList_inj, fun h => by rw [h]⟩)
                  have HQ := Lib.hid hq
                  clear hq
                  go_upto_region 22 with fail
                  refine wp_region_G (.take 0 (.take 1 (.take 2 (.take 3 (.take 4 (.take 5 (.take 6 (.take 7 (.take 8 (.take 9 (.take 10 (.take 11 (.take 12 (.take 13 (.take 14 (.run 15 true .nil)))))))))))))))) (by kernel_rfl) (by kernel_rfl) ?_
                  simp only [pickOps, nthOp]
                  intro wq hG
                  repeat (first | (refine wpG_skip_take ?_ ?_; (focus rfl); try simp only [Act.put, List.setIfInBounds_toArray, List.set_cons_zero, List.set_cons_succ]) | (refine wpG_skip_run ?_ ?_; (focus rfl); try simp only [Act.put, List.setIfInBounds_toArray, List.set_cons_zero, List.set_cons_succ]) | (refine wpG_take ?_ ?_; (focus rfl); apply Exists.intro; refine ⟨fun w' hw' => ?_, ?_⟩; (focus (have hc := Gr.cells hw'; go_simp; (try rfl); done)); try simp only [Act.put, List.setIfInBounds_toArray, List.set_cons_zero, List.set_cons_succ]))
                  refine wpG_last ?_ (fun K hK => ?_); (focus rfl)
                  have hc := hG.cells
                  have hm := hG.marks
                  go_simp
                  refine hK.out _ _ ?_
                  try simp only [Act.put, List.setIfInBounds_toArray, List.set_cons_zero, List.set_cons_succ]
                  clear hK K hc hm
                  refine wpG_done ?_
                  have HGQ := Lib.hid (HGJ.out.trans hG)
                  clear c_n0 c_n1 c_n2 c_n3 m_n0 m_n1 m_n2 m_n3 l_n
                  clear hG xn xr y2 yl ku k0
                  go_wp2_with fail
                  go_roundw
                  case rel => exact ⟨j + 1, HJN.out, by go_num, by rw [HTK.out, HQ.out, ← HQ2.out]; first | rfl | simp, HGQ⟩
                  case measure => have := HJN.out; simp [intOf]; omega
              · have hjI : ¬ (j : Int) < (num : Int) := by omega
                have HDE := Lib.hid (show (D0 || (r.modes.take j).any (fun u => decide (u.name = nmM))) = activeB s m ow r from by
                  rw [List.take_of_length_le (by rw [HMM.out]; omega), ← HD0.out, active_iff HRT.out HX0.out, HAL.out, ← HMM.out]
                  have e : decide (r.modes.length = 0) = decide (r.modes = []) := decide_eq_decide.2 List.length_eq_zero_iff
                  rw [e])
                rw [HDE.out]
                have HHS := Lib.hid (fun (W : World) (hG : Gr wr W) => has_any6 (activeN s m ow) _ (k : Int) W (HSA.out.later (HGJ4.out.trans hG)))
                have hact : ((activeN s m ow).any fun y => decide ((y : Int) = (k : Int))) = activeB s m ow r := by
                  rw [Bool.eq_iff_iff, List.any_eq_true]
                  constructor
                  · rintro ⟨y, hy, he⟩
                    have he := of_decide_eq_true he
                    have : y = k := by omega
                    subst this
                    obtain ⟨r', hr', hb'⟩ := activeN_mem.1 hy
                    rw [HSR.out] at hr'
                    injection hr' with hr'
                    subst hr'
                    exact hb'
                  · intro hb'
                    exact ⟨k, activeN_mem.2 ⟨r, HSR.out, hb'⟩, decide_eq_true rfl⟩
                rw [hact] at HHS
                obtain ⟨ab, hab⟩ : ∃ b, activeB s m ow r = b := ⟨_, rfl⟩
                rw [hab] at HHS ⊢
                have kA := HGJ4.out.cell HCA.out
                have hbA := Nat.lt_of_lt_of_le HBA.out HGJ4.out.size
                have hmI2 : (m : Int) < (nm : Int) := by have := HMN.out; omega
                clear hj hjn hact hab
                go_wp2_with fail
                go_at_call 24
                (with_reducible refine (HHS.out wr (Gr.refl _)).mono ?_); rintro e wh ⟨rfl, hgh⟩
                have HGQ := Lib.hid (HGJ4.out.trans hgh)
                clear c_n0 c_n1 c_n2 c_n3 m_n0 m_n1 m_n2 m_n3 l_n
                clear hgh xn xr y2 yl kA
                go_wp2_with fail
                go_roundw
                case rel => exact ⟨k + 1, HKN.out, by go_num, HGQ⟩
                case measure => have := HKN.out; simp [intOf]; omega
          · have hkI : ¬ (k : Int) < (nr : Int) := by omega
            clear c_n0 c_n1 c_n2 c_n3 m_n0 m_n1 m_n2 m_n3 l_n
            clear c_s0 c_s1 c_s2 m_s0 m_s1 m_s2 l_s
            clear hk hkn xn xs
            obtain ⟨nA, hnA⟩ : ∃ n, (activeN s m ow).length = n := ⟨_, rfl⟩
            have HNA := Lib.hid hnA
            have hnA2 : (nA : Int) ≤ 1048576 := by
              have h1 := actTo_le s m ow s.rules.length
              have h2 := HSP.out.2.2
              have h3 : (activeN s m ow).length ≤ s.rules.length := h1
              omega
            have xs6 := XS4.out.later HGK.out
            have c_s0 := xs6.cell 0 _ rfl
            have c_s1 := xs6.cell 1 _ rfl
            have c_s2 := xs6.cell 2 _ rfl
            have m_s0 := xs6.mark 0 _ rfl
            have m_s1 := xs6.mark 1 _ rfl
            have m_s2 := xs6.mark 2 _ rfl
            have l_s := xs6.lt (Nat.succ_pos _)
            go_upto_block 6 with fail
            clear c_s0 c_s1 c_s2 m_s0 m_s1 m_s2 l_s
            clear xs6
            go_wp2_with fail
            go_loopw [11] (fun i wr => ∃ j : Nat, i = .int .i64 ((j : Int) + 1) ∧ j < 1048577 ∧ Hid (Gr W4 wr)) (fun i _ => nA + 1 - (intOf i).toNat)
            case atStart => exact ⟨0, by simp, by omega, HGK⟩
            case round =>
              clear HGK
              obtain ⟨j, rfl, hjb, HGJ⟩ := hrel
              have xn := XN.out.later HGJ.out
              have c_n0 := xn.cell 0 _ rfl
              have c_n1 := xn.cell 1 _ rfl
              have c_n2 := xn.cell 2 _ rfl
              have c_n3 := xn.cell 3 _ rfl
              have m_n0 := xn.mark 0 _ rfl
              have m_n1 := xn.mark 1 _ rfl
              have m_n2 := xn.mark 2 _ rfl
              have m_n3 := xn.mark 3 _ rfl
              have l_n := xn.lt (Nat.succ_pos _)
              have kA := HGJ.out.cell HCA.out
              have hbA := Nat.lt_of_lt_of_le HBA.out HGJ.out.size
              have hmI2 : (m : Int) < (nm : Int) := by have := HMN.out; omega
              have hsA := HSA.out
              rw [hnA] at kA
              rcases Nat.lt_or_ge (j + 1) nA with hjn | hjn
              · have hjI : (j : Int) + 1 < (nA : Int) := by omega
                have hjI0 : (j : Int) < (nA : Int) := by omega
                have HJN := Lib.hid hjn
                obtain ⟨x, hx⟩ : ∃ x, (activeN s m ow)[j]? = some x := ⟨_, List.getElem?_eq_getElem (by rw [hnA]; omega)⟩
                obtain ⟨y, hy⟩ : ∃ x, (activeN s m ow)[j + 1]? = some x := ⟨_, List.getElem?_eq_getElem (by rw [hnA]; omega)⟩
                have hxy : x < y := by
                  have h1 := List.pairwise_iff_getElem.1 (activeN_rise s m ow) j (j + 1) (by rw [hnA]; omega) (by rw [hnA]; omega) (by omega)
                  rw [List.getElem?_eq_getElem (by rw [hnA]; omega)] at hx hy
                  injection hx with hx
                  injection hy with hy
                  omega
                obtain ⟨bx, ox, hpx, hbx, hcx⟩ := num_at hsA hx
                obtain ⟨by', oy, hpy, hby, hcy⟩ := num_at hsA hy
                subst hpx
                injection hpy with hpy
                injection hpy with hpy1 hpy2
                subst hpy1 hpy2
                have kx := HGJ.out.cell hcx
                have ky := HGJ.out.cell hcy
                have hbr := Nat.lt_of_lt_of_le hbx HGJ.out.size
                have hw : IntKind.i64.wrap ((j : Int) + 1 - 1) = (j : Int) := by rw [IntWalk.i64_in _ (by omega)]; omega
                have hle : ¬ (y : Int) ≤ (x : Int) := by omega
                have hle2 : ¬ y ≤ x := by omega
                have hw2 : IntKind.i64.wrap (j : Int) = (j : Int) := IntWalk.i64_in _ (by omega)
                have HLE := Lib.hid (show decide ((y : Int) ≤ (x : Int)) = false ∧ decide (y ≤ x) = false from ⟨decide_eq_false hle, decide_eq_false hle2⟩)
                clear hx hy hcx hcy hbx hby hjn hsA hxy
                go_upto_region 28 with fail
                refine wp_region_G (.take 0 (.take 1 (.take 2 (.take 3 (.take 4 (.take 5 (.take 6 (.take 7 (.take 8 (.take 9 (.take 10 (.take 11 (.take 12 (.take 13 (.take 14 (.take 15 (.take 16 (.take 17 .nil)))))))))))))))))) (by kernel_rfl) (by kernel_rfl) ?_
                simp only [pickOps, nthOp]
                intro wq hG
                repeat (first | (refine wpG_skip_take ?_ ?_; (focus rfl); try simp only [Act.put, List.setIfInBounds_toArray, List.set_cons_zero, List.set_cons_succ]) | (refine wpG_skip_run ?_ ?_; (focus rfl); try simp only [Act.put, List.setIfInBounds_toArray, List.set_cons_zero, List.set_cons_succ]) | (refine wpG_take ?_ ?_; (focus rfl); apply Exists.intro; refine ⟨fun w' hw' => ?_, ?_⟩; (focus (have hc := Gr.cells hw'; go_simp; (try rfl); done)); try simp only [Act.put, List.setIfInBounds_toArray, List.set_cons_zero, List.set_cons_succ]))
                first | rw [HLE.out.1] | rw [HLE.out.2] | skip
                refine wpG_done ?_
                have HGQ := Lib.hid (HGJ.out.trans hG)
                clear c_n0 c_n1 c_n2 c_n3 m_n0 m_n1 m_n2 m_n3 l_n
                clear hG xn kA kx ky
                go_wp2_with fail
                go_roundw
                case rel => exact ⟨j + 1, by first | rfl | go_num, by have := HJN.out; omega, HGQ⟩
                case measure => have := HJN.out; simp [intOf]; omega
              · have hjI : ¬ (j : Int) + 1 < (nA : Int) := by omega
                clear hjn hsA
                go_wp2_with fail
                clear c_n0 c_n1 c_n2 c_n3 m_n0 m_n1 m_n2 m_n3 l_n
                clear xn kA hbA
                go_roundw
                case rel => exact ⟨m + 1, HMN.out, by go_num, HGJ⟩
                case measure => have := HMN.out; simp [intOf]; omega
      · have hmI : ¬ (m : Int) < (nm : Int) := by omega
        clear hm hmn
        go_wp2_with fail
        clear c_n0 c_n1 c_n2 c_n3 m_n0 m_n1 m_n2 m_n3 l_n
        clear c_s0 c_s1 c_s2 m_s0 m_s1 m_s2 l_s
        clear xn xs
        go_loopw [12] (fun i wr => ∃ k : Nat, k ≤ nr ∧ i = .int .i64 (k : Int) ∧ Hid (Gr W4 wr)) (fun i _ => nr - (intOf i).toNat)
        case atStart => exact ⟨0, Nat.zero_le _, rfl, HG⟩
        case round =>
          clear HG
          obtain ⟨k, hk, rfl, HGK⟩ := hrel
          have xn := XN.out.later HGK.out
          have xs := XS4.out.later HGK.out
          have c_n0 := xn.cell 0 _ rfl
          have c_n1 := xn.cell 1 _ rfl
          have c_n2 := xn.cell 2 _ rfl
          have c_n3 := xn.cell 3 _ rfl
          have m_n0 := xn.mark 0 _ rfl
          have m_n1 := xn.mark 1 _ rfl
          have m_n2 := xn.mark 2 _ rfl
          have m_n3 := xn.mark 3 _ rfl
          have l_n := xn.lt (Nat.succ_pos _)
          have c_s0 := xs.cell 0 _ rfl
          have c_s1 := xs.cell 1 _ rfl
          have c_s2 := xs.cell 2 _ rfl
          have m_s0 := xs.mark 0 _ rfl
          have m_s1 := xs.mark 1 _ rfl
          have m_s2 := xs.mark 2 _ rfl
          have l_s := xs.lt (Nat.succ_pos _)
          rcases Nat.lt_or_ge k nr with hkn | hkn
          · have hkI : (k : Int) < (nr : Int) := by omega
            have HKN := Lib.hid hkn
            obtain ⟨⟨r, cs⟩, hx⟩ : ∃ x, rl[k]? = some x := ⟨_, List.getElem?_eq_getElem (by rw [HNR.out]; exact hkn)⟩
            have hg := HG4.out.trans HGK.out
            have hD := HR.out
            obtain ⟨b2, off, hpm, hbl, hc⟩ := elem_at hD (fun x hx => (HRI.out x hx).len) HNR.out hx
            have hok := HRI.out _ (List.mem_of_getElem? hx)
            have hsr : s.rules[k]? = some r := by rw [← HHR.out, List.getElem?_map, hx]; rfl
            dsimp only at hok hc
            obtain ⟨po, al, pum, num, cum, op, ps, s1, tx, mn, mx, p1x, n1, c1x, ht, op2, ps2, s2, tx2, mn2, mx2, p2x, n2, c2x, lb, pua, nua, cua, hcs, hmm, hma, hsm, hsa, hmo, hao, hmb, hab⟩ := hok.formX
            subst hcs
            subst hpm
            have HC25 := Lib.hid (hc 25 _ rfl)
            have HBL := Lib.hid hbl
            have hbr := Nat.lt_of_lt_of_le hbl hg.size
            have k25 := hg.cell (hc 25 _ rfl)
            have HSR := Lib.hid hsr
            have HMA := Lib.hid hma
            have HUA := Lib.hid hsa
            have hab2 : (nua : Int) ≤ 4398046511104 := by omega
            have hnr2 : (nr : Int) ≤ 1048576 := by
              have h1 := HSP.out.2.2
              rw [← HHR.out, List.length_map, HNR.out] at h1
              omega
            have hCk : (actsR s)[k]? = some (r.acts.map (stepA s)) := by unfold actsR; rw [List.getElem?_map, hsr]; rfl
            obtain ⟨b3, o3, u3, hp3, hb3, hc3, hs3⟩ := NI.out.c.row hCk
            subst hp3
            obtain ⟨pC, cC, rfl⟩ := hs3.len
            rw [List.length_map, hma] at hc3
            have HS3 := Lib.hid hs3
            have HC3 := Lib.hid hc3
            have HB3 := Lib.hid hb3
            have kC := HGK.out.cell hc3
            have hbC := Nat.lt_of_lt_of_le hb3 HGK.out.size
            have HAU := Lib.hid (show ∀ a ∈ r.acts, actedB a = true from by
              have h1 := HSC.out
              unfold specC at h1
              simp only [Bool.and_eq_true, List.all_eq_true] at h1
              have h2 := h1.2.2.2 r (List.mem_of_getElem? hsr)
              unfold ruleC at h2
              simp only [Bool.and_eq_true, List.all_eq_true] at h2
              exact h2.2.2.2.2.2.2.2)
            clear hx hok hk hkn hD hbl hg hmm hma hsm hsa hmo hao hmb hab hsr hCk hs3 hc3 hb3 hc
            go_upto_region 33 with fail
            refine wp_region_G (.take 0 (.take 1 (.take 2 (.take 3 (.take 4 (.take 5 (.take 6 (.take 7 (.take 8 (.take 9 (.take 10 (.take 11 (.take 12 (.take 13 .nil)))))))))))))) (by kernel_rfl) (by kernel_rfl) ?_
            simp only [pickOps, nthOp]
            intro wq hG
            repeat (first | (refine wpG_skip_take ?_ ?_; (focus rfl); try simp only [Act.put, List.setIfInBounds_toArray, List.set_cons_zero, List.set_cons_succ]) | (refine wpG_skip_run ?_ ?_; (focus rfl); try simp only [Act.put, List.setIfInBounds_toArray, List.set_cons_zero, List.set_cons_succ]) | (refine wpG_take ?_ ?_; (focus rfl); apply Exists.intro; refine ⟨fun w' hw' => ?_, ?_⟩; (focus (have hc := Gr.cells hw'; go_simp; (try rfl); done)); try simp only [Act.put, List.setIfInBounds_toArray, List.set_cons_zero, List.set_cons_succ]))
            refine wpG_done ?_
            have HGQ := Lib.hid (HGK.out.trans hG)
            clear c_n0 c_n1 c_n2 c_n3 m_n0 m_n1 m_n2 m_n3 l_n
            clear c_s0 c_s1 c_s2 m_s0 m_s1 m_s2 l_s
            clear hG xn xs k25 kC
            go_wp2_with fail
            go_loopw [13] (fun i wr => ∃ j : Nat, j ≤ nua ∧ i = .int .i64 (j : Int) ∧ Hid (Gr W4 wr)) (fun i _ => nua - (intOf i).toNat)
            case atStart => exact ⟨0, Nat.zero_le _, rfl, HGQ⟩
            case round =>
              clear HGQ
              obtain ⟨j, hj, rfl, HGJ⟩ := hrel
              have xn := XN.out.later HGJ.out
              have xs := XS4.out.later HGJ.out
              have c_n0 := xn.cell 0 _ rfl
              have c_n1 := xn.cell 1 _ rfl
              have c_n2 := xn.cell 2 _ rfl
              have c_n3 := xn.cell 3 _ rfl
              have m_n0 := xn.mark 0 _ rfl
              have m_n1 := xn.mark 1 _ rfl
              have m_n2 := xn.mark 2 _ rfl
              have m_n3 := xn.mark 3 _ rfl
              have l_n := xn.lt (Nat.succ_pos _)
              have c_s0 := xs.cell 0 _ rfl
              have c_s1 := xs.cell 1 _ rfl
              have c_s2 := xs.cell 2 _ rfl
              have m_s0 := xs.mark 0 _ rfl
              have m_s1 := xs.mark 1 _ rfl
              have m_s2 := xs.mark 2 _ rfl
              have l_s := xs.lt (Nat.succ_pos _)
              have hg := HG4.out.trans HGJ.out
              have k25 := hg.cell HC25.out
              have kC := HGJ.out.cell HC3.out
              have hbC := Nat.lt_of_lt_of_le HB3.out HGJ.out.size
              have hbr := Nat.lt_of_lt_of_le HBL.out hg.size
              rcases Nat.lt_or_ge j nua with hjn | hjn
              · have hjI : (j : Int) < (nua : Int) := by omega
                have HJN := Lib.hid hjn
                obtain ⟨⟨doo, nmx, pox⟩, hx⟩ : ∃ x, r.acts[j]? = some x := ⟨_, List.getElem?_eq_getElem (by rw [HMA.out]; exact hjn)⟩
                have hUA := HUA.out
                obtain ⟨b4, o4, hp4, hb4, hc4⟩ := act_at hUA hx
                subst hp4
                have a0 := hg.cell (hc4 0 _ rfl)
                have a1 := hg.cell (hc4 1 _ rfl)
                have a2 := hg.cell (hc4 2 _ rfl)
                simp only [Nat.add_zero] at a0
                have hba := Nat.lt_of_lt_of_le hb4 hg.size
                have hxs : (r.acts.map (stepA s))[j]? = some (stepA s ⟨doo, nmx, pox⟩) := by rw [List.getElem?_map, hx]; rfl
                have hS3 := HS3.out
                obtain ⟨b5, o5, hp5, hb5, hd0, hd1⟩ := step_at hS3 hxs
                subst hp5
                have d0 := HGJ.out.cell hd0
                have d1 := HGJ.out.cell hd1
                have hbd := Nat.lt_of_lt_of_le hb5 HGJ.out.size
                have HAC := Lib.hid (HAU.out _ (List.mem_of_getElem? hx))
                have HIN := Lib.hid (show doo ≠ 3 → noOf (modesN s) nmx < nm ∧ (modesN s)[noOf (modesN s) nmx]? = some nmx from fun h => by
                  have := step_ok HRT.out (List.mem_of_getElem? HSR.out) (List.mem_of_getElem? hx) h
                  rw [HNM.out] at this
                  exact this)
                obtain ⟨sm, hsm⟩ : ∃ x, (stepA s ⟨doo, nmx, pox⟩).2 = x := ⟨_, rfl⟩
                have HSM := Lib.hid hsm
                rw [hsm] at d1
                rw [show (stepA s ⟨doo, nmx, pox⟩).1 = doo from rfl] at d0
                clear hx hj hjn hc4 hb4 hxs hS3 hd0 hd1 hb5 hsm hUA
                go_upto_region 40 with fail
                refine name_world (fun Wz hWz => ?_)
                have xe : boxAt Wz wr.heap.size [.int .i64 doo, .int .i64 sm] := by rw [hWz]; exact (boxAt.new_atN _ _ _ rfl rfl).later (Gr.alloc _ _)
                have xg : boxAt Wz (wr.heap.size + 1) [.int .i64 doo, .string nmx, .int .i64 pox] := by rw [hWz]; exact boxAt.new_atN _ _ _ rfl (by simp)
                have hgz : Gr wr Wz := by rw [hWz]; exact (Gr.alloc _ _).trans (Gr.alloc _ _)
                have HGZ := Lib.hid (HGJ.out.trans hgz)
                have xn2 := xn.later hgz
                obtain ⟨e1, he1⟩ : ∃ b, wr.heap.size = b := ⟨_, rfl⟩
                obtain ⟨e2, he2⟩ : ∃ b, e1 + 1 = b := ⟨_, rfl⟩
                rw [he1] at xe xg
                rw [he2] at xg
                simp only [he1, he2]
                clear c_n0 c_n1 c_n2 c_n3 m_n0 m_n1 m_n2 m_n3 l_n
                clear c_s0 c_s1 c_s2 m_s0 m_s1 m_s2 l_s
                clear hWz hgz he1 he2 xn xs k25 kC a0 a1 a2 d0 d1
                go_cut [276] from 232 to 276 (fun v wx => v = .bool false ∧ Gr Wz wx)
                case first =>
                  refine r40_any Wz nb e1 e2 nm p0 c0 _ _ _ doo sm nmx pox xn2 xe xg ?_ _ _ _ _ _ _ _ _ _ _ _ _ _ _ _ _ _ _ _ _ _ _ _ _ _ _ _ _ _ _ _ _ _ _ _ _ _ _ _ _ _ _ _ _ _ _ _ _ _ _ _ _ _ _ _ _ _ _ _ _ _ _ _ _ _ _ _ _ _ _ _ _ _ _ _ _ _ _ _ _ _ _ _ _ _ _ _ _ _ _ _ _ _ _ _ _ _ _ _ _ _ _ _ _ _ _ _ _ _ _ _ _ _ _ _ _ _ _ _ _ _ _ _ _ _ _ _ _ _ _ _ _ _ _ _ _ _ _ _ _ _ _ _ _ _ _ _ _ _ _ _ _ _ _ _ _ _ _ _ _ _ _ _ _ _ _ _ _ _ _ _ _ _ _ _ _ _ _ _ _ _ _ _ _ _ _ _ _ _ _ _ _ _ _ _ _ _ _ _ _ _ _ _ _ _ _ _ _ _ _ _ _ _ _ _ _ _ _ _ _ _ _ _ _ _ _ _ _ _ _ _ _ _ _ _ _ _ _ _ _ _ _ _ _ _ _ _ _ _ _ _ _ _ _ _ _ _ _ _ _ _ _ _ _ _ _ _ _ _ _ _ _ _ _ _ _ _ ?_
                  · by_cases h3 : doo = 3
                    · refine .inl ⟨h3, ?_, hnmp⟩
                      rw [← HSM.out, h3]
                      unfold stepA
                      rfl
                    · have hin := HIN.out h3
                      have hNM := NI.out.m
                      obtain ⟨b6, o6, hp6, hb6, hc6⟩ := txt_at hNM hin.2
                      refine .inr ⟨h3, noOf (modesN s) nmx, b6, o6, ?_, hin.1, hp6, Nat.lt_of_lt_of_le hb6 HGZ.out.size, HGZ.out.cell hc6⟩
                      rw [← HSM.out]
                      unfold stepA
                      dsimp only
                      rw [if_neg h3]
                  · intros
                    go_wp2_with fail
                    go_meet
                    case rel => exact ⟨rfl, by assumption⟩
                case rest =>
                obtain ⟨rfl, hgc⟩ := hcut
                have HGY := Lib.hid (HGZ.out.trans hgc)
                clear hgc xn2 xe xg
                go_wp2_with fail
                go_roundw
                case rel => exact ⟨j + 1, HJN.out, by go_num, HGY⟩
                case measure => have := HJN.out; simp [intOf]; omega
              · have hjI : ¬ (j : Int) < (nua : Int) := by omega
                clear hj hjn hg
                go_wp2_with fail
                clear c_n0 c_n1 c_n2 c_n3 m_n0 m_n1 m_n2 m_n3 l_n
                clear c_s0 c_s1 c_s2 m_s0 m_s1 m_s2 l_s
                clear xn xs k25 kC hbC hbr
                go_roundw
                case rel => exact ⟨k + 1, HKN.out, by go_num, HGJ⟩
                case measure => have := HKN.out; simp [intOf]; omega
          · have hkI : ¬ (k : Int) < (nr : Int) := by omega
            clear hk hkn
            go_wp2_with fail
            go_at_call 21
            (with_reducible refine (HWK.out wr (HG4.out.trans HGK.out)).mono ?_); rintro e w9 ⟨rfl, hg9⟩
            go_wp2_with fail
            go_ret
            exact ⟨rfl, (HG4.out.trans HGK.out).trans hg9⟩

end Go.Proofs.YtkkopdmemjncdaaGreatDoor
