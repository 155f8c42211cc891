/- bolterlaw6.way: what a refusal names is a way back. Printed by gen_nmwa.py. A bound of how many there are. -/
import Derived.Test.YtkkopdmemjncdaaGreatDoorPHn
namespace Go.Proofs.YtkkopdmemjncdaaGreatDoor
open Go Go.RowKit Go.Maps

theorem tmod_nat (a b : Nat) : Int.tmod ((a : Int) + 1) (b : Int) = (((a + 1) % b : Nat) : Int) := by
  rw [show ((a : Int) + 1) = ((a + 1 : Nat) : Int) by omega]
  rfl
theorem emod_nat (a b : Nat) : ((a : Int) + 1) % (b : Int) = (((a + 1) % b : Nat) : Int) := by
  rw [show ((a : Int) + 1) = ((a + 1 : Nat) : Int) by omega, Int.natCast_emod]
/-- What the error tells: a way back. -/
def TellsWay (s : Sc) (w : World) (ev : Value) (P : List Nat) : Prop := ∀ W, Gr w W → Calls Tryz.prog 28 #[ev] W fun e w' => ∃ nv, e = .returned (.agg #[.int .i64 7, .int .i64 0, .int .i64 0, .int .i64 0, nv]) ∧ w'.ownsRow W.heap.size 9 1 nv P.length (P.map fun i => .string (nmD s i)) ∧ Gr W w'

set_option maxRecDepth 100000 in
set_option maxHeartbeats 16000000 in
theorem way_any (s : Sc) (w : World) (vm vd vr : Value) (hs : ScIn w s vm vd vr) (hdl : s.defs.length ≤ 1048576) (hL : Linked s) (lv : Value) (hrw : RowsY w lv (linksN s)) (ev : Value) (fr : Nat) (P : List Nat) (hP : WayP (linksN s) fr P) (hT : TellsWay s w ev P) :
    Calls Tryz.prog 26 #[scV vm vd vr, lv, ev, .int .i64 (fr : Int)] w fun e w' => e = .returned (.bool true) ∧ Gr w w' := by
  obtain ⟨i0, si, sy0, sy1, sy2⟩ := info_parts info_strN
  obtain ⟨dl, rl, hd, hr, hm', hmo, hmn, hmb, hds, hdi, hdn, hdb, hrs, hri, hrn, hrb⟩ := hs
  obtain ⟨pm, cm, evm⟩ := hm'.len
  obtain ⟨pd, cd, evd⟩ := hds.len
  obtain ⟨pr, cr, evr⟩ := hrs.len
  have hdl2 : dl.length ≤ 1048576 := by rw [← hd, List.length_map] at hdl; exact hdl
  obtain ⟨nm, hnm⟩ : ∃ n, s.modes.length = n := ⟨_, rfl⟩
  obtain ⟨nr, hnr⟩ : ∃ n, rl.length = n := ⟨_, rfl⟩
  obtain ⟨n, hn⟩ : ∃ n, dl.length = n := ⟨_, rfl⟩
  have hls : s.defs.length = n := by rw [← hd, List.length_map]; exact hn
  have HLS := Lib.hid hls
  have HLD := Lib.hid (show (defsN s).length = n by unfold defsN; rw [List.length_map]; exact HLS.out)
  have HLU := Lib.hid (show (linksN s).length = n from (linksN_len s).trans HLS.out)
  rw [hn] at evd hdl2 hds
  rw [hnm] at evm
  rw [hnr] at evr
  obtain ⟨pl, cl, rfl⟩ : ∃ p c, lv = .slice p n c := by
    obtain ⟨vs, _, h, _⟩ := hrw.sl
    rw [HLU.out] at h
    exact h.len
  have HRW := Lib.hid hrw
  have HD := Lib.hid hds
  have HDI := Lib.hid hdi
  have HHD := Lib.hid hd
  have HN := Lib.hid hn
  have HNB := Lib.hid hdl2
  have HL := Lib.hid hL
  have HP := Lib.hid hP
  unfold TellsWay at hT
  have HTL := Lib.hid hT
  have hnI : (n : Int) ≤ 1048576 := by omega
  subst evm evd evr
  clear hd hr hm' hmo hmn hmb hds hdi hdn hdb hrs hri hrn hrb hdl hdl2 hn hnm hnr hls hrw hL hP hT
  unfold scV
  go_enter Tryz.func26, Tryz.ntmps26
  go_upto_block 0 with fail
  refine name_world (fun W hW => ?_)
  have xp : boxAt W w.heap.size [.slice pm nm cm, .slice pd n cd, .slice pr nr cr] := by rw [hW]; exact boxAt.new_atN _ _ _ rfl rfl
  have hgW : Gr w W := by rw [hW]; exact Gr.alloc _ _
  have HR0 := Lib.hid (((Reg.start w).addBox hgW xp (by simp) (Nat.le_refl _)).push 9 1)
  obtain ⟨sb, hsb⟩ : ∃ b, w.heap.size = b := ⟨_, rfl⟩
  rw [hsb] at HR0
  simp only [hsb]
  clear hW xp hgW hsb
  go_wp2_with fail
  go_loopw [9, 10] (fun va i wr => ∃ k : Nat, k ≤ n ∧ i = .int .i64 (k : Int) ∧ Hid (Reg w [(sb, [.slice pm nm cm, .slice pd n cd, .slice pr nr cr])] [⟨va, 9, 1, k, ((defsN s).take k).map .string⟩] wr)) (fun _ i _ => n - (intOf i).toNat)
  case atStart => exact ⟨0, Nat.zero_le _, rfl, HR0⟩
  case round =>
    clear HR0
    obtain ⟨k, hk, rfl, HRG⟩ := hrel
    have xp := (HRG.out.box _ (List.mem_singleton.2 rfl)).1
    dsimp only at xp
    have hrow := HRG.out.row (List.mem_singleton.2 rfl)
    dsimp only at hrow
    obtain ⟨pa, ca, rfl⟩ := (Sl.of_owns hrow).len
    have HROW := Lib.hid hrow
    clear hrow
    have c_p0 := xp.cell 0 _ rfl
    have c_p1 := xp.cell 1 _ rfl
    have c_p2 := xp.cell 2 _ rfl
    have m_p0 := xp.mark 0 _ rfl
    have m_p1 := xp.mark 1 _ rfl
    have m_p2 := xp.mark 2 _ rfl
    have l_p := xp.lt (Nat.succ_pos _)
    rcases Nat.lt_or_ge k n with hkn | hkn
    · have hkI : (k : Int) < (n : Int) := by omega
      have HKN := Lib.hid hkn
      obtain ⟨⟨d, cs⟩, hx⟩ : ∃ x, dl[k]? = some x := ⟨_, List.getElem?_eq_getElem (by rw [HN.out]; exact hkn)⟩
      have hg : Gr w wr := HRG.out.gr
      obtain ⟨b2, off, hpm, hbl, hc⟩ := elem_at HD.out (fun x hx => (HDI.out x hx).len) HN.out hx
      have hok := HDI.out _ (List.mem_of_getElem? hx)
      have hsd : s.defs[k]? = some d := by rw [← HHD.out, List.getElem?_map, hx]; rfl
      dsimp only at hok hc
      cases hok with
      | mk ec hee hnn hpp =>
      have HDN := Lib.hid (defsN_get hsd)
      obtain ⟨nmd, po, ex⟩ := d
      dsimp only at hee hnn hpp hc HDN
      subst hpm
      have k0 : wr.cell? ⟨b2, off + k * 12, none⟩ = some (.string nmd) := hg.cell (hc 0 _ rfl)
      have hbr := Nat.lt_of_lt_of_le hbl hg.size
      obtain ⟨XS, hXS⟩ : ∃ X : List Value, ((defsN s).take k).map .string = X := ⟨_, rfl⟩
      have HXS := Lib.hid hXS
      rw [hXS] at HROW
      clear hx hk hkn hc hee hnn hpp hsd hbl hg hXS
      go_wp2_with (at_builtin; refine wpList_append_own_at _ rfl (.tmp 23) (.tmp 30) 30 rfl w.heap.size 9 i0 (.string ⟨#[]⟩) 1 16 Tryz.underlying30 si sy0 sy1 sy2 rfl (by decide) _ k XS rfl (HROW.out.alloc _) ⟨wr.heap.size, 0, none⟩ 1 1 [.string nmd] rfl rfl (new_cells _ _ _) (by intro u hu; simp at hu; subst hu; rfl) (by have := HKN.out; have := HNB.out; unfold maxLen; omega) (by have := HKN.out; have := HNB.out; omega) (Nat.le_trans HRG.out.kp.size (Gr.alloc _ _).size) ?_; intro v' w4 hown4 hg4 _ hloc; obtain ⟨p4, c4', rfl⟩ := (Sl.of_owns hown4).len; have HOW4 := Lib.hid hown4; have HG4 := Lib.hid hg4; have HLOC := Lib.hid hloc; clear hown4 hg4 hloc)
      clear c_p0 c_p1 c_p2 m_p0 m_p1 m_p2 l_p
      clear xp k0
      go_roundw
      case rel => exact ⟨k + 1, HKN.out, by go_num, Lib.hid (by
        rw [take_snoc HDN.out, List.map_append, HXS.out]
        exact (HRG.out.later (Gr.alloc wr _)).grow (i := 0) rfl HG4.out HOW4.out HLOC.out)⟩
      case measure => have := HKN.out; simp [intOf]; omega
    · have hkI : ¬ (k : Int) < (n : Int) := by omega
      have hke : n = k := by omega
      subst hke
      have HTA := Lib.hid (show (defsN s).take n = defsN s from List.take_of_length_le (by rw [HLD.out]; exact Nat.le_refl _))
      rw [HTA.out] at HROW
      have HGW := Lib.hid HRG.out.gr
      have HSA := Lib.hid (Sl.of_owns HROW.out)
      clear hk hkn
      go_wp2_with fail
      go_at_call 28
      (with_reducible refine (HTL.out _ HGW.out).mono ?_); rintro e w2 ⟨nv, rfl, hnv, hg2⟩
      clear c_p0 c_p1 c_p2 m_p0 m_p1 m_p2 l_p
      clear xp HROW HRG HTA
      have hsl := Sl.of_owns hnv
      obtain ⟨pt, ct, rfl⟩ := hsl.len
      obtain ⟨np, hnp⟩ : ∃ m, P.length = m := ⟨_, rfl⟩
      have HNP := Lib.hid hnp
      have hTN : (P.map (nmD s)).map Value.string = P.map fun i => .string (nmD s i) := by rw [List.map_map]; rfl
      have hTL : (P.map (nmD s)).length = np := by rw [List.length_map, hnp]
      rw [← hTN, hnp] at hsl
      rw [hnp]
      have HTL2 := Lib.hid hTL
      have HST := Lib.hid hsl
      have HG2 := Lib.hid (HGW.out.trans hg2)
      have HSA2 := Lib.hid (HSA.out.later hg2)
      have hpos := HP.out.pos
      have hple := HP.out.le
      rw [hnp] at hpos
      rw [hnp, HLU.out] at hple
      have hnpI : (np : Int) ≤ 1048576 := by omega
      have hnp0 : ((np : Int) == 0) = false := by rw [beq_eq_false_iff_ne]; omega
      have hnp1 : ¬ (np : Int) = 0 := by omega
      have hnp2 : (0 : Int) < (np : Int) := by omega
      have HPO := Lib.hid hpos
      have hf : ∀ w', (Instr.field 37 (.agg #[.int .i64 7, .int .i64 0, .int .i64 0, .int .i64 0, .slice pt np ct]) 4).run Tryz.prog w' = .ok (.slice pt np ct) w' := fun _ => by kernel_rfl
      clear hsl hnv hg2 hTN hTL hnp hpos hple HGW HSA HTL
      go_wp2_with fail
      clear hf
      go_loopw [12] (fun i wr => ∃ k : Nat, k ≤ np ∧ i = .int .i64 (k : Int) ∧ Hid (Gr w2 wr)) (fun i _ => np - (intOf i).toNat)
      case atStart => exact ⟨0, Nat.zero_le _, rfl, Lib.hid (Gr.refl _)⟩
      case round =>
        obtain ⟨k, hk, rfl, HG⟩ := hrel
        rcases Nat.lt_or_ge k np with hkn | hkn
        · have hkI : (k : Int) < (np : Int) := by omega
          have HKN := Lib.hid hkn
          obtain ⟨x, hx⟩ : ∃ x, P[k]? = some x := ⟨_, List.getElem?_eq_getElem (by rw [HNP.out]; exact hkn)⟩
          obtain ⟨y, hy, hyx⟩ := HP.out.link k x hx
          rw [HNP.out] at hy
          have hxn : x < n := by have := HP.out.lt x (List.mem_of_getElem? hx); rw [HLU.out] at this; exact this
          have hyn : y < n := by have := HP.out.lt y (List.mem_of_getElem? hy); rw [HLU.out] at this; exact this
          have hzn : (k + 1) % np < np := Nat.mod_lt _ (by omega)
          have hmd := tmod_nat k np
          have hme := emod_nat k np
          obtain ⟨z, hz⟩ : ∃ z, (k + 1) % np = z := ⟨_, rfl⟩
          rw [hz] at hy hzn hmd hme
          have HZ := Lib.hid hz
          have hzI : (z : Int) < (np : Int) := by omega
          have hz0 : ¬ (z : Int) < 0 := by omega
          have ht1 : (P.map (nmD s))[k]? = some (nmD s x) := by rw [List.getElem?_map, hx]; rfl
          have ht2 : (P.map (nmD s))[z]? = some (nmD s y) := by rw [List.getElem?_map, hy]; rfl
          have HST' := HST.out
          rw [← HTL2.out] at HST'
          obtain ⟨b3, o3, hp3, hb3, hc3⟩ := txt_at (n := (P.map (nmD s)).length) HST' ht1
          obtain ⟨b4, o4, hp4, hb4, hc4⟩ := txt_at (n := (P.map (nmD s)).length) HST' ht2
          subst hp3
          injection hp4 with hp4
          injection hp4 with e1 e2
          subst e1 e2
          have HC3 := Lib.hid hc3
          have q1 := HG.out.cell hc3
          have q2 := HG.out.cell hc4
          have hb3' := Nat.lt_of_lt_of_le hb3 HG.out.size
          have HA1 := Lib.hid (fun W (hG : Gr wr W) => at_any6 (defsN s) (.slice pa n ca) n HLD.out (nmD s x) W (HSA2.out.later (HG.out.trans hG)))
          have HA2 := Lib.hid (fun W (hG : Gr wr W) => at_any6 (defsN s) (.slice pa n ca) n HLD.out (nmD s y) W (HSA2.out.later (HG.out.trans hG)))
          rw [atI_nmD HL.out.nodup (by rw [HLS.out]; exact hxn)] at HA1
          rw [atI_nmD HL.out.nodup (by rw [HLS.out]; exact hyn)] at HA2
          obtain ⟨rx, hrx⟩ : ∃ r, (linksN s)[x]? = some r := ⟨_, List.getElem?_eq_getElem (by rw [HLU.out]; exact hxn)⟩
          have hin : inN rx y = true := inN_true (by rw [hrx] at hyx; exact hyx)
          obtain ⟨bl, ol, ux, hpl, hbl, hcl, hslx, _⟩ := (HRW.out.later HG2.out).row hrx
          subst hpl
          obtain ⟨pu, cu, rfl⟩ := hslx.len
          obtain ⟨mx, hmx⟩ : ∃ m, rx.length = m := ⟨_, rfl⟩
          have HHS := Lib.hid (fun W (hG : Gr wr W) => has_any6 rx (.slice pu rx.length cu) (y : Int) W ((hslx.later HG.out).later hG))
          rw [any_inN, hin, hmx] at HHS
          rw [hmx] at hcl
          have kl := HG.out.cell hcl
          have hbl' := Nat.lt_of_lt_of_le hbl HG.out.size
          have hx0 : ¬ (x : Int) < 0 := by omega
          have hy0 : ¬ (y : Int) < 0 := by omega
          have hxI : (x : Int) < (n : Int) := by omega
          have HF := Lib.hid (show k = 0 → x = fr from fun h => by
            have h1 := HP.out.first
            rw [← h, hx] at h1
            injection h1)
          have HDI2 := Lib.hid (show ∀ j, j < k → ∃ x', P[j]? = some x' ∧ ((nmD s x').toList == (nmD s x).toList) = false from fun j hj => by
            have hjp : j < P.length := by rw [HNP.out]; omega
            refine ⟨P[j], List.getElem?_eq_getElem hjp, ?_⟩
            rw [beq_eq_false_iff_ne]
            intro e
            have hx' : P[j] < s.defs.length := by
              have := HP.out.lt P[j] (List.getElem_mem hjp)
              rw [HLU.out] at this
              rw [HLS.out]; exact this
            have h1 := nmD_inj HL.out.nodup hx' (by rw [HLS.out]; exact hxn) (toList_inj e)
            have h2 := HP.out.nodup
            rw [List.nodup_iff_pairwise_ne, List.pairwise_iff_getElem] at h2
            obtain ⟨hkp, hke⟩ := List.getElem?_eq_some_iff.1 hx
            exact h2 j k hjp hkp hj (h1.trans hke.symm))
          obtain ⟨tx, htx⟩ : ∃ t, nmD s x = t := ⟨_, rfl⟩
          obtain ⟨ty, hty⟩ : ∃ t, nmD s y = t := ⟨_, rfl⟩
          rw [htx] at q1 HA1 HDI2 HC3
          rw [hty] at q2 HA2
          clear hk hkn hx hy hyx hxn hyn hzn hz ht1 ht2 HST' hb3 hb4 hc3 hc4 hrx hin hbl hcl hslx hmx htx hty
          rcases Nat.eq_zero_or_pos k with hk0 | hk0
          · have hfx := HF.out hk0
            subst hk0
            subst hfx
            try rw [Nat.add_zero] at q1
            have hm3 : 1 % np = z := HZ.out
            have hm1 : Int.tmod 1 (np : Int) = (z : Int) := by rw [← hm3]; rfl
            have hm2 : (1 : Int) % (np : Int) = (z : Int) := by rw [← hm3]; rfl
            clear hmd hme
            go_upto_region 14 with (first
              | (go_at_call 57; (with_reducible refine (HA1.out _ (Gr.refl _)).mono ?_); rintro e w7 ⟨rfl, rfl⟩)
              | (go_at_call 57; (with_reducible refine (HA2.out _ (Gr.refl _)).mono ?_); rintro e w7 ⟨rfl, rfl⟩)
              | (go_at_call 24; (with_reducible refine (HHS.out _ (Gr.refl _)).mono ?_); rintro e w8 ⟨rfl, hg8⟩))
            have HG8 := Lib.hid (HG.out.trans hg8)
            clear hg8 q1 q2 kl hbl' hb3'
            go_wp2_with fail
            go_loopw [15] (fun i wr => i = .int .i64 0 ∧ Hid (Gr w2 wr)) (fun _ _ => 0)
            case atStart => exact ⟨rfl, HG8⟩
            case round =>
              clear HG8 HG
              obtain ⟨rfl, HG⟩ := hrel
              go_wp2_with fail
              go_roundw
              case rel => exact ⟨0 + 1, HKN.out, by go_num, HG⟩
              case measure => have := HKN.out; simp [intOf]; omega
          · have hkb : ((k : Int) == 0) = false := by rw [beq_eq_false_iff_ne]; omega
            have hkb2 : ¬ (k : Int) = 0 := by omega
            go_upto_region 14 with (first
              | (go_at_call 57; (with_reducible refine (HA1.out _ (Gr.refl _)).mono ?_); rintro e w7 ⟨rfl, rfl⟩)
              | (go_at_call 57; (with_reducible refine (HA2.out _ (Gr.refl _)).mono ?_); rintro e w7 ⟨rfl, rfl⟩)
              | (go_at_call 24; (with_reducible refine (HHS.out _ (Gr.refl _)).mono ?_); rintro e w8 ⟨rfl, hg8⟩))
            have HG8 := Lib.hid (HG.out.trans hg8)
            clear hg8 q1 q2 kl hbl' hb3'
            go_wp2_with fail
            go_loopw [15] (fun i wr => ∃ j : Nat, j ≤ k ∧ i = .int .i64 (j : Int) ∧ Hid (Gr w2 wr)) (fun i _ => k - (intOf i).toNat)
            case atStart => exact ⟨0, Nat.zero_le _, rfl, HG8⟩
            case round =>
              clear HG8 HG
              obtain ⟨j, hj, rfl, HG⟩ := hrel
              rcases Nat.lt_or_ge j k with hjk | hjk
              · have hjI : (j : Int) < (k : Int) := by omega
                have HJK := Lib.hid hjk
                obtain ⟨x', hx', hne⟩ := HDI2.out j hjk
                have ht1 : (P.map (nmD s))[j]? = some (nmD s x') := by rw [List.getElem?_map, hx']; rfl
                have HST' := HST.out
                rw [← HTL2.out] at HST'
                obtain ⟨b5, o5, hp5, hb5, hc5⟩ := txt_at (n := (P.map (nmD s)).length) HST' ht1
                injection hp5 with hp5
                injection hp5 with e1 e2
                subst e1 e2
                have q3 := HG.out.cell hc5
                have q4 := HG.out.cell HC3.out
                have hb3' := Nat.lt_of_lt_of_le hb5 HG.out.size
                obtain ⟨tx', htx'⟩ : ∃ t, nmD s x' = t := ⟨_, rfl⟩
                rw [htx'] at q3 hne
                have hjn : (j : Int) < (np : Int) := by omega
                clear hj hjk hx' ht1 HST' hc5 hb5 htx'
                go_upto_region 17 with fail
                refine wp_region_G (.take 0 (.take 1 (.take 2 (.take 3 (.take 4 (.take 5 (.take 6 (.take 7 (.take 8 .nil))))))))) (by kernel_rfl) (by kernel_rfl) ?_
                simp only [pickOps, nthOp]
                intro wq hG
                repeat (first | (refine wpG_skip_take ?_ ?_; (focus rfl); try simp only [Act.put, List.setIfInBounds_toArray, List.set_cons_zero, List.set_cons_succ]) | (refine wpG_skip_run ?_ ?_; (focus rfl); try simp only [Act.put, List.setIfInBounds_toArray, List.set_cons_zero, List.set_cons_succ]) | (refine wpG_take ?_ ?_; (focus rfl); apply Exists.intro; refine ⟨fun w' hw' => ?_, ?_⟩; (focus (have hc := Gr.cells hw'; go_simp; (try rfl); done)); try simp only [Act.put, List.setIfInBounds_toArray, List.set_cons_zero, List.set_cons_succ]))
                all_goals
                  refine wpG_done ?_
                  have HGQ := Lib.hid (HG.out.trans hG)
                  clear hG q3 q4 hb3'
                  go_step
                  go_wp2_with fail
                  go_roundw
                  case rel => exact ⟨j + 1, HJK.out, by go_num, HGQ⟩
                  case measure => have := HJK.out; simp [intOf]; omega
              · have hjI : ¬ (j : Int) < (k : Int) := by omega
                clear hj hjk
                go_wp2_with fail
                go_roundw
                case rel => exact ⟨k + 1, HKN.out, by go_num, HG⟩
                case measure => have := HKN.out; simp [intOf]; omega
        · have hkI : ¬ (k : Int) < (np : Int) := by omega
          clear hk hkn
          go_wp2_with fail
          go_ret
          exact ⟨ret_b (decide_eq_true HPO.out), HG2.out.trans HG.out⟩


end Go.Proofs.YtkkopdmemjncdaaGreatDoor
