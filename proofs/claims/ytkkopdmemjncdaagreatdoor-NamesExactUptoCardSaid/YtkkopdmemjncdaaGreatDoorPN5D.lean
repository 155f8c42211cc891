/- Texts of mine, put together: N5D. No condition but what each says. -/
import Derived.Test.YtkkopdmemjncdaaGreatDoorPN5C
namespace Go.Proofs.YtkkopdmemjncdaaGreatDoor
open Go Go.RowKit
set_option maxRecDepth 100000 in
set_option maxHeartbeats 16000000 in
theorem
    maySpec5_any (s : Sc) (vm vd vr : Value) (w : World) (h : ScIn w s vm vd vr) :
  Calls Tryz.prog 33 #[scV vm vd vr] w fun e w' => e = .returned (.bool (specC s)) ∧ Gr w w' := by
 obtain ⟨dl, rl, hd, hr, hm, hmo, hmn, hmb, hds, hdi, hdn, hdb, hrs, hri, hrn, hrb⟩ := h
 obtain ⟨pm, cm, rfl⟩ := hm.len
 obtain ⟨pd, cd, rfl⟩ := hds.len
 obtain ⟨pr, cr, rfl⟩ := hrs.len
 have HM := Lib.hid hm
 have HMO := Lib.hid hmo
 have HD := Lib.hid hds
 have HDI := Lib.hid hdi
 have HR := Lib.hid hrs
 have HRI := Lib.hid hri
 obtain ⟨nm', hnm⟩ : ∃ n, s.modes.length = n := ⟨_, rfl⟩
 obtain ⟨nd, hnd⟩ : ∃ n, dl.length = n := ⟨_, rfl⟩
 obtain ⟨nr, hnr⟩ : ∃ n, rl.length = n := ⟨_, rfl⟩
 have HC := Lib.hid (show specC s = (decide (nm' ≤ 16 ∧ nd ≤ 200 ∧ nr ≤ 200) && (s.modes.all okM && (dl.all (fun p => okD p.1) && rl.all (fun p => ruleC p.1)))) from by
  unfold specC
  rw [← hd, ← hr, List.length_map, List.length_map, hnm, hnd, hnr, List.all_map, List.all_map]; rfl)
 have HNM := Lib.hid hnm
 have HND := Lib.hid hnd
 have HNR := Lib.hid hnr
 rw [hnm] at hmb ⊢
 rw [hnd] at hdb ⊢
 rw [hnr] at hrb ⊢
 obtain ⟨R, hR⟩ : ∃ R, specC s = R := ⟨_, rfl⟩
 rw [hR] at HC ⊢
 have HNO := Lib.hid (fun (h : (decide (nm' ≤ 16 ∧ nd ≤ 200 ∧ nr ≤ 200) && (s.modes.all okM && (dl.all (fun p => okD p.1) && rl.all (fun p => ruleC p.1)))) = false) => HC.out.trans h)
 have hnm1 : (nm' : Int) ≤ 140737488351232 := by omega
 have hnd1 : (nd : Int) ≤ 140737488351232 := by omega
 have hnr1 : (nr : Int) ≤ 140737488351232 := by omega
 clear hm hmo hmn hds hdi hdn hdb hrs hri hrn hrb hmb hnm hnd hnr hd hr hR
 unfold scV
 by_cases q1 : nm' ≤ 16
 rotate_left
 ·
  have q1I : (16 : Int) < (nm' : Int) := by omega
  have HF := Lib.hid (HNO.out (by simp [q1]))
  go_enter Tryz.func33, Tryz.ntmps33
  go_wp2_with fail
  go_ret
  exact ⟨ret_bool HF.out.symm, Gr.alloc _ _⟩
 have q1I : ¬ (16 : Int) < (nm' : Int) := by omega
 by_cases q2 : nd ≤ 200
 rotate_left
 ·
  have q2I : (200 : Int) < (nd : Int) := by omega
  have HF := Lib.hid (HNO.out (by simp [q2]))
  go_enter Tryz.func33, Tryz.ntmps33
  go_wp2_with fail
  go_ret
  exact ⟨ret_bool HF.out.symm, Gr.alloc _ _⟩
 have q2I : ¬ (200 : Int) < (nd : Int) := by omega
 by_cases q3 : nr ≤ 200
 rotate_left
 ·
  have q3I : (200 : Int) < (nr : Int) := by omega
  have HF := Lib.hid (HNO.out (by simp [q3]))
  go_enter Tryz.func33, Tryz.ntmps33
  go_wp2_with fail
  go_ret
  exact ⟨ret_bool HF.out.symm, Gr.alloc _ _⟩
 have q3I : ¬ (200 : Int) < (nr : Int) := by omega
 have HYES := Lib.hid (fun (h1 : s.modes.all okM = true) (h2 : dl.all (fun p => okD p.1) = true) (h3 : rl.all (fun p => ruleC p.1) = true) => (show R = true by rw [HC.out, h1, h2, h3]; simp [q1, q2, q3]))
 have HN1 := Lib.hid (fun (h : s.modes.all okM = false) => HNO.out (by rw [h]; simp))
 have HN2 := Lib.hid (fun (h : dl.all (fun p => okD p.1) = false) => HNO.out (by rw [h]; simp))
 have HN3 := Lib.hid (fun (h : rl.all (fun p => ruleC p.1) = false) => HNO.out (by rw [h]; simp))
 clear q1 q2 q3 HNO HC
 go_enter Tryz.func33, Tryz.ntmps33
 go_upto_region 3 with fail
 refine name_world (fun W hW => ?_)
 have xp : boxAt W w.heap.size [.slice pm nm' cm, .slice pd nd cd, .slice pr nr cr] := by rw [hW]; exact boxAt.new_atN _ _ _ rfl rfl
 have hgW : Gr w W := by rw [hW]; exact Gr.alloc _ _
 clear hW
 obtain ⟨sb, hsb⟩ : ∃ b, w.heap.size = b := ⟨_, rfl⟩
 rw [hsb] at xp
 simp only [hsb]
 clear hsb
 clear q1I q2I q3I
 have XP := Lib.hid xp
 have HGW := Lib.hid hgW
 clear xp hgW
 go_wp2_with fail
 go_loopw [3] (fun i wr => ∃ k : Nat, k ≤ nm' ∧ i = .int .i64 (k : Int) ∧ W = wr ∧ Hid ((s.modes.take k).all okM = true)) (fun i _ => nm' - (intOf i).toNat)
 case atStart => exact ⟨0, Nat.zero_le _, rfl, rfl, Lib.hid rfl⟩
 case round =>
  obtain ⟨k, hk, rfl, rfl, HAL⟩ := hrel
  have xp := XP.out
  obtain ⟨c_p0, c_p1, c_p2, m_p0, m_p1, m_p2, l_p⟩ := unb3 xp
  rcases Nat.lt_or_ge k nm' with hkn | hkn
  ·
   have hkI : (k : Int) < (nm' : Int) := by omega
   have HKN := Lib.hid hkn
   obtain ⟨x, hx⟩ : ∃ x, s.modes[k]? = some x := ⟨_, List.getElem?_eq_getElem (by rw [HNM.out]; exact hkn)⟩
   obtain ⟨b2, off, hpm, hbl, hc⟩ := mode_at HM.out hx
   have hok := HMO.out x (List.mem_of_getElem? hx)
   have HST := Lib.hid (all_snoc okM s.modes k x hx)
   have HNA2 := Lib.hid (fun (h : okM x = false) => (show s.modes.all okM = false from List.all_eq_false.2 ⟨x, List.mem_of_getElem? hx, by rw [h]; simp⟩))
   obtain ⟨nm, ow, po⟩ := x
   subst hpm
   have k0 : W.cell? ⟨b2, off + k * 3, none⟩ = some (.string nm) := HGW.out.cell (hc 0 _ rfl)
   have k2 : W.cell? ⟨b2, off + k * 3 + 2, none⟩ = some (.int .i64 po) := HGW.out.cell (hc 2 _ rfl)
   have hbr := Nat.lt_of_lt_of_le hbl HGW.out.size
   have HA := Lib.hid (fun w' => named5_any nm w' hok.1)
   have HP := Lib.hid (fun w' => place5_any po w')
   clear hx hok hk hkn hc hbl
   go_wp2_with fail
   go_at_call 62
   (with_reducible refine (HA.out W).mono ?_); rintro e w1 ⟨rfl, hw1⟩; subst w1
   cases h1 : namedB nm with
   |
    false =>
    have HF := Lib.hid (HN1.out (HNA2.out (by unfold okM; dsimp only; rw [h1]; rfl)))
    go_wp2_with fail
    go_ret
    exact ⟨ret_bool HF.out.symm, HGW.out⟩
   |
    true =>
    have H1 := Lib.hid h1
    clear h1
    go_wp2_with fail
    go_at_call 63
    (with_reducible refine (HP.out _).mono ?_); rintro e w2 ⟨rfl, hw2⟩; subst w2
    cases h2 : placedB po with
    |
     false =>
     have HF := Lib.hid (HN1.out (HNA2.out (by unfold okM; dsimp only; rw [h2, H1.out]; rfl)))
     go_wp2_with fail
     go_ret
     exact ⟨ret_bool HF.out.symm, HGW.out⟩
    |
     true =>
     have HQ := Lib.hid (show okM ⟨nm, ow, po⟩ = true by unfold okM; dsimp only; rw [h2, H1.out]; rfl)
     clear h2
     go_wp2_with fail
     clear c_p0 c_p1 c_p2 m_p0 m_p1 m_p2 l_p
     clear k0 k2 hbr xp
     go_roundw
     case rel => exact ⟨k + 1, HKN.out, by go_num, by first | rfl | trivial, Lib.hid (by rw [HST.out, HAL.out, HQ.out]; rfl)⟩
     case measure => have := HKN.out; simp [intOf]; omega
  ·
   have hkl : ¬ (k : Int) < (nm' : Int) := by omega
   have HM1 := Lib.hid (show s.modes.all okM = true by have := HAL.out; rw [List.take_of_length_le (by have := HNM.out; omega)] at this; exact this)
   clear hk hkn HAL
   go_wp2_with fail
   clear c_p0 c_p1 c_p2 m_p0 m_p1 m_p2 l_p
   clear xp
   go_loopw [4] (fun i wr => ∃ k : Nat, k ≤ nd ∧ i = .int .i64 (k : Int) ∧ Gr W wr ∧ Hid ((dl.take k).all (fun p => okD p.1) = true)) (fun i _ => nd - (intOf i).toNat)
   case atStart => exact ⟨0, Nat.zero_le _, rfl, Gr.refl _, Lib.hid rfl⟩
   case round =>
    obtain ⟨k, hk, rfl, hgr, HAL⟩ := hrel
    have xp := XP.out.later hgr
    obtain ⟨c_p0, c_p1, c_p2, m_p0, m_p1, m_p2, l_p⟩ := unb3 xp
    rcases Nat.lt_or_ge k nd with hkn | hkn
    ·
     have hkI : (k : Int) < (nd : Int) := by omega
     have HKN := Lib.hid hkn
     obtain ⟨⟨d, cs⟩, hx⟩ : ∃ x, dl[k]? = some x := ⟨_, List.getElem?_eq_getElem (by rw [HND.out]; exact hkn)⟩
     have hg : Gr w wr := HGW.out.trans hgr
     obtain ⟨b2, off, hpm, hbl, hc⟩ := elem_at HD.out (fun x hx => (HDI.out x hx).len) rfl hx
     have hok := HDI.out _ (List.mem_of_getElem? hx)
     have HST := Lib.hid (all_snoc (fun p : Df × List Value => okD p.1) dl k _ hx)
     have HNA2 := Lib.hid (fun (h : okD d = false) => (show dl.all (fun p => okD p.1) = false from List.all_eq_false.2 ⟨_, List.mem_of_getElem? hx, by dsimp only; rw [h]; simp⟩))
     dsimp only at hok hc HST
     cases hok with
     | mk ec hee hnn hpp =>
     obtain ⟨nm, po, ex⟩ := d
     dsimp only at hee hnn hpp hc
     obtain ⟨op, ps, s1, tx, mn, mx, p1, n1, c1, rfl⟩ := hee.formN
     subst hpm
     have k0 : wr.cell? ⟨b2, off + k * 12, none⟩ = some (.string nm) := hg.cell (hc 0 _ rfl)
     have k1 : wr.cell? ⟨b2, off + k * 12 + 1, none⟩ = some (.int .i64 po) := hg.cell (hc 1 _ rfl)
     have k2 : wr.cell? ⟨b2, off + k * 12 + 2, none⟩ = some (.int .i64 op) := hg.cell (hc 2 _ rfl)
     have k3 : wr.cell? ⟨b2, off + k * 12 + 3, none⟩ = some (.int .i64 ps) := hg.cell (hc 3 _ rfl)
     have k4 : wr.cell? ⟨b2, off + k * 12 + 4, none⟩ = some (.int .u64 (wd s1 0)) := hg.cell (hc 4 _ rfl)
     have k5 : wr.cell? ⟨b2, off + k * 12 + 5, none⟩ = some (.int .u64 (wd s1 1)) := hg.cell (hc 5 _ rfl)
     have k6 : wr.cell? ⟨b2, off + k * 12 + 6, none⟩ = some (.int .u64 (wd s1 2)) := hg.cell (hc 6 _ rfl)
     have k7 : wr.cell? ⟨b2, off + k * 12 + 7, none⟩ = some (.int .u64 (wd s1 3)) := hg.cell (hc 7 _ rfl)
     have k8 : wr.cell? ⟨b2, off + k * 12 + 8, none⟩ = some (.string tx) := hg.cell (hc 8 _ rfl)
     have k9 : wr.cell? ⟨b2, off + k * 12 + 9, none⟩ = some (.int .i64 mn) := hg.cell (hc 9 _ rfl)
     have k10 : wr.cell? ⟨b2, off + k * 12 + 10, none⟩ = some (.int .i64 mx) := hg.cell (hc 10 _ rfl)
     have k11 : wr.cell? ⟨b2, off + k * 12 + 11, none⟩ = some (.slice p1 n1 c1) := hg.cell (hc 11 _ rfl)
     have hbr := Nat.lt_of_lt_of_le hbl hg.size
     have HA := Lib.hid (fun w' => named5_any nm w' hnn)
     have HP := Lib.hid (fun w' => place5_any po w')
     have HY := Lib.hid (may5_any _ ex (Nat.le_refl _) _ wr 1 2000 (hee.later hg) (by omega) (by omega))
     have HG := Lib.hid hg
     unfold exCells at HY
     try dsimp only at HY
     clear hx hnn hpp hee hk hkn hc hbl hg
     go_wp2_with fail
     go_at_call 62
     (with_reducible refine (HA.out wr).mono ?_); rintro e w1 ⟨rfl, hw1⟩; subst w1
     cases h1 : namedB nm with
     |
      false =>
      have HF := Lib.hid (HN2.out (HNA2.out (by unfold okD; dsimp only; rw [h1]; rfl)))
      go_wp2_with fail
      go_ret
      exact ⟨ret_bool HF.out.symm, HG.out⟩
     |
      true =>
      have H1 := Lib.hid h1
      clear h1
      go_wp2_with fail
      go_at_call 63
      (with_reducible refine (HP.out _).mono ?_); rintro e w2 ⟨rfl, hw2⟩; subst w2
      cases h2 : placedB po with
      |
       false =>
       have HF := Lib.hid (HN2.out (HNA2.out (by unfold okD; dsimp only; rw [h2, H1.out]; rfl)))
       go_wp2_with fail
       go_ret
       exact ⟨ret_bool HF.out.symm, HG.out⟩
      |
       true =>
       have H2 := Lib.hid h2
       clear h2
       obtain ⟨q, hq⟩ : ∃ q, mayE 1 ex = q := ⟨_, rfl⟩
       rw [hq] at HY
       have HQ := Lib.hid (show okD ⟨nm, po, ex⟩ = q by unfold okD; dsimp only; rw [H2.out, H1.out, hq]; rfl)
       rw [HQ.out] at HST HNA2
       clear hq HQ
       go_wp2_with fail
       go_at_call 64
       (with_reducible refine HY.out.mono ?_); rintro e w3 ⟨rfl, hb3⟩
       replace hgr := hgr.trans hb3
       clear c_p0 c_p1 c_p2 m_p0 m_p1 m_p2 l_p
       clear k0 k1 k2 k3 k4 k5 k6 k7 k8 k9 k10 k11 hbr xp hb3
       cases q with
       |
        true =>
        go_wp2_with fail
        go_roundw
        case rel => exact ⟨k + 1, HKN.out, by go_num, hgr, Lib.hid (by rw [HST.out, HAL.out]; rfl)⟩
        case measure => have := HKN.out; simp [intOf]; omega
       |
        false =>
        have HF := Lib.hid (HN2.out (HNA2.out rfl))
        go_wp2_with fail
        go_ret
        exact ⟨ret_bool HF.out.symm, HGW.out.trans hgr⟩
    ·
     have hkl : ¬ (k : Int) < (nd : Int) := by omega
     have HM2 := Lib.hid (show dl.all (fun p => okD p.1) = true by have := HAL.out; rw [List.take_of_length_le (by have := HND.out; omega)] at this; exact this)
     clear hk hkn HAL
     go_wp2_with fail
     clear c_p0 c_p1 c_p2 m_p0 m_p1 m_p2 l_p
     clear xp
     have HG0 := Lib.hid hgr
     clear hgr
     go_loopw [5] (fun i wz => ∃ k : Nat, k ≤ nr ∧ i = .int .i64 (k : Int) ∧ Gr W wz ∧ Hid ((rl.take k).all (fun p => ruleC p.1) = true)) (fun i _ => nr - (intOf i).toNat)
     case atStart => exact ⟨0, Nat.zero_le _, rfl, HG0.out, Lib.hid rfl⟩
     case round =>
      clear HG0
      obtain ⟨k, hk, rfl, hgr, HAL⟩ := hrel
      have xp := XP.out.later hgr
      obtain ⟨c_p0, c_p1, c_p2, m_p0, m_p1, m_p2, l_p⟩ := unb3 xp
      rcases Nat.lt_or_ge k nr with hkn | hkn
      ·
       have hkI : (k : Int) < (nr : Int) := by omega
       have HKN := Lib.hid hkn
       obtain ⟨⟨r, cs⟩, hx⟩ : ∃ x, rl[k]? = some x := ⟨_, List.getElem?_eq_getElem (by rw [HNR.out]; exact hkn)⟩
       have hg : Gr w wr := HGW.out.trans hgr
       obtain ⟨b2, off, hpm, hbl, hc⟩ := elem_at HR.out (fun x hx => (HRI.out x hx).len) rfl hx
       have hok := HRI.out _ (List.mem_of_getElem? hx)
       have HST := Lib.hid (all_snoc (fun p : Rl × List Value => ruleC p.1) rl k _ hx)
       have HNA2 := Lib.hid (fun (h : ruleC r = false) => (show rl.all (fun p => ruleC p.1) = false from List.all_eq_false.2 ⟨_, List.mem_of_getElem? hx, by dsimp only; rw [h]; simp⟩))
       dsimp only at hok hc HST
       have HY := Lib.hid (mayRule5_any r cs wr (hok.later hg))
       obtain ⟨po, al, pum, num, cum, op, ps, s1, tx, mn, mx, p1, n1, c1, ht, op2, ps2, s2, tx2, mn2, mx2, p2, n2, c2, lb, pua, nua, cua, rfl⟩ := hok.form
       subst hpm
       have HCELL := Lib.hid (fun t u (h : ([.int .i64 po, .bool al, .slice pum num cum, .int .i64 op, .int .i64 ps, .int .u64 (wd s1 0), .int .u64 (wd s1 1), .int .u64 (wd s1 2), .int .u64 (wd s1 3), .string tx, .int .i64 mn, .int .i64 mx, .slice p1 n1 c1, .bool ht, .int .i64 op2, .int .i64 ps2, .int .u64 (wd s2 0), .int .u64 (wd s2 1), .int .u64 (wd s2 2), .int .u64 (wd s2 3), .string tx2, .int .i64 mn2, .int .i64 mx2, .slice p2 n2 c2, .string lb, .slice pua nua cua] : List Value)[t]? = some u) => hg.cell (hc t u h))
       have hbr := Nat.lt_of_lt_of_le hbl hg.size
       try dsimp only at HY
       obtain ⟨q, hq⟩ : ∃ q, ruleC r = q := ⟨_, rfl⟩
       rw [hq] at HY HST HNA2
       clear hx hok hk hkn hc hbl hg hq
       go_wp2_with ((with_reducible refine wpList_plain ?_ (fun _ hK => ?_)); (focus rfl); refine wp_load_at 71 (.tmp 92) rfl b2 (off + k * 26) rfl [.int .i64 po, .bool al, .slice pum num cum, .int .i64 op, .int .i64 ps, .int .u64 (wd s1 0), .int .u64 (wd s1 1), .int .u64 (wd s1 2), .int .u64 (wd s1 3), .string tx, .int .i64 mn, .int .i64 mx, .slice p1 n1 c1, .bool ht, .int .i64 op2, .int .i64 ps2, .int .u64 (wd s2 0), .int .u64 (wd s2 1), .int .u64 (wd s2 2), .int .u64 (wd s2 3), .string tx2, .int .i64 mn2, .int .i64 mx2, .slice p2 n2 c2, .string lb, .slice pua nua cua] _ HCELL.out Tryz.underlying71 rfl (by kernel_rfl) (hK _ _ ?_))
       go_at_call 65
       (with_reducible refine HY.out.mono ?_); rintro e w3 ⟨rfl, hb3⟩
       replace hgr := hgr.trans hb3
       clear c_p0 c_p1 c_p2 m_p0 m_p1 m_p2 l_p
       clear hbr xp hb3
       cases q with
       |
        true =>
        go_wp2_with fail
        go_roundw
        case rel => exact ⟨k + 1, HKN.out, by go_num, hgr, Lib.hid (by rw [HST.out, HAL.out]; rfl)⟩
        case measure => have := HKN.out; simp [intOf]; omega
       |
        false =>
        have HF := Lib.hid (HN3.out (HNA2.out rfl))
        go_wp2_with fail
        go_ret
        exact ⟨ret_bool HF.out.symm, HGW.out.trans hgr⟩
      ·
       have hkl : ¬ (k : Int) < (nr : Int) := by omega
       have HM3 := Lib.hid (show rl.all (fun p => ruleC p.1) = true by have := HAL.out; rw [List.take_of_length_le (by have := HNR.out; omega)] at this; exact this)
       have HF := Lib.hid (HYES.out HM1.out HM2.out HM3.out)
       clear hk hkn HAL
       go_wp2_with fail
       go_ret
       exact ⟨ret_bool HF.out.symm, HGW.out.trans hgr⟩
end Go.Proofs.YtkkopdmemjncdaaGreatDoor
