/- Texts of mine, put together: N6F. No condition but what each says. -/
import Derived.Test.YtkkopdmemjncdaaGreatDoorPN6A
import Derived.Test.YtkkopdmemjncdaaGreatDoorPN6B
import Derived.Test.YtkkopdmemjncdaaGreatDoorPHo
namespace Go.Proofs.YtkkopdmemjncdaaGreatDoor
open Go Go.RowKit Go.Maps
theorem lk_outer6 {U : List (List Nat)} {k m : Nat} {v' u : Value} {vs : List Value} {r : List Nat} (hm : r.length = m) (hr : U[k]? = some r) (hl : vs.length = k) (x : RwE) :
  ((x :: rowsE (U.take k) vs) ++ [(⟨u, 3, 1, m, r.map natV⟩ : RwE)]).set 0 ⟨v', 32, 1, k + 1, vs ++ [u]⟩ = ⟨v', 32, 1, k + 1, vs ++ [u]⟩ :: rowsE (U.take (k + 1)) (vs ++ [u]) := by
 subst hm
 have hkl := (List.getElem?_eq_some_iff.1 hr).1
 rw [take_snoc hr, rowsE_snoc _ _ _ _ (by rw [List.length_take, hl]; omega)]
 rfl
set_option maxRecDepth 100000 in
set_option maxHeartbeats 16000000 in
theorem
    links6_any (s : Sc) (w : World) (vm vd vr : Value) (hs : ScIn w s vm vd vr) (hL : Linked s) (hdl : s.defs.length ≤ 1048576) (hru : ∀ d ∈ s.defs, (refsE d.ex).length ≤ 1048576) :
  Calls Tryz.prog 69 #[scV vm vd vr] w fun e w' => ∃ v, e = .returned v ∧ RowsY w' v (linksN s) ∧ Gr w w' := by
 have HDF := Lib.hid (fun W (hG : Gr w W) x => def6_any s W vm vd vr (hs.later hG) x)
 have HLK := Lib.hid hL
 obtain ⟨i1, ki, ky0, ky1, ky2⟩ := info_parts info_intN
 obtain ⟨i2, ri, ry0, ry1, ry2⟩ := info_parts info_rowN
 obtain ⟨dl, rl, hd, hr, hm', hmo, hmn, hmb, hds, hdi, hdn, hdb, hrs, hri, hrn, hrb⟩ := hs
 obtain ⟨pm, cm, evm⟩ := hm'.len
 obtain ⟨pd, cd, evd⟩ := hds.len
 obtain ⟨pr, cr, evr⟩ := hrs.len
 have hdl2 : dl.length ≤ 1048576 := by rw [← hd, List.length_map] at hdl; exact hdl
 obtain ⟨nm, hnm⟩ : ∃ n, s.modes.length = n := ⟨_, rfl⟩
 obtain ⟨nr, hnr⟩ : ∃ n, rl.length = n := ⟨_, rfl⟩
 obtain ⟨n, hn⟩ : ∃ n, dl.length = n := ⟨_, rfl⟩
 have HLS := Lib.hid (show s.defs.length = n by rw [← hd, List.length_map]; exact hn)
 have HLD := Lib.hid (show (defsN s).length = n by unfold defsN; rw [List.length_map]; exact HLS.out)
 have HLU := Lib.hid (show (linksN s).length = n from (linksN_len s).trans HLS.out)
 rw [hn] at evd hdl2 hds
 rw [hnm] at evm
 rw [hnr] at evr
 have HD := Lib.hid hds
 have HDI := Lib.hid hdi
 have HHD := Lib.hid hd
 have HN := Lib.hid hn
 have HRU := Lib.hid hru
 have HNB := Lib.hid hdl2
 have hnI : (n : Int) ≤ 1048576 := by omega
 subst evm evd evr
 clear hd hr hm' hmo hmn hmb hds hdi hdn hdb hrs hri hrn hrb hdl hdl2 hn hru hnm hnr hL
 unfold scV at HDF ⊢
 go_enter Tryz.func69, Tryz.ntmps69
 go_upto_block 0 with fail
 refine name_world (fun W hW => ?_)
 have xp : boxAt W w.heap.size [.slice pm nm cm, .slice pd n cd, .slice pr nr cr] := by rw [hW]; exact boxAt.new_atN _ _ _ rfl rfl
 have hgW : Gr w W := by rw [hW]; exact Gr.alloc _ _
 have HR0 := Lib.hid (((Reg.start w).addBox hgW xp (by simp) (Nat.le_refl _)).push 32 1)
 obtain ⟨sb, hsb⟩ : ∃ b, w.heap.size = b := ⟨_, rfl⟩
 rw [hsb] at HR0
 simp only [hsb]
 clear hW xp hgW hsb
 go_wp2_with fail
 go_loopw [3, 4] (fun vl i wz => ∃ k : Nat, k ≤ n ∧ i = .int .i64 (k : Int) ∧ (∃ vs : List Value, vs.length = k ∧ Hid (Reg w [(sb, [.slice pm nm cm, .slice pd n cd, .slice pr nr cr])] (⟨vl, 32, 1, k, vs⟩ :: rowsE ((linksN s).take k) vs) wz))) (fun _ i _ => n - (intOf i).toNat)
 case atStart => exact ⟨0, Nat.zero_le _, rfl, ⟨[], rfl, by simpa [rowsE] using HR0⟩⟩
 case round =>
  clear HR0
  obtain ⟨k, hk, rfl, ⟨vs, hvs, HRG⟩⟩ := hrel
  have HVS := Lib.hid hvs
  have xp := (HRG.out.box _ (List.mem_singleton.2 rfl)).1
  dsimp only at xp
  have hrow := HRG.out.row (List.Mem.head _)
  dsimp only at hrow
  obtain ⟨pl, cl, rfl⟩ := (Sl.of_owns hrow).len
  clear hrow hvs
  obtain ⟨c_p0, c_p1, c_p2, m_p0, m_p1, m_p2, l_p⟩ := unb3 xp
  rcases Nat.lt_or_ge k n with hkn | hkn
  ·
   have hkI : (k : Int) < (n : Int) := by omega
   have HKN := Lib.hid hkn
   obtain ⟨⟨d, cs⟩, hx⟩ : ∃ x, dl[k]? = some x := ⟨_, List.getElem?_eq_getElem (by rw [HN.out]; exact hkn)⟩
   have hg : Gr w wr := HRG.out.gr
   obtain ⟨b2, off, hpm, hbl, hc⟩ := elem_at HD.out (fun x hx => (HDI.out x hx).len) HN.out hx
   have hok := HDI.out _ (List.mem_of_getElem? hx)
   have hsd : s.defs[k]? = some d := by rw [← HHD.out, List.getElem?_map, hx]; rfl
   dsimp only at hok hc
   cases hok with
   | mk ec hee hnn hpp =>
   have hT := HRU.out d (List.mem_of_getElem? hsd)
   have HUK := Lib.hid (linksN_get hsd)
   have HMD := Lib.hid (List.mem_of_getElem? hsd)
   have HUL := Lib.hid (show (usesN d.ex).length ≤ 1048576 from Nat.le_trans (by rw [usesN_eq]; exact usesL_len _) hT)
   obtain ⟨nmd, po, ex⟩ := d
   dsimp only at hee hnn hpp hc hT HUK HUL
   obtain ⟨op, ps, s1, tx, mn, mx, p1, n1, c1, rfl⟩ := hee.formN
   subst hpm
   have k0 : wr.cell? ⟨b2, off + k * 12, none⟩ = some (.string nmd) := hg.cell (hc 0 _ rfl)
   have k1 : wr.cell? ⟨b2, off + k * 12 + 1, none⟩ = some (.int .i64 po) := hg.cell (hc 1 _ rfl)
   have k2 : wr.cell? ⟨b2, off + k * 12 + 2, none⟩ = some (.int .i64 op) := hg.cell (hc 2 _ rfl)
   have k3 : wr.cell? ⟨b2, off + k * 12 + 3, none⟩ = some (.int .i64 ps) := hg.cell (hc 3 _ rfl)
   have k4 : wr.cell? ⟨b2, off + k * 12 + 4, none⟩ = some (.int .u64 (wd s1 0)) := hg.cell (hc 4 _ rfl)
   have k5 : wr.cell? ⟨b2, off + k * 12 + 5, none⟩ = some (.int .u64 (wd s1 1)) := hg.cell (hc 5 _ rfl)
   have k6 : wr.cell? ⟨b2, off + k * 12 + 6, none⟩ = some (.int .u64 (wd s1 2)) := hg.cell (hc 6 _ rfl)
   have k7 : wr.cell? ⟨b2, off + k * 12 + 7, none⟩ = some (.int .u64 (wd s1 3)) := hg.cell (hc 7 _ rfl)
   have k8 : wr.cell? ⟨b2, off + k * 12 + 8, none⟩ = some (.string tx) := hg.cell (hc 8 _ rfl)
   have k9 : wr.cell? ⟨b2, off + k * 12 + 9, none⟩ = some (.int .i64 mn) := hg.cell (hc 9 _ rfl)
   have k10 : wr.cell? ⟨b2, off + k * 12 + 10, none⟩ = some (.int .i64 mx) := hg.cell (hc 10 _ rfl)
   have k11 : wr.cell? ⟨b2, off + k * 12 + 11, none⟩ = some (.slice p1 n1 c1) := hg.cell (hc 11 _ rfl)
   have hbr := Nat.lt_of_lt_of_le hbl hg.size
   have HCU := Lib.hid (fun W (hG : Gr wr W) => uses6r_any ex _ W (hee.later (hg.trans hG)) hT)
   unfold exCells at HCU
   try dsimp only at HCU
   clear hx hk hkn hc hee hnn hpp hsd hT hbl hg
   go_wp2_with fail
   go_at_call 19
   refine name_calls (fun W1 hW1 => ?_)
   have hb1 : Gr wr W1 := by rw [hW1]; first | exact Gr.refl _ | exact Gr.alloc _ _
   clear hW1
   (with_reducible refine (HCU.out W1 hb1).mono ?_); rintro e w2 ⟨nv, rfl, hnv, hg2⟩
   obtain ⟨pn, cn, rfl⟩ := (Sl.of_owns hnv).len
   obtain ⟨NM, hNM⟩ : ∃ N, usesN ex = N := ⟨_, rfl⟩
   rw [hNM] at hnv HUK HUL ⊢
   have HNM := Lib.hid hNM
   obtain ⟨mN, hmN⟩ : ∃ m, NM.length = m := ⟨_, rfl⟩
   rw [hmN] at hnv HUL ⊢
   have HMN := Lib.hid hmN
   have hmI : (mN : Int) ≤ 1048576 := by have := HUL.out; omega
   have HR2 := Lib.hid (((HRG.out.later hb1).fresh hg2 hnv).push 3 1)
   obtain ⟨LB, hLB⟩ : ∃ L : List RwE, (⟨.slice pl k cl, 32, 1, k, vs⟩ :: rowsE ((linksN s).take k) vs) = L := ⟨_, rfl⟩
   rw [hLB] at HR2
   have HLB := Lib.hid hLB
   clear c_p0 c_p1 c_p2 m_p0 m_p1 m_p2 l_p
   clear xp hb1 hg2 hnv hNM hmN hLB HRG HCU
   go_wp2_with fail
   go_loopw [5, 7] (fun lv i wr => ∃ j : Nat, j ≤ mN ∧ i = .int .i64 (j : Int) ∧ Hid (Reg w [(sb, [.slice pm nm cm, .slice (some ⟨b2, off, none⟩) n cd, .slice pr nr cr])] (LB ++ [⟨.slice pn mN cn, 9, 1, mN, NM.map .string⟩] ++ [⟨lv, 3, 1, j, ((NM.map (noOf (defsN s))).take j).map natV⟩]) wr)) (fun _ i _ => mN - (intOf i).toNat)
   case atStart => exact ⟨0, Nat.zero_le _, rfl, by simpa using HR2⟩
   case round =>
    clear HR2
    obtain ⟨j, hj, rfl, HRJ⟩ := hrel
    have hlast := HRJ.out.row (List.mem_append_right _ (List.mem_singleton.2 rfl))
    dsimp only at hlast
    obtain ⟨pl2, cl2, rfl⟩ := (Sl.of_owns hlast).len
    clear hlast
    rcases Nat.lt_or_ge j mN with hjn | hjn
    ·
     have hjI : (j : Int) < (mN : Int) := by omega
     have HJN := Lib.hid hjn
     obtain ⟨nmx, hx⟩ : ∃ x, NM[j]? = some x := ⟨_, List.getElem?_eq_getElem (by rw [HMN.out]; exact hjn)⟩
     have hon := HRJ.out.row (r := ⟨.slice pn mN cn, 9, 1, mN, NM.map .string⟩) (by simp)
     dsimp only at hon
     obtain ⟨gn, capn, hvn, _, hgn, _⟩ := owns_block hon (by omega)
     injection hvn with e1 _ e3
     subst e1 e3
     have kn := owns_cell hon j (.string nmx) (by rw [List.getElem?_map, hx]; rfl)
     have xp := (HRJ.out.box _ (List.mem_singleton.2 rfl)).1
     dsimp only at xp
     have HROW := Lib.hid (HRJ.out.row (r := ⟨.slice pl2 j cl2, 3, 1, j, ((NM.map (noOf (defsN s))).take j).map natV⟩) (by simp))
     try dsimp only at HROW
     have hmx := HLK.out.uses _ HMD.out nmx (by rw [HNM.out]; exact List.mem_of_getElem? hx)
     have HAI := Lib.hid (atI_some (memN_iff.2 hmx))
     have HNX := Lib.hid (show (NM.map (noOf (defsN s)))[j]? = some (noOf (defsN s) nmx) by rw [List.getElem?_map, hx]; rfl)
     have HD1 := Lib.hid (fun W (hG : Gr wr W) => HDF.out W (HRJ.out.gr.trans hG) nmx)
     obtain ⟨c, hcc⟩ : ∃ c, noOf (defsN s) nmx = c := ⟨_, rfl⟩
     rw [hcc] at HAI HNX
     rw [HAI.out] at HD1
     obtain ⟨XS, hXS⟩ : ∃ X : List Value, ((NM.map (noOf (defsN s))).take j).map natV = X := ⟨_, rfl⟩
     rw [hXS] at HROW
     have HXS := Lib.hid hXS
     have HNR := Lib.hid (show (Value.slice pl2 j cl2).ownBlock ≠ some sb ∧ (Value.slice pl2 j cl2).ownBlock ≠ some gn from ⟨fun e => HRJ.out.rws.out ⟨.slice pl2 j cl2, 3, 1, j, ((NM.map (noOf (defsN s))).take j).map natV⟩ (by simp) sb e (by simp), fun e => by
      have h1 := HRJ.out.rws.apart
      rw [List.pairwise_append] at h1
      exact h1.2.2 ⟨.slice (some ⟨gn, 0, none⟩) mN cn, 9, 1, mN, NM.map .string⟩ (by simp) ⟨.slice pl2 j cl2, 3, 1, j, ((NM.map (noOf (defsN s))).take j).map natV⟩ (by simp) gn rfl e⟩)
     have HKN2 := Lib.hid kn
     have HGN := Lib.hid hgn
     clear hx hj hjn hon hXS hmx hcc
     obtain ⟨c_p0, c_p1, c_p2, m_p0, m_p1, m_p2, l_p⟩ := unb3 xp
     go_upto_region 10 with fail
     refine wp_region_S (fun w' => boxAt w' sb [.slice pm nm cm, .slice (some ⟨b2, off, none⟩) n cd, .slice pr nr cr] ∧ w'.cell? ⟨gn, j, none⟩ = some (.string nmx) ∧ gn < w'.heap.size) (.take 0 (.take 1 (.take 2 (.take 3 (.take 4 (.take 5 (.run 6 false (.run 7 false (.run 8 false (.run 9 true .nil)))))))))) ⟨xp.later (Gr.drew _), (Gr.drew _).cell kn, Nat.lt_of_lt_of_le hgn (Gr.drew _).size⟩ (by kernel_rfl) (by kernel_rfl) ?_
     simp only [pickOps, nthOp]
     intro wq hN hG
     repeat (first | (refine wpG_skip_take ?_ ?_; (focus rfl); try simp only [Act.put, List.setIfInBounds_toArray, List.set_cons_zero, List.set_cons_succ]) | (refine wpG_skip_run ?_ ?_; (focus rfl); try simp only [Act.put, List.setIfInBounds_toArray, List.set_cons_zero, List.set_cons_succ]) | (refine wpG_take ?_ ?_; (focus rfl); apply Exists.intro; refine ⟨fun w' hw' => ?_, ?_⟩; (focus (have q0 := hw'.1.cell 0 _ rfl; have q1 := hw'.1.cell 1 _ rfl; have q2 := hw'.1.cell 2 _ rfl; have qk := hw'.2.1; have ql := hw'.2.2; have qs := hw'.1.lt (Nat.succ_pos _); go_simp; (try rfl); done)); try simp only [Act.put, List.setIfInBounds_toArray, List.set_cons_zero, List.set_cons_succ]))
     clear hG
     refine wpG_run ?_ (fun K hK => ?_); (focus rfl)
     go_simp
     go_at_call 67
     (with_reducible refine (HD1.out _ hN).mono ?_); rintro e' w7 ⟨rfl, hb⟩
     try dsimp only
     have hN7 := hN.trans hb
     refine hK.out _ _ ⟨xp.later hN7, hN7.cell HKN2.out, Nat.lt_of_lt_of_le HGN.out hN7.size⟩ ?_
     clear hK K hb
     try simp only [Act.put, List.setIfInBounds_toArray, List.set_cons_zero, List.set_cons_succ]
     refine wpG_run rfl (fun K hK => ?_)
     go_simp
     refine name_K (fun W8 hW8 => ?_)
     have h78 : Gr w7 W8 := by rw [hW8]; exact Gr.alloc _ _
     have hc8 : ∀ (j : Nat) (u : Value), ([.int .i64 (c : Int)] : List Value)[j]? = some u → W8.cell? ((⟨w7.heap.size, 0, none⟩ : Addr).add j) = some u := by rw [hW8]; exact new_cells _ _ _
     clear hW8
     have hN8 := hN7.trans h78
     refine hK.out _ _ ⟨xp.later hN8, hN8.cell HKN2.out, Nat.lt_of_lt_of_le HGN.out hN8.size⟩ ?_
     clear hK K
     try simp only [Act.put, List.setIfInBounds_toArray, List.set_cons_zero, List.set_cons_succ]
     refine wpG_run rfl (fun K hK => ?_)
     refine wp_append_own_at _ (.tmp 28) (.tmp 35) 32 rfl w.heap.size 3 i1 _ 1 8 Tryz.underlying32 ki ky0 ky1 ky2 rfl (by decide) (.slice pl2 j cl2) j XS rfl (owns_later HROW.out hN8) ⟨w7.heap.size, 0, none⟩ 1 1 [.int .i64 (c : Int)] rfl rfl hc8 ?c1 ?c2 ?c3 ?c4 ?_
     case c1 => intro u hu; simp at hu; subst hu; rfl
     case c2 => have := HJN.out; have := HUL.out; unfold maxLen; omega
     case c3 => have := HJN.out; have := HUL.out; omega
     case c4 => exact Nat.le_trans HRJ.out.kp.size hN8.size
     intro v' w4 hown4 hg4 _ hloc
     obtain ⟨p4, c4', rfl⟩ := (Sl.of_owns hown4).len
     refine hK.out _ _ ⟨(xp.later hN8).grown hg4 (by simp) HNR.out.1, hg4.cell (hN8.cell HKN2.out) (fun e => HNR.out.2 e.symm), Nat.lt_of_lt_of_le HGN.out (Nat.le_trans hN8.size hg4.size)⟩ ?_
     clear hK K
     try simp only [Act.put, List.setIfInBounds_toArray, List.set_cons_zero, List.set_cons_succ]
     refine wpG_last ?_ (fun K hK => ?_); (focus rfl)
     go_simp
     refine hK.out _ _ ?_
     try simp only [Act.put, List.setIfInBounds_toArray, List.set_cons_zero, List.set_cons_succ]
     clear hK K
     refine wpG_done ?_
     have HRK := Lib.hid ((HRJ.out.later hN8).growLast hg4 hown4 hloc)
     clear c_p0 c_p1 c_p2 m_p0 m_p1 m_p2 l_p
     clear hown4 hg4 hloc hc8 hN hN7 hN8 h78 xp kn hgn
     go_wp2_with fail
     go_roundw
     case rel => exact ⟨j + 1, HJN.out, by go_num, Lib.hid (by
      rw [take_snoc HNX.out, List.map_append, HXS.out]
      exact HRK.out)⟩
     case measure => have := HJN.out; simp [intOf]; omega
    ·
     have hjI : ¬ (j : Int) < (mN : Int) := by omega
     have hje : mN = j := by omega
     subst hje
     have HRJ2 := Lib.hid (HRJ.out.sub (M := LB ++ [⟨.slice pl2 mN cl2, 3, 1, mN, ((NM.map (noOf (defsN s))).take mN).map natV⟩]) (by rw [List.append_assoc]; exact (List.Sublist.refl _).append (List.sublist_cons_self _ _)))
     rw [List.take_of_length_le (i := mN) (l := NM.map (noOf (defsN s))) (by rw [List.length_map, HMN.out]; exact Nat.le_refl _), ← HLB.out] at HRJ2
     have HROW := Lib.hid (HRJ2.out.row (r := ⟨.slice pl k cl, 32, 1, k, vs⟩) (by simp))
     try dsimp only at HROW
     clear hj hjn HRJ HLB
     go_wp2_with (at_builtin; refine wpList_append_own_at _ rfl (.tmp 37) (.tmp 39) 31 rfl w.heap.size 32 i2 (.slice none 0 0) 1 24 Tryz.underlying31 ri ry0 ry1 ry2 rfl (by decide) _ k vs rfl (HROW.out.alloc _) ⟨wr.heap.size, 0, none⟩ 1 1 [.slice pl2 mN cl2] rfl rfl (new_cells _ _ _) (by intro u hu; simp at hu; subst hu; rfl) (by have := HKN.out; have := HNB.out; unfold maxLen; omega) (by have := HKN.out; have := HNB.out; omega) (Nat.le_trans HRJ2.out.kp.size (Gr.alloc _ _).size) ?_; intro v' w4 hown4 hg4 _ hloc; obtain ⟨p4, c4', rfl⟩ := (Sl.of_owns hown4).len; have HOW4 := Lib.hid hown4; have HG4 := Lib.hid hg4; have HLOC := Lib.hid hloc; clear hown4 hg4 hloc)
     go_roundw
     case rel => exact ⟨k + 1, HKN.out, by go_num, ⟨vs ++ [.slice pl2 mN cl2], by rw [List.length_append, HVS.out]; rfl, Lib.hid (by
      have h5 := (HRJ2.out.later (Gr.alloc wr (.cells #[.slice pl2 mN cl2] 32))).grow (i := 0) rfl HG4.out HOW4.out HLOC.out
      rw [lk_outer6 (by rw [List.length_map]; exact HMN.out) HUK.out HVS.out] at h5
      exact h5)⟩⟩
     case measure => have := HKN.out; simp [intOf]; omega
  ·
   have hkI : ¬ (k : Int) < (n : Int) := by omega
   have hke : n = k := by omega
   subst hke
   have HTU := Lib.hid (show (linksN s).take n = linksN s from List.take_of_length_le (by rw [HLU.out]; exact Nat.le_refl _))
   rw [HTU.out] at HRG
   have HRW := Lib.hid (RowsY.mk (w := wr) (v := .slice pl n cl) (U := linksN s) ⟨vs, by rw [HVS.out, HLU.out], by
    rw [HLU.out]
    exact Sl.of_owns (HRG.out.rws.own ⟨.slice pl n cl, 32, 1, n, vs⟩ (by simp)), fun i r hi => by
    obtain ⟨u, h1, h2⟩ := rowsE_get (linksN s) vs i r (by rw [HVS.out, HLU.out]) hi
    exact ⟨u, h1, Sl.of_owns (HRG.out.rws.own _ (List.mem_cons_of_mem _ h2)), nily_own (HRG.out.rws.own _ (List.mem_cons_of_mem _ h2))⟩⟩)
   clear hk hkn
   go_wp2_with fail
   go_ret
   exact ⟨_, rfl, HRW.out, HRG.out.gr⟩
end Go.Proofs.YtkkopdmemjncdaaGreatDoor
