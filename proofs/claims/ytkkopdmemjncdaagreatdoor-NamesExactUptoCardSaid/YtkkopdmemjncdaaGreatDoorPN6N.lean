/- Texts of mine, put together: N6N. No condition but what each says. -/
import Derived.Test.YtkkopdmemjncdaaGreatDoorPN6I
namespace Go.Proofs.YtkkopdmemjncdaaGreatDoor
open Go Go.RowKit Go.Maps
theorem name_K6 {K : Act → World → Prop} {a : Act} {w0 : World} (h : ∀ W, W = w0 → K a W) : K a w0 := h _ rfl
theorem owns_low9 {w : World} {B B' e n k : Nat} {v : Value} {xs : List Value} (h : w.ownsRow B e k v n xs) (hB : B' ≤ B) : w.ownsRow B' e k v n xs := by
 obtain ⟨h1, h2 | ⟨g, cap, cur, hv, hg, h3⟩⟩ := h
 · exact ⟨h1, .inl h2⟩
 · exact ⟨h1, .inr ⟨g, cap, cur, hv, Nat.le_trans hB hg, h3⟩⟩
def actF (s : Sc) (m j : Nat) : List Nat := (List.range j).filter fun i => match s.rules[i]? with
 | some r => activeB s m (ownM s m) r
 | none => false
theorem actF_snoc (s : Sc) (m j : Nat) (r : Rl) (h : s.rules[j]? = some r) : actF s m (j + 1) = actF s m j ++ (if activeB s m (ownM s m) r = true then [j] else []) := by
 unfold actF
 rw [List.range_succ, List.filter_append, List.filter_cons, h, List.filter_nil]
theorem actF_le (s : Sc) (m j : Nat) : (actF s m j).length ≤ j := by
 unfold actF
 have := List.length_filter_le (fun i => match s.rules[i]? with | some r => activeB s m (ownM s m) r | none => false) (List.range j)
 rw [List.length_range] at this
 exact this
structure Nine (W6 wx : World) (nb : Nat) (n1 n2 : Nat) (l1 l2 : List Value) (vm vo : Value) : Prop where
 box : boxAt wx nb [vm, .slice none 0 0, vo, .slice none 0 0]
 m : ∃ e, wx.ownsRow W6.heap.size e 1 vm n1 l1
 o : ∃ e, wx.ownsRow W6.heap.size e 1 vo n2 l2
 mn : ∀ g, vm.ownBlock = some g → g ≠ nb
 on : ∀ g, vo.ownBlock = some g → g ≠ nb
 mi : Nily vm
 oi : Nily vo
 lo : W6.heap.size ≤ nb
 gr : Gr W6 wx
theorem Nine.of {W6 wz : World} {nb n1 n2 e1 e2 : Nat} {l1 l2 : List Value} {vm vo : Value} (hG : Gr W6 wz) (xb : boxAt wz nb [.slice none 0 0, .slice none 0 0, .slice none 0 0, .slice none 0 0]) (hb : W6.heap.size ≤ nb) (hm : wz.ownsRow W6.heap.size e1 1 vm n1 l1) (ho : wz.ownsRow W6.heap.size e2 1 vo n2 l2)
  (nm : ∀ g, vm.ownBlock = some g → g ≠ nb) (no : ∀ g, vo.ownBlock = some g → g ≠ nb) : Nine W6 ((((wz.setCell ⟨nb, 0, none⟩ vm).setCell ⟨nb, 1, none⟩ (.slice none 0 0)).setCell ⟨nb, 2, none⟩ vo).setCell ⟨nb, 3, none⟩ (.slice none 0 0)) nb n1 n2 l1 l2 vm vo := by
 have hk : ∀ g, g ≠ nb → ((((wz.setCell ⟨nb, 0, none⟩ vm).setCell ⟨nb, 1, none⟩ (.slice none 0 0)).setCell ⟨nb, 2, none⟩ vo).setCell ⟨nb, 3, none⟩ (.slice none 0 0)).heap[g]? = wz.heap[g]? := fun g hg => by
  have hx : nb ≠ g := Ne.symm hg
  repeat rw [setCell_far _ _ _ _ hx]
 exact ⟨((((xb.put 0 _ (by simp)).put 1 _ (by simp)).put 2 _ (by simp)).put 3 _ (by simp)), ⟨_, owns_heap hm (fun g hg => hk g (nm g hg))⟩, ⟨_, owns_heap ho (fun g hg => hk g (no g hg))⟩, nm, no, nily_own hm, nily_own ho, hb, (Below.setCell (Below.setCell (Below.setCell (Below.setCell hG hb _) hb _) hb _) hb _)⟩
set_option maxRecDepth 100000 in
set_option maxHeartbeats 32000000 in
theorem
    resolve6_any (
           s
            : Sc) (w : World) (vm vd vr : Value) (hs : ScIn w s vm vd vr) (hru : ∀ d ∈ s.defs, (refsE d.ex).length ≤ 1048576) :
  Calls Tryz.prog 11 #[scV vm vd vr] w fun e w' => Rf6 s w e w' ∧ Gr w w' := by
 obtain ⟨iR, rI, ry0, ry1, ry2⟩ := info_parts info_rowN
 obtain ⟨iT, tI, ty0, ty1, ty2⟩ := info_parts info_stepN
 obtain ⟨iU, uI, uy0, uy1, uy2⟩ := info_parts info_stepsN
 obtain ⟨iI, nI, ny0, ny1, ny2⟩ := info_parts info_intN
 have HMY := Lib.hid (fun W (hG : Gr w W) => maySpec5_any s vm vd vr W (hs.later hG))
 have HWR := Lib.hid (fun (hsp : specC s = true) W (hG : Gr w W) => wrong6_any s W vm vd vr (hs.later hG) (by have := spec_lens hsp; omega) (spec_noTrail hsp))
 have HCY := Lib.hid (fun (hsp : specC s = true) (hL : Linked s) W (hG : Gr w W) => cycle6_any s W vm vd vr (hs.later hG) hL (by have := spec_lens hsp; omega) hru)
 have HMD := Lib.hid (fun (hsp : specC s = true) W (hG : Gr w W) => modes6_any s W vm vd vr (hs.later hG) (by have := spec_lens hsp; omega))
 have HOR := Lib.hid (fun (hsp : specC s = true) (hL : Linked s) (hor : (orderN (linksN s) s.defs.length []).length = s.defs.length) W (hG : Gr w W) => order6_any s W vm vd vr (hs.later hG) hL (by have := spec_lens hsp; omega) hru hor)
 have HAC := Lib.hid (fun W (hG : Gr w W) r cs lv (hl : Sl W lv 1 (modesN s).length ((modesN s).map .string)) (hr : RlIn w r cs) (m : Nat) (hm : m < (modesN s).length) => active6_any s r cs W vm vd vr lv (hs.later hG) hl (hr.later hG) m hm)
 obtain ⟨dl, rl, hd, hr, hm, hmo, hmn, hmb, hds, hdi, hdn, hdb, hrs, hri, hrn, hrb⟩ := hs
 obtain ⟨pm, nm, cm, evm⟩ : ∃ p n c, vm = .slice p n c := by obtain ⟨p, c, h⟩ := hm.len; exact ⟨p, _, c, h⟩
 obtain ⟨pd, nd, cd, evd⟩ : ∃ p n c, vd = .slice p n c := by obtain ⟨p, c, h⟩ := hds.len; exact ⟨p, _, c, h⟩
 obtain ⟨nr, hnr⟩ : ∃ n, rl.length = n := ⟨_, rfl⟩
 obtain ⟨pr, cr, evr⟩ := hrs.len
 rw [hnr] at evr hrs
 have HNR := Lib.hid hnr
 have HR := Lib.hid hrs
 subst evm evd evr
 have HRI := Lib.hid hri
 have HHR := Lib.hid hr
 obtain ⟨sp, hsp⟩ : ∃ b, specC s = b := ⟨_, rfl⟩
 have HSP := Lib.hid hsp
 rw [hsp] at HMY
 unfold scV at HMY HWR HCY HMD HOR HAC ⊢
 clear hnr hd hr hm hmo hmn hmb hds hdi hdn hdb hrs hri hrn hrb hru hsp
 go_enter Tryz.func11, Tryz.ntmps11
 go_upto_region 1 with fail
 refine name_world (fun W1 hW1 => ?_)
 have xs : boxAt W1 w.heap.size [.slice pm nm cm, .slice pd nd cd, .slice pr nr cr] := by rw [hW1]; exact ((boxAt.new_atN _ _ _ rfl rfl).later (Gr.alloc _ _)).later (Gr.alloc _ _)
 have xr : boxAt W1 (w.heap.size + 1) [.slice none 0 0, .slice none 0 0, .slice none 0 0, .slice none 0 0] := by rw [hW1]; exact (boxAt.new_atN _ _ _ rfl (by simp)).later (Gr.alloc _ _)
 have xg : boxAt W1 (w.heap.size + 1 + 1) [.int .i64 0, .int .i64 0, .int .i64 0, .int .i64 0, .slice none 0 0] := by rw [hW1]; exact boxAt.new_atN _ _ _ rfl (by simp)
 have hg1 : Gr w W1 := by rw [hW1]; exact ((Gr.alloc _ _).trans (Gr.alloc _ _)).trans (Gr.alloc _ _)
 clear hW1
 obtain ⟨sb, hsb⟩ : ∃ b, w.heap.size = b := ⟨_, rfl⟩
 obtain ⟨rb, hrb⟩ : ∃ b, sb + 1 = b := ⟨_, rfl⟩
 obtain ⟨gb, hgb⟩ : ∃ b, rb + 1 = b := ⟨_, rfl⟩
 have HLO := Lib.hid (show w.heap.size ≤ rb ∧ w.heap.size ≤ gb by omega)
 have HNE := Lib.hid (show rb ≠ gb ∧ gb ≠ rb by omega)
 have HSR := Lib.hid (show sb ≠ rb ∧ sb ≠ gb by omega)
 rw [hsb] at xs xr xg
 rw [hrb] at xr xg
 rw [hgb] at xg
 simp only [hsb, hrb, hgb]
 clear hsb hrb hgb
 have XS := Lib.hid xs
 have XR := Lib.hid xr
 have XG := Lib.hid xg
 have HG1 := Lib.hid hg1
 obtain ⟨c_s0, c_s1, c_s2, m_s0, m_s1, m_s2, l_s⟩ := unb3 xs
 clear xs xr xg hg1
 go_wp2_with fail
 go_at_call 33
 (with_reducible refine (HMY.out W1 HG1.out).mono ?_); rintro e w2 ⟨rfl, hg2⟩
 have HG2 := Lib.hid (HG1.out.trans hg2)
 have XS2 := Lib.hid (XS.out.later hg2)
 have XR2 := Lib.hid (XR.out.later hg2)
 have XG2 := Lib.hid (XG.out.later hg2)
 clear c_s0 c_s1 c_s2 m_s0 m_s1 m_s2 l_s
 clear hg2 HG1 XS XR XG HMY
 cases sp with
 |
  false =>
  go_wp2_with fail
  go_at_call 34
  (with_reducible refine (is6_any 15 w2).mono ?_); rintro e w3 ⟨rfl, hg3⟩
  have xr := XR2.out.later hg3
  have xg := XG2.out.later hg3
  have HG3 := Lib.hid (HG2.out.trans hg3)
  obtain ⟨c_r0, c_r1, c_r2, c_r3, m_r0, m_r1, m_r2, m_r3, l_r⟩ := unb4 xr
  obtain ⟨c_g0, c_g1, c_g2, c_g3, c_g4, m_g0, m_g1, m_g2, m_g3, m_g4, l_g⟩ := unb5 xg
  have hne := HNE.out
  clear hg3
  go_wp2_with fail
  refine name_body (fun W hW => ?_)
  have yb : boxAt W rb [.slice none 0 0, .slice none 0 0, .slice none 0 0, .slice none 0 0] := by subst hW; exact (((((((((xr.put 0 _ (by simp)).put 1 _ (by simp)).put 2 _ (by simp)).put 3 _ (by simp)).far ⟨gb, 0, none⟩ _ HNE.out.2).far ⟨gb, 1, none⟩ _ HNE.out.2).far ⟨gb, 2, none⟩ _ HNE.out.2).far ⟨gb, 3, none⟩ _ HNE.out.2).far ⟨gb, 4, none⟩ _ HNE.out.2)
  have zb : boxAt W gb [.int .i64 15, .int .i64 0, .int .i64 0, .int .i64 0, .slice none 0 0] := by subst hW; exact (((((((((xg.far ⟨rb, 0, none⟩ _ HNE.out.1).far ⟨rb, 1, none⟩ _ HNE.out.1).far ⟨rb, 2, none⟩ _ HNE.out.1).far ⟨rb, 3, none⟩ _ HNE.out.1).put 0 _ (by simp)).put 1 _ (by simp)).put 2 _ (by simp)).put 3 _ (by simp)).put 4 _ (by simp))
  have hgz : Gr w W := by subst hW; exact (Below.setCell (Below.setCell (Below.setCell (Below.setCell (Below.setCell (Below.setCell (Below.setCell (Below.setCell (Below.setCell HG3.out HLO.out.1 _) HLO.out.1 _) HLO.out.1 _) HLO.out.1 _) HLO.out.2 _) HLO.out.2 _) HLO.out.2 _) HLO.out.2 _) HLO.out.2 _)
  skip
  clear hW
  obtain ⟨c_y0, c_y1, c_y2, c_y3, m_y0, m_y1, m_y2, m_y3, l_y⟩ := unb4 yb
  obtain ⟨c_z0, c_z1, c_z2, c_z3, c_z4, m_z0, m_z1, m_z2, m_z3, m_z4, l_z⟩ := unb5 zb
  refine bodyPost_ret (v := .tuple #[.agg #[.slice none 0 0, .slice none 0 0, .slice none 0 0, .slice none 0 0], .agg #[.int .i64 15, .int .i64 0, .int .i64 0, .int .i64 0, .slice none 0 0]]) (by simp [results, Tryz.results11, go_sem, c_y0, c_y1, c_y2, c_y3, c_z0, c_z1, c_z2, c_z3, c_z4]) rfl ?_
  exact ⟨.arg HSP.out rfl, hgz⟩
 |
  true =>
  have xs := XS2.out
  obtain ⟨c_s0, c_s1, c_s2, m_s0, m_s1, m_s2, l_s⟩ := unb3 xs
  go_wp2_with fail
  go_at_call 35
  (with_reducible refine (HWR.out HSP.out w2 HG2.out).mono ?_); rintro e w3 ⟨fv, rfl, hfv, hg3⟩
  have HFV := Lib.hid hfv
  have HG3 := Lib.hid (HG2.out.trans hg3)
  have XS3 := Lib.hid (XS2.out.later hg3)
  have XR3 := Lib.hid (XR2.out.later hg3)
  have XG3 := Lib.hid (XG2.out.later hg3)
  clear c_s0 c_s1 c_s2 m_s0 m_s1 m_s2 l_s
  clear xs hfv hg3 HG2 XS2 XR2 XG2 HWR
  obtain ⟨bz, hbz⟩ : ∃ b, worst (notes s) = b := ⟨_, rfl⟩
  have HBZ := Lib.hid hbz
  rw [hbz] at HFV
  clear hbz
  cases bz with
  |
   some x =>
   obtain ⟨g6, c, rfl, hsl⟩ := HFV.out
   obtain ⟨nm6, po6⟩ := x
   dsimp only at hsl
   have HSL := Lib.hid hsl
   clear hsl
   go_upto_region 4 with fail
   refine name_world (fun W4 hW4 => ?_)
   obtain ⟨xb, hxb⟩ : ∃ b, w3.heap.size = b := ⟨_, rfl⟩
   have hg4 : Gr w3 W4 := by rw [hW4]; exact (by first | exact Gr.alloc _ _ | exact (Below.setCell (Below.setCell (Below.setCell (Below.setCell (Below.setCell (Below.setCell (Gr.alloc _ _) (Nat.le_refl _) _) (Nat.le_refl _) _) (Nat.le_refl _) _) (Nat.le_refl _) _) (Nat.le_refl _) _) (Nat.le_refl _) _))
   have xx : boxAt W4 xb [.int .i64 6, .int .i64 0, .int .i64 0, .int .i64 po6, .slice (some ⟨g6, 0, none⟩) 1 c, .bool true] := by rw [hW4, ← hxb]; exact (by first | exact boxAt.new_atN _ _ _ rfl rfl | exact (((((((boxAt.new_atN _ _ _ rfl rfl).put 0 _ (by simp)).put 1 _ (by simp)).put 2 _ (by simp)).put 3 _ (by simp)).put 4 _ (by simp)).put 5 _ (by simp)))
   have HXB := Lib.hid (show xb ≠ rb ∧ xb ≠ gb from ⟨fun e => by have := XR3.out.lt (by simp); omega, fun e => by have := XG3.out.lt (by simp); omega⟩)
   simp only [hxb]
   clear hW4 hxb
   have xr := XR3.out.later hg4
   have xg := XG3.out.later hg4
   have HG4 := Lib.hid (HG3.out.trans hg4)
   have HSL4 := Lib.hid (HSL.out.later hg4)
   obtain ⟨c_x0, c_x1, c_x2, c_x3, c_x4, c_x5, m_x0, m_x1, m_x2, m_x3, m_x4, m_x5, l_x⟩ := unb6 xx
   go_upto_region 5 with fail
   clear c_x0 c_x1 c_x2 c_x3 c_x4 c_x5 m_x0 m_x1 m_x2 m_x3 m_x4 m_x5 l_x
   refine wp_region_S (KpR [rb, gb] W4) (.take 0 (.take 1 (.take 2 (.run 3 false (.run 4 true .nil))))) (KpR.gr (Gr.drew W4)) (by kernel_rfl) (by kernel_rfl) ?_
   simp only [pickOps, nthOp]
   intro wq hN hG
   have HNX := Lib.hid (show xb ∉ [rb, gb] from fun hm => by rcases List.mem_cons.1 hm with h | h; exact HXB.out.1 h; exact HXB.out.2 (List.mem_singleton.1 h))
   repeat (first | (refine wpG_skip_take ?_ ?_; (focus rfl); try simp only [Act.put, List.setIfInBounds_toArray, List.set_cons_zero, List.set_cons_succ]) | (refine wpG_skip_run ?_ ?_; (focus rfl); try simp only [Act.put, List.setIfInBounds_toArray, List.set_cons_zero, List.set_cons_succ]) | (refine wpG_take ?_ ?_; (focus rfl); apply Exists.intro; refine ⟨fun w' hw' => ?_, ?_⟩; (focus (have z0 := (hw'.box xx HNX.out (by simp)).cell 0 _ rfl; have z1 := (hw'.box xx HNX.out (by simp)).cell 1 _ rfl; have z2 := (hw'.box xx HNX.out (by simp)).cell 2 _ rfl; have z3 := (hw'.box xx HNX.out (by simp)).cell 3 _ rfl; have z4 := (hw'.box xx HNX.out (by simp)).cell 4 _ rfl; go_simp; (try rfl); done)); try simp only [Act.put, List.setIfInBounds_toArray, List.set_cons_zero, List.set_cons_succ]))
   have xrq := xr.later hN
   have xgq := xg.later hN
   have hsq := HSL4.out.later hN
   have kg : wq.cell? ⟨g6, 0, none⟩ = some (.string nm6) := by
    obtain ⟨_, _, ⟨_, h0⟩ | ⟨b, off, cap, hv, hb, hc⟩⟩ := hsq
    · omega
    ·
     injection hv with hp _ _
     injection hp with hp
     injection hp with hp1 hp2
     subst hp1 hp2
     exact hc 0 _ rfl
   have hgr : rb ≠ g6 := fun e => by
    have h1 := xrq.cell 0 _ rfl
    rw [e, kg] at h1
    cases h1
   have hgg : gb ≠ g6 := fun e => by
    have h1 := xgq.cell 0 _ rfl
    rw [e, kg] at h1
    cases h1
   have HSQ := Lib.hid hsq
   have HGQ := Lib.hid (HG4.out.trans hN)
   clear kg hsq
   obtain ⟨c_r0, c_r1, c_r2, c_r3, m_r0, m_r1, m_r2, m_r3, l_r⟩ := unb4 xrq
   refine wpG_run ?_ (fun K hK => ?_)
   focus rfl
   go_simp
   refine hK.out _ _ (((((hG.put (a := ⟨rb, 0, none⟩) (.inr (by simp)) _).put (a := ⟨rb, 1, none⟩) (.inr (by simp)) _).put (a := ⟨rb, 2, none⟩) (.inr (by simp)) _).put (a := ⟨rb, 3, none⟩) (.inr (by simp)) _)) ?_
   clear hK K
   (try simp only [Act.put, List.setIfInBounds_toArray, List.set_cons_zero, List.set_cons_succ])
   clear c_r0 c_r1 c_r2 c_r3 m_r0 m_r1 m_r2 m_r3 l_r
   have xg2 := ((((xgq.far ⟨rb, 0, none⟩ (.slice none 0 0) HNE.out.1).far ⟨rb, 1, none⟩ (.slice none 0 0) HNE.out.1).far ⟨rb, 2, none⟩ (.slice none 0 0) HNE.out.1).far ⟨rb, 3, none⟩ (.slice none 0 0) HNE.out.1)
   obtain ⟨c_g0, c_g1, c_g2, c_g3, c_g4, m_g0, m_g1, m_g2, m_g3, m_g4, l_g⟩ := unb5 xg2
   refine wpG_last ?_ (fun K hK => ?_)
   focus rfl
   go_simp
   refine hK.out _ _ ?_
   clear hK K
   (try simp only [Act.put, List.setIfInBounds_toArray, List.set_cons_zero, List.set_cons_succ])
   clear c_g0 c_g1 c_g2 c_g3 c_g4 m_g0 m_g1 m_g2 m_g3 m_g4 l_g
   refine wpG_done ?_
   refine name_Q (fun V hV => ?_)
   have yb : boxAt V rb [.slice none 0 0, .slice none 0 0, .slice none 0 0, .slice none 0 0] := by rw [hV]; exact (((((((((xrq.put 0 _ (by simp)).put 1 _ (by simp)).put 2 _ (by simp)).put 3 _ (by simp)).far ⟨gb, 0, none⟩ _ HNE.out.2).far ⟨gb, 1, none⟩ _ HNE.out.2).far ⟨gb, 2, none⟩ _ HNE.out.2).far ⟨gb, 3, none⟩ _ HNE.out.2).far ⟨gb, 4, none⟩ _ HNE.out.2)
   have zb : boxAt V gb [.int .i64 6, .int .i64 0, .int .i64 0, .int .i64 po6, .slice (some ⟨g6, 0, none⟩) 1 c] := by rw [hV]; exact (((((((((xgq.far ⟨rb, 0, none⟩ _ HNE.out.1).far ⟨rb, 1, none⟩ _ HNE.out.1).far ⟨rb, 2, none⟩ _ HNE.out.1).far ⟨rb, 3, none⟩ _ HNE.out.1).put 0 _ (by simp)).put 1 _ (by simp)).put 2 _ (by simp)).put 3 _ (by simp)).put 4 _ (by simp))
   have hgz : Gr w V := by rw [hV]; exact (Below.setCell (Below.setCell (Below.setCell (Below.setCell (Below.setCell (Below.setCell (Below.setCell (Below.setCell (Below.setCell HGQ.out HLO.out.1 _) HLO.out.1 _) HLO.out.1 _) HLO.out.1 _) HLO.out.2 _) HLO.out.2 _) HLO.out.2 _) HLO.out.2 _) HLO.out.2 _)
   have HSV := Lib.hid (show Sl V (.slice (some ⟨g6, 0, none⟩) 1 c) 1 1 [.string nm6] from by
    refine Sl.keep HSQ.out (fun a n cc ha => ?_)
    injection ha with ha _ _
    injection ha with ha
    subst ha hV
    repeat rw [setCell_far _ _ _ _ hgg]
    repeat rw [setCell_far _ _ _ _ hgr])
   clear hV xg2 hgr hgg hG hN
   obtain ⟨c_y0, c_y1, c_y2, c_y3, m_y0, m_y1, m_y2, m_y3, l_y⟩ := unb4 yb
   obtain ⟨c_z0, c_z1, c_z2, c_z3, c_z4, m_z0, m_z1, m_z2, m_z3, m_z4, l_z⟩ := unb5 zb
   go_step
   go_wp2_with fail
   refine bodyPost_ret (v := .tuple #[nmsZ, .agg #[.int .i64 6, .int .i64 0, .int .i64 0, .int .i64 po6, .slice (some ⟨g6, 0, none⟩) 1 c]]) (by simp [results, Tryz.results11, nmsZ, go_sem, c_y0, c_y1, c_y2, c_y3, c_z0, c_z1, c_z2, c_z3, c_z4]) rfl ?_
   exact ⟨.name (nm6, po6) _ c HSP.out HBZ.out HSV.out rfl, hgz⟩
  |
   none =>
   have hfe : fv = .agg #[.int .i64 0, .int .i64 0, .int .i64 0, .int .i64 0, .slice none 0 0, .bool false] := HFV.out
   subst hfe
   clear HFV
   have HRT := Lib.hid (right_of (worst_none.1 HBZ.out))
   have HLK := Lib.hid (linked_of HRT.out)
   have HLE := Lib.hid (spec_lens HSP.out)
   go_upto_region 4 with fail
   refine name_world (fun W4 hW4 => ?_)
   obtain ⟨fbx, hfbx⟩ : ∃ b, w3.heap.size = b := ⟨_, rfl⟩
   have hg4 : Gr w3 W4 := by rw [hW4]; exact (by first | exact Gr.alloc _ _ | exact (Below.setCell (Below.setCell (Below.setCell (Below.setCell (Below.setCell (Below.setCell (Gr.alloc _ _) (Nat.le_refl _) _) (Nat.le_refl _) _) (Nat.le_refl _) _) (Nat.le_refl _) _) (Nat.le_refl _) _) (Nat.le_refl _) _))
   have xx : boxAt W4 fbx [.int .i64 0, .int .i64 0, .int .i64 0, .int .i64 0, .slice none 0 0, .bool false] := by rw [hW4, ← hfbx]; exact (by first | exact boxAt.new_atN _ _ _ rfl rfl | exact (((((((boxAt.new_atN _ _ _ rfl rfl).put 0 _ (by simp)).put 1 _ (by simp)).put 2 _ (by simp)).put 3 _ (by simp)).put 4 _ (by simp)).put 5 _ (by simp)))
   simp only [hfbx]
   clear hW4 hfbx
   have XR4 := Lib.hid (XR3.out.later hg4)
   have XG4 := Lib.hid (XG3.out.later hg4)
   have XS4 := Lib.hid (XS3.out.later hg4)
   have HG4 := Lib.hid (HG3.out.trans hg4)
   have HRB4 := Lib.hid (show rb < W4.heap.size ∧ gb < W4.heap.size from ⟨XR4.out.lt (by simp), XG4.out.lt (by simp)⟩)
   have xs := XS4.out
   clear hg4 XR3 XG3 XS3 HG3
   obtain ⟨c_x0, c_x1, c_x2, c_x3, c_x4, c_x5, m_x0, m_x1, m_x2, m_x3, m_x4, m_x5, l_x⟩ := unb6 xx
   obtain ⟨c_s0, c_s1, c_s2, m_s0, m_s1, m_s2, l_s⟩ := unb3 xs
   go_wp2_with fail
   go_at_call 36
   (with_reducible refine (HCY.out HSP.out HLK.out W4 HG4.out).mono ?_); rintro e w5 ⟨hce, hg5⟩
   have XR5 := Lib.hid (XR4.out.later hg5)
   have XG5 := Lib.hid (XG4.out.later hg5)
   have XS5 := Lib.hid (XS4.out.later hg5)
   have HG5 := Lib.hid (HG4.out.trans hg5)
   clear c_x0 c_x1 c_x2 c_x3 c_x4 c_x5 m_x0 m_x1 m_x2 m_x3 m_x4 m_x5 l_x
   clear c_s0 c_s1 c_s2 m_s0 m_s1 m_s2 l_s
   clear xx xs XR4 XG4 XS4 HG4 hg5 HCY
   rcases hce with ⟨rfl, hno⟩ | ⟨i, L, d, v, rfl, hil, hno, hdo, hfa, how⟩
   rotate_left
   ·
    obtain ⟨n, hn⟩ : ∃ n, (i :: pathD (linksN s) d i L i).length = n := ⟨_, rfl⟩
    rw [hn] at how
    obtain ⟨p, c, rfl⟩ := (Sl.of_owns how).len
    have HOW := Lib.hid (Sl.of_owns how)
    have HLOW := Lib.hid (fun g (hg : (Value.slice p n c).ownBlock = some g) => (World.ownsRow.lt how g hg).1)
    have HANS := Lib.hid (And.intro hil (And.intro hno (And.intro hdo (And.intro hfa hn))))
    have hn0 : (0 : Int) < (n : Int) := by rw [← hn, List.length_cons]; omega
    have hng : (n : Int) > 0 := hn0
    have HKR := Lib.hid (fun g (hg : (Value.slice p n c).ownBlock = some g) => (show rb ≠ g ∧ gb ≠ g from by
     have h1 := (World.ownsRow.lt how g hg).1
     have h2 := HRB4.out
     omega))
    have HNY := Lib.hid (nily_own how)
    have xr := XR5.out
    have xg := XG5.out
    have HOWN := Lib.hid how
    clear hn hil hno hdo hfa how
    obtain ⟨c_r0, c_r1, c_r2, c_r3, m_r0, m_r1, m_r2, m_r3, l_r⟩ := unb4 xr
    obtain ⟨c_g0, c_g1, c_g2, c_g3, c_g4, m_g0, m_g1, m_g2, m_g3, m_g4, l_g⟩ := unb5 xg
    have hne := HNE.out
    go_wp2_with fail
    refine name_body (fun W hW => ?_)
    have yb : boxAt W rb [.slice none 0 0, .slice none 0 0, .slice none 0 0, .slice none 0 0] := by subst hW; exact (((((((((xr.put 0 _ (by simp)).put 1 _ (by simp)).put 2 _ (by simp)).put 3 _ (by simp)).far ⟨gb, 0, none⟩ _ HNE.out.2).far ⟨gb, 1, none⟩ _ HNE.out.2).far ⟨gb, 2, none⟩ _ HNE.out.2).far ⟨gb, 3, none⟩ _ HNE.out.2).far ⟨gb, 4, none⟩ _ HNE.out.2)
    have zb : boxAt W gb [.int .i64 7, .int .i64 0, .int .i64 0, .int .i64 0, .slice p n c] := by subst hW; exact (((((((((xg.far ⟨rb, 0, none⟩ _ HNE.out.1).far ⟨rb, 1, none⟩ _ HNE.out.1).far ⟨rb, 2, none⟩ _ HNE.out.1).far ⟨rb, 3, none⟩ _ HNE.out.1).put 0 _ (by simp)).put 1 _ (by simp)).put 2 _ (by simp)).put 3 _ (by simp)).put 4 _ (by simp))
    have hgz : Gr w W := by subst hW; exact (Below.setCell (Below.setCell (Below.setCell (Below.setCell (Below.setCell (Below.setCell (Below.setCell (Below.setCell (Below.setCell HG5.out HLO.out.1 _) HLO.out.1 _) HLO.out.1 _) HLO.out.1 _) HLO.out.2 _) HLO.out.2 _) HLO.out.2 _) HLO.out.2 _) HLO.out.2 _)
    have HSV := Lib.hid (show Sl W (.slice p n c) 1 n ((i :: pathD (linksN s) d i L i).map fun j => .string (nmD s j)) from by
     refine Sl.of_owns (owns_heap HOWN.out (fun g hg => ?_))
     have h1 := (HKR.out g hg).1
     have h2 := (HKR.out g hg).2
     subst hW
     repeat rw [setCell_far _ _ _ _ h2]
     repeat rw [setCell_far _ _ _ _ h1])
    clear hW
    obtain ⟨c_y0, c_y1, c_y2, c_y3, m_y0, m_y1, m_y2, m_y3, l_y⟩ := unb4 yb
    obtain ⟨c_z0, c_z1, c_z2, c_z3, c_z4, m_z0, m_z1, m_z2, m_z3, m_z4, l_z⟩ := unb5 zb
    refine bodyPost_ret (v := .tuple #[.agg #[.slice none 0 0, .slice none 0 0, .slice none 0 0, .slice none 0 0], .agg #[.int .i64 7, .int .i64 0, .int .i64 0, .int .i64 0, .slice p n c]]) (by simp [results, Tryz.results11, go_sem, c_y0, c_y1, c_y2, c_y3, c_z0, c_z1, c_z2, c_z3, c_z4]) rfl ?_
    exact ⟨.cyc i L d p n c HSP.out HBZ.out HANS.out.1 HANS.out.2.1 HANS.out.2.2.1 HANS.out.2.2.2.1 HANS.out.2.2.2.2 HSV.out rfl, hgz⟩
   have HOR2 := Lib.hid (show (orderN (linksN s) s.defs.length []).length = s.defs.length from by
    rcases Nat.lt_or_ge (orderN (linksN s) s.defs.length []).length s.defs.length with h | h
    · exact absurd h (fun h => by
      have hl := linksN_len s
      obtain ⟨i, hi, hc⟩ := order_cyc (U := linksN s) (fun i k hk => by
       cases hr : (linksN s)[i]? with
       | none => rw [hr] at hk; cases hk
       | some r => rw [hr] at hk; exact linksN_in HLK.out hr k hk) (by rw [hl]; exact h)
      exact noW_cyc (hno i (by rw [← hl]; exact hi)) hc)
    · exact Nat.le_antisymm (by have h1 := order_le (linksN s); rw [linksN_len s] at h1; exact h1) h)
   have HNO := Lib.hid hno
   have HMD5 := Lib.hid (fun W (hG : Gr w5 W) => HMD.out HSP.out W (HG5.out.trans hG))
   have HOR5 := Lib.hid (fun W (hG : Gr w5 W) => HOR.out HSP.out HLK.out HOR2.out W (HG5.out.trans hG))
   obtain ⟨n1, hn1⟩ : ∃ n, (modesN s).length = n := ⟨_, rfl⟩
   obtain ⟨n2, hn2⟩ : ∃ n, (orderN (linksN s) s.defs.length []).length = n := ⟨_, rfl⟩
   obtain ⟨l1, hl1⟩ : ∃ l, (modesN s).map Value.string = l := ⟨_, rfl⟩
   obtain ⟨l2, hl2⟩ : ∃ l, (orderN (linksN s) s.defs.length []).map natV = l := ⟨_, rfl⟩
   rw [hn1, hl1] at HMD5
   rw [hn2, hl2] at HOR5
   have HN1 := Lib.hid hn1
   have HN2 := Lib.hid hn2
   have HL1 := Lib.hid hl1
   have HL2 := Lib.hid hl2
   have xs := XS5.out
   clear hno HMD HOR hn1 hn2 hl1 hl2
   obtain ⟨c_s0, c_s1, c_s2, m_s0, m_s1, m_s2, l_s⟩ := unb3 xs
   go_upto_region 9 with fail
   clear c_s0 c_s1 c_s2 m_s0 m_s1 m_s2 l_s
   go_cut [6] from 35 to 39 (fun v6 wx => ∃ (nb : Nat) (p1 : Option Addr) (c1 : Nat) (p2 : Option Addr) (c2 : Nat), v6 = .pointer (some ⟨nb, 0, none⟩) ∧ Nine w5 wx nb n1 n2 l1 l2 (.slice p1 n1 c1) (.slice p2 n2 c2))
   case first =>
    refine wp_region_G (.take 0 (.take 2 (.fork 1 (.fork 3 (.take 4 (.run 5 false (.run 6 true .nil))) 5 (.run 3 false (.take 4 (.run 6 true .nil)))) 5 (.run 1 false (.run 3 false (.take 4 (.run 6 true .nil))))))) (by kernel_rfl) (by kernel_rfl) ?_
    simp only [pickOps, nthOp]
    intro wq hG
    repeat (first | (refine wpG_take ?_ ?_; (focus rfl); apply Exists.intro; refine ⟨fun w' hw' => ?_, ?_⟩; (focus (have hc := Gr.cells hw'; have y0 := xs.cell 0 _ rfl; have y1 := xs.cell 1 _ rfl; have y2 := xs.cell 2 _ rfl; have yl := xs.lt (Nat.succ_pos _); go_simp; (try rfl); done)); (try simp only [Act.put, List.setIfInBounds_toArray, List.set_cons_zero, List.set_cons_succ])))
    refine wpG_fork ?_ ?_ (fun K hK => ?_) (fun K hK => ?_)
    focus rfl
    focus rfl
    ·
     go_simp
     go_at_call 37
     (with_reducible refine (HMD5.out _ hG).mono ?_); rintro e1 wm ⟨vm0, rfl, hom, hbm⟩
     (try dsimp only)
     obtain ⟨pm0, cm0, rfl⟩ := (Sl.of_owns hom).len
     replace hom := owns_low9 hom hG.size
     replace hG := hG.trans hbm
     refine hK.out _ _ hG ?_
     clear hbm hK K
     (try simp only [Act.put, List.setIfInBounds_toArray, List.set_cons_zero, List.set_cons_succ])
     refine wpG_fork ?_ ?_ (fun K hK => ?_) (fun K hK => ?_)
     focus rfl
     focus rfl
     ·
      go_simp
      go_at_call 38
      (with_reducible refine (HOR5.out _ hG).mono ?_); rintro e2 wo ⟨vo0, rfl, hoo, hbo⟩
      (try dsimp only)
      obtain ⟨po0, co0, rfl⟩ := (Sl.of_owns hoo).len
      replace hoo := owns_low9 hoo hG.size
      replace hom := owns_later hom hbo
      replace hG := hG.trans hbo
      refine hK.out _ _ hG ?_
      clear hbo hK K
      (try simp only [Act.put, List.setIfInBounds_toArray, List.set_cons_zero, List.set_cons_succ])
      repeat (first | (refine wpG_take ?_ ?_; (focus rfl); apply Exists.intro; refine ⟨fun w' hw' => ?_, ?_⟩; (focus (have hc := Gr.cells hw'; have y0 := xs.cell 0 _ rfl; have y1 := xs.cell 1 _ rfl; have y2 := xs.cell 2 _ rfl; have yl := xs.lt (Nat.succ_pos _); go_simp; (try rfl); done)); (try simp only [Act.put, List.setIfInBounds_toArray, List.set_cons_zero, List.set_cons_succ])))
      refine wpG_run ?_ (fun K hK => ?_)
      focus rfl
      go_simp
      refine name_K6 (fun wa hW9 => ?_)
      have hba : Gr wo wa := by rw [hW9]; exact Gr.alloc _ _
      have xb : boxAt wa wo.heap.size [.slice none 0 0, .slice none 0 0, .slice none 0 0, .slice none 0 0] := by rw [hW9]; exact boxAt.new_atN _ _ _ rfl rfl
      obtain ⟨nb, hnb⟩ : ∃ b, wo.heap.size = b := ⟨_, rfl⟩
      have hlo : w5.heap.size ≤ nb := by have := hG.size; omega
      have hmn : ∀ g, (Value.slice pm0 n1 cm0).ownBlock = some g → g ≠ nb := fun g hg e => by have h1 := (World.ownsRow.lt hom g hg).2; omega
      have hon : ∀ g, (Value.slice po0 n2 co0).ownBlock = some g → g ≠ nb := fun g hg e => by have h1 := (World.ownsRow.lt hoo g hg).2; omega
      rw [hnb] at xb
      replace hom := owns_later hom hba
      replace hoo := owns_later hoo hba
      replace hG := hG.trans hba
      refine hK.out _ _ hG ?_
      clear hba hK K hW9
      simp only [hnb]
      clear hnb
      (try simp only [Act.put, List.setIfInBounds_toArray, List.set_cons_zero, List.set_cons_succ])
      have b0 := xb.cell 0 _ rfl
      have b1 := xb.cell 1 _ rfl
      have b2 := xb.cell 2 _ rfl
      have b3 := xb.cell 3 _ rfl
      have f0 := xb.mark 0 _ rfl
      have f1 := xb.mark 1 _ rfl
      have f2 := xb.mark 2 _ rfl
      have f3 := xb.mark 3 _ rfl
      have fl := xb.lt (by simp)
      refine wpG_last ?_ (fun K hK => ?_)
      focus rfl
      go_simp
      refine hK.out _ _ ?_
      clear hK K b0 b1 b2 b3 f0 f1 f2 f3 fl
      (try simp only [Act.put, List.setIfInBounds_toArray, List.set_cons_zero, List.set_cons_succ])
      refine wpG_done ?_
      go_wp2_with fail
      go_meet
      case rel => exact ⟨nb, pm0, cm0, po0, co0, rfl, Nine.of hG xb hlo hom hoo hmn hon⟩
     ·
      go_simp
      refine name_K6 (fun wa hW9 => ?_)
      have hba : Gr wm wa := by rw [hW9]; exact Gr.alloc _ _
      have xb : boxAt wa wm.heap.size [.slice none 0 0, .slice none 0 0, .slice none 0 0, .slice none 0 0] := by rw [hW9]; exact boxAt.new_atN _ _ _ rfl rfl
      obtain ⟨nb, hnb⟩ : ∃ b, wm.heap.size = b := ⟨_, rfl⟩
      have hlo : w5.heap.size ≤ nb := by have := hG.size; omega
      have hmn : ∀ g, (Value.slice pm0 n1 cm0).ownBlock = some g → g ≠ nb := fun g hg e => by have h1 := (World.ownsRow.lt hom g hg).2; omega
      rw [hnb] at xb
      replace hom := owns_later hom hba
      replace hG := hG.trans hba
      refine hK.out _ _ hG ?_
      clear hba hK K hW9
      simp only [hnb]
      clear hnb
      (try simp only [Act.put, List.setIfInBounds_toArray, List.set_cons_zero, List.set_cons_succ])
      refine wpG_run ?_ (fun K hK => ?_)
      focus rfl
      go_simp
      go_at_call 38
      (with_reducible refine (HOR5.out _ hG).mono ?_); rintro e2 wo ⟨vo0, rfl, hoo, hbo⟩
      (try dsimp only)
      obtain ⟨po0, co0, rfl⟩ := (Sl.of_owns hoo).len
      have hon : ∀ g, (Value.slice po0 n2 co0).ownBlock = some g → g ≠ nb := fun g hg e => by have h1 := (World.ownsRow.lt hoo g hg).1; have h2 := xb.lt (by simp); omega
      replace hoo := owns_low9 hoo hG.size
      replace hom := owns_later hom hbo
      replace xb := xb.later hbo
      replace hG := hG.trans hbo
      refine hK.out _ _ hG ?_
      clear hbo hK K
      (try simp only [Act.put, List.setIfInBounds_toArray, List.set_cons_zero, List.set_cons_succ])
      repeat (first | (refine wpG_take ?_ ?_; (focus rfl); apply Exists.intro; refine ⟨fun w' hw' => ?_, ?_⟩; (focus (have hc := Gr.cells hw'; have y0 := xs.cell 0 _ rfl; have y1 := xs.cell 1 _ rfl; have y2 := xs.cell 2 _ rfl; have yl := xs.lt (Nat.succ_pos _); go_simp; (try rfl); done)); (try simp only [Act.put, List.setIfInBounds_toArray, List.set_cons_zero, List.set_cons_succ])))
      have b0 := xb.cell 0 _ rfl
      have b1 := xb.cell 1 _ rfl
      have b2 := xb.cell 2 _ rfl
      have b3 := xb.cell 3 _ rfl
      have f0 := xb.mark 0 _ rfl
      have f1 := xb.mark 1 _ rfl
      have f2 := xb.mark 2 _ rfl
      have f3 := xb.mark 3 _ rfl
      have fl := xb.lt (by simp)
      refine wpG_last ?_ (fun K hK => ?_)
      focus rfl
      go_simp
      refine hK.out _ _ ?_
      clear hK K b0 b1 b2 b3 f0 f1 f2 f3 fl
      (try simp only [Act.put, List.setIfInBounds_toArray, List.set_cons_zero, List.set_cons_succ])
      refine wpG_done ?_
      go_wp2_with fail
      go_meet
      case rel => exact ⟨nb, pm0, cm0, po0, co0, rfl, Nine.of hG xb hlo hom hoo hmn hon⟩
    ·
     go_simp
     refine name_K6 (fun wa hW9 => ?_)
     have hba : Gr wq wa := by rw [hW9]; exact Gr.alloc _ _
     have xb : boxAt wa wq.heap.size [.slice none 0 0, .slice none 0 0, .slice none 0 0, .slice none 0 0] := by rw [hW9]; exact boxAt.new_atN _ _ _ rfl rfl
     obtain ⟨nb, hnb⟩ : ∃ b, wq.heap.size = b := ⟨_, rfl⟩
     have hlo : w5.heap.size ≤ nb := by have := hG.size; omega
     rw [hnb] at xb
     replace hG := hG.trans hba
     refine hK.out _ _ hG ?_
     clear hba hK K hW9
     simp only [hnb]
     clear hnb
     (try simp only [Act.put, List.setIfInBounds_toArray, List.set_cons_zero, List.set_cons_succ])
     refine wpG_run ?_ (fun K hK => ?_)
     focus rfl
     go_simp
     go_at_call 37
     (with_reducible refine (HMD5.out _ hG).mono ?_); rintro e1 wm ⟨vm0, rfl, hom, hbm⟩
     (try dsimp only)
     obtain ⟨pm0, cm0, rfl⟩ := (Sl.of_owns hom).len
     have hmn : ∀ g, (Value.slice pm0 n1 cm0).ownBlock = some g → g ≠ nb := fun g hg e => by have h1 := (World.ownsRow.lt hom g hg).1; have h2 := xb.lt (by simp); omega
     replace hom := owns_low9 hom hG.size
     replace xb := xb.later hbm
     replace hG := hG.trans hbm
     refine hK.out _ _ hG ?_
     clear hbm hK K
     (try simp only [Act.put, List.setIfInBounds_toArray, List.set_cons_zero, List.set_cons_succ])
     refine wpG_run ?_ (fun K hK => ?_)
     focus rfl
     go_simp
     go_at_call 38
     (with_reducible refine (HOR5.out _ hG).mono ?_); rintro e2 wo ⟨vo0, rfl, hoo, hbo⟩
     (try dsimp only)
     obtain ⟨po0, co0, rfl⟩ := (Sl.of_owns hoo).len
     have hon : ∀ g, (Value.slice po0 n2 co0).ownBlock = some g → g ≠ nb := fun g hg e => by have h1 := (World.ownsRow.lt hoo g hg).1; have h2 := xb.lt (by simp); omega
     replace hoo := owns_low9 hoo hG.size
     replace hom := owns_later hom hbo
     replace xb := xb.later hbo
     replace hG := hG.trans hbo
     refine hK.out _ _ hG ?_
     clear hbo hK K
     (try simp only [Act.put, List.setIfInBounds_toArray, List.set_cons_zero, List.set_cons_succ])
     repeat (first | (refine wpG_take ?_ ?_; (focus rfl); apply Exists.intro; refine ⟨fun w' hw' => ?_, ?_⟩; (focus (have hc := Gr.cells hw'; have y0 := xs.cell 0 _ rfl; have y1 := xs.cell 1 _ rfl; have y2 := xs.cell 2 _ rfl; have yl := xs.lt (Nat.succ_pos _); go_simp; (try rfl); done)); (try simp only [Act.put, List.setIfInBounds_toArray, List.set_cons_zero, List.set_cons_succ])))
     have b0 := xb.cell 0 _ rfl
     have b1 := xb.cell 1 _ rfl
     have b2 := xb.cell 2 _ rfl
     have b3 := xb.cell 3 _ rfl
     have f0 := xb.mark 0 _ rfl
     have f1 := xb.mark 1 _ rfl
     have f2 := xb.mark 2 _ rfl
     have f3 := xb.mark 3 _ rfl
     have fl := xb.lt (by simp)
     refine wpG_last ?_ (fun K hK => ?_)
     focus rfl
     go_simp
     refine hK.out _ _ ?_
     clear hK K b0 b1 b2 b3 f0 f1 f2 f3 fl
     (try simp only [Act.put, List.setIfInBounds_toArray, List.set_cons_zero, List.set_cons_succ])
     refine wpG_done ?_
     go_wp2_with fail
     go_meet
     case rel => exact ⟨nb, pm0, cm0, po0, co0, rfl, Nine.of hG xb hlo hom hoo hmn hon⟩
   case rest
        =>
    obtain ⟨nb, q1, c1, q2, c2, rfl, hN9⟩ := hcut
    have HGC := Lib.hid (HG5.out.trans hN9.gr)
    have XSC := Lib.hid (XS5.out.later hN9.gr)
    have XRC := Lib.hid (XR5.out.later hN9.gr)
    have XGC := Lib.hid (XG5.out.later hN9.gr)
    have HNB := Lib.hid (show w.heap.size ≤ nb ∧ sb ∉ [nb] ∧ rb ∉ [nb] ∧ gb ∉ [nb] from by
     have h1 := hN9.lo
     have h2 := XS5.out.lt (by simp)
     have h3 := XR5.out.lt (by simp)
     have h4 := XG5.out.lt (by simp)
     have h5 := HG5.out.size
     refine ⟨by omega, fun hm => ?_, fun hm => ?_, fun hm => ?_⟩
     all_goals
      have h6 := List.mem_singleton.1 hm
      omega)
    have HN1E := Lib.hid (show n1 = (actM s n1).length from by unfold actM; simp)
    obtain ⟨em, hmo⟩ := hN9.m
    obtain ⟨eo, hoo⟩ := hN9.o
    have HFAR := Lib.hid (fun (v : Value) (n : Nat) (l : List Value) (e : TypeId) (ho : wc.ownsRow w5.heap.size e 1 v n l) (hn : ∀ g, v.ownBlock = some g → g ≠ nb) (g : Nat) (hg : v.ownBlock = some g) => (show g ∉ [nb, rb, gb] from fun hm => by
     have h1 := (World.ownsRow.lt ho g hg).1
     have h3 := XR5.out.lt (by simp)
     have h4 := XG5.out.lt (by simp)
     simp only [List.mem_cons, List.not_mem_nil, or_false] at hm
     rcases hm with h | h | h
     · exact hn g hg h
     · omega
     · omega))
    have HMK := Lib.hid (fun wr (hk : KpR [nb, rb, gb] wc wr) => (show Sl wr (.slice q1 n1 c1) 1 (modesN s).length ((modesN s).map .string) from by
     rw [HN1.out, HL1.out]
     exact Sl.of_owns (owns_heap hmo (fun g hg => hk.block g (World.ownsRow.lt hmo g hg).2 (HFAR.out _ _ _ _ hmo hN9.mn g hg)))))
    have HOK := Lib.hid (fun wr (hk : KpR [nb, rb, gb] wc wr) => (show Sl wr (.slice q2 n2 c2) 1 n2 l2 from
     Sl.of_owns (owns_heap hoo (fun g hg => hk.block g (World.ownsRow.lt hoo g hg).2 (HFAR.out _ _ _ _ hoo hN9.on g hg)))))
    have HKW := Lib.hid (fun wr (hk : KpR [nb] wc wr) => hk.mono (R' := [nb, rb, gb]) (fun x hx => .inl (by rw [List.mem_singleton.1 hx]; simp)))
    have HB0 := Lib.hid (show R6I wc nb [] [] (.slice q1 n1 c1) (.slice none 0 0) (.slice q2 n2 c2) (.slice none 0 0) [] [] [] wc from ⟨hN9.box, rfl, rfl, ((Rws.nilX _ _ _).push _ _).push _ _, KpR.refl _ _, hN9.box.lt (by simp)⟩)
    have HTG := Lib.hid (fun wr (hk : KpR [nb] wc wr) => KpR.toGr HGC.out hk (fun x hx => by rw [List.mem_singleton.1 hx]; exact HNB.out.1))
    have HNR2 := Lib.hid (show nr ≤ 200 by
     have := HLE.out.2.2
     rw [← HHR.out, List.length_map, HNR.out] at this
     exact this)
    have hnr2 : (nr : Int) ≤ 200 := by have := HNR2.out; omega
    have HN16 := Lib.hid (show n1 ≤ 16 from by
     rw [← HN1.out]
     unfold modesN
     split
     · simp
     · rw [List.length_map]; exact HLE.out.1)
    have hn16 : (n1 : Int) ≤ 16 := by have := HN16.out; omega
    clear hN9 hmo hoo HFAR XS5 XR5 XG5 HG5 HMD5 HOR5
    go_wp2_with fail
    go_loopw [7] (fun i wr => ∃ k : Nat, k ≤ n1 ∧ i = .int .i64 (k : Int) ∧ ∃ v1 vs1, Hid (R6I wc nb (actM s k) [] (.slice q1 n1 c1) v1 (.slice q2 n2 c2) (.slice none 0 0) vs1 [] [] wr)) (fun i _ => n1 - (intOf i).toNat)
    case atStart => exact ⟨0, Nat.zero_le _, rfl, _, _, HB0⟩
    case round =>
     clear HB0
     obtain ⟨k, hk, rfl, v1, vs1, HRE⟩ := hrel
     have HLV1 := Lib.hid (show ∃ p c, v1 = .slice p k c from by
      have h := HRE.out.row (r := ⟨v1, 32, 1, (actM s k).length, vs1⟩) (by simp [nms6])
      dsimp only at h
      rw [show (actM s k).length = k by unfold actM; simp] at h
      exact (Sl.of_owns h).len)
     obtain ⟨p1, d1, rfl⟩ := HLV1.out
     clear HLV1
     have xb := HRE.out.box
     have xs := HRE.out.kp.box XSC.out HNB.out.2.1 (by simp)
     rcases Nat.lt_or_ge k n1 with hkn | hkn
     ·
      have hkI : (k : Int) < (n1 : Int) := by omega
      have HKN := Lib.hid hkn
      have HASN := Lib.hid (actM_snoc s k)
      have HAK := Lib.hid (show (actM s k).length = k by unfold actM; simp)
      obtain ⟨A, hA⟩ : ∃ A, actM s k = A := ⟨_, rfl⟩
      rw [hA] at HRE HASN HAK
      have HB1 := Lib.hid (HRE.out.push 3 1)
      obtain ⟨c_b0, c_b1, c_b2, c_b3, m_b0, m_b1, m_b2, m_b3, l_b⟩ := unb4 xb
      obtain ⟨c_s0, c_s1, c_s2, m_s0, m_s1, m_s2, l_s⟩ := unb3 xs
      clear hk hkn hA
      go_wp2_with fail
      clear c_b0 c_b1 c_b2 c_b3 m_b0 m_b1 m_b2 m_b3 l_b
      clear c_s0 c_s1 c_s2 m_s0 m_s1 m_s2 l_s
      clear xb xs HRE
      go_loopw [8, 9] (fun lv i wz => ∃ j : Nat, j ≤ nr ∧ i = .int .i64 (j : Int) ∧ Hid (R6I wc nb A [] (.slice q1 n1 c1) (.slice p1 k d1) (.slice q2 n2 c2) (.slice none 0 0) vs1 [] [⟨lv, 3, 1, (actF s k j).length, (actF s k j).map natV⟩] wz)) (fun _ i _ => nr - (intOf i).toNat)
      case atStart => exact ⟨0, Nat.zero_le _, rfl, by simpa [actF] using HB1⟩
      case round =>
       clear HB1
       obtain ⟨j, hj, rfl, HRJ⟩ := hrel
       have HGR := Lib.hid (HTG.out wr HRJ.out.kp)
       have xb := HRJ.out.box
       have xs := HRJ.out.kp.box XSC.out HNB.out.2.1 (by simp)
       obtain ⟨c_b0, c_b1, c_b2, c_b3, m_b0, m_b1, m_b2, m_b3, l_b⟩ := unb4 xb
       obtain ⟨c_s0, c_s1, c_s2, m_s0, m_s1, m_s2, l_s⟩ := unb3 xs
       obtain ⟨L, hL⟩ : ∃ L, actF s k j = L := ⟨_, rfl⟩
       have HLLE := Lib.hid (show L.length ≤ j from hL ▸ actF_le s k j)
       rw [hL] at HRJ
       obtain ⟨m, hm⟩ : ∃ m, L.length = m := ⟨_, rfl⟩
       rw [hm] at HRJ HLLE
       have HLM := Lib.hid hm
       have hlast := HRJ.out.row (List.mem_append_right _ (List.mem_singleton.2 rfl))
       dsimp only at hlast
       obtain ⟨pl, cl, rfl⟩ := (Sl.of_owns hlast).len
       have HLAST := Lib.hid hlast
       clear hlast hm
       rcases Nat.lt_or_ge j nr with hjn | hjn
       ·
        have hjI : (j : Int) < (nr : Int) := by omega
        have HJN := Lib.hid hjn
        obtain ⟨⟨r, cs⟩, hx⟩ : ∃ x, rl[j]? = some x := ⟨_, List.getElem?_eq_getElem (by rw [HNR.out]; exact hjn)⟩
        have hg := HGR.out
        have hD := HR.out
        obtain ⟨b2, off, hpm, hbl, hc⟩ := elem_at hD (fun x hx => (HRI.out x hx).len) HNR.out hx
        have hok := HRI.out _ (List.mem_of_getElem? hx)
        have hsr : s.rules[j]? = some r := by rw [← HHR.out, List.getElem?_map, hx]; rfl
        dsimp only at hok hc
        have HACT := Lib.hid (HAC.out wr HGR.out r cs (.slice q1 n1 c1) (HMK.out wr (HKW.out wr HRJ.out.kp)) hok k (by rw [HN1.out]; exact HKN.out))
        have HFS := Lib.hid (actF_snoc s k j r hsr)
        rw [hL] at HFS
        obtain ⟨q, hq⟩ : ∃ q, activeB s k (ownM s k) r = q := ⟨_, rfl⟩
        rw [hq] at HACT HFS
        have HAC2 := Lib.hid (fun wq (hG : Gr wr wq) => HAC.out wq (HGR.out.trans hG) r cs (.slice q1 n1 c1) ((HMK.out wr (HKW.out wr HRJ.out.kp)).later hG) hok k (by rw [HN1.out]; exact HKN.out))
        rw [hq] at HAC2
        obtain ⟨po, al, pum, num, cum, op, ps, s1, tx, mn, mx, p1x, n1x, c1x, ht, op2, ps2, s2, tx2, mn2, mx2, p2x, n2x, c2x, lb, pua, nua, cua, rfl⟩ := hok.form
        subst hpm
        try dsimp only at HAC2
        have HD := Lib.hid (fun (cur : World) (h : Gr wr cur) (t : Nat) (u : Value) (ht : ([.int .i64 po, .bool al, .slice pum num cum, .int .i64 op, .int .i64 ps, .int .u64 (wd s1 0), .int .u64 (wd s1 1), .int .u64 (wd s1 2), .int .u64 (wd s1 3), .string tx, .int .i64 mn, .int .i64 mx, .slice p1x n1x c1x, .bool ht, .int .i64 op2, .int .i64 ps2, .int .u64 (wd s2 0), .int .u64 (wd s2 1), .int .u64 (wd s2 2), .int .u64 (wd s2 3), .string tx2, .int .i64 mn2, .int .i64 mx2, .slice p2x n2x c2x, .string lb, .slice pua nua cua] : List Value)[t]? = some u) => h.cell (hg.cell (hc t u ht)))
        have hbr := Nat.lt_of_lt_of_le hbl hg.size
        clear hx hok hj hjn hc hD hbl hg hsr hq hL HACT
        go_wp2_with fail
        refine wp_region_G (.take 0 (.take 1 (.take 2 (.take 3 (.take 4 (.take 5 (.take 6 (.take 7 (.take 8 (.run 9 false .nil)))))))))) (by kernel_rfl) (by kernel_rfl) ?_
        simp only [pickOps, nthOp]
        intro wq hG
        repeat (first | (refine wpG_skip_take ?_ ?_; (focus rfl); try simp only [Act.put, List.setIfInBounds_toArray, List.set_cons_zero, List.set_cons_succ]) | (refine wpG_skip_run ?_ ?_; (focus rfl); try simp only [Act.put, List.setIfInBounds_toArray, List.set_cons_zero, List.set_cons_succ]) | (refine wpG_load_at ?_ 71 (.tmp 60) rfl b2 (off + j * 26) rfl [.int .i64 po, .bool al, .slice pum num cum, .int .i64 op, .int .i64 ps, .int .u64 (wd s1 0), .int .u64 (wd s1 1), .int .u64 (wd s1 2), .int .u64 (wd s1 3), .string tx, .int .i64 mn, .int .i64 mx, .slice p1x n1x c1x, .bool ht, .int .i64 op2, .int .i64 ps2, .int .u64 (wd s2 0), .int .u64 (wd s2 1), .int .u64 (wd s2 2), .int .u64 (wd s2 3), .string tx2, .int .i64 mn2, .int .i64 mx2, .slice p2x n2x c2x, .string lb, .slice pua nua cua] _ HD.out Tryz.underlying71 rfl (by kernel_rfl) ?_; (focus rfl); try simp only [Act.put, List.setIfInBounds_toArray, List.set_cons_zero, List.set_cons_succ]) | (refine wpG_take ?_ ?_; (focus rfl); apply Exists.intro; refine ⟨fun w' hw' => ?_, ?_⟩; (focus (have hc := Gr.cells hw'; go_simp; (try rfl); done)); try simp only [Act.put, List.setIfInBounds_toArray, List.set_cons_zero, List.set_cons_succ]) | (refine wpG_run ?_ (fun K hK => ?_); (focus rfl); go_simp; (first | (go_at_call 39; (with_reducible refine (HAC2.out _ hG).mono ?_); rintro e wu ⟨rfl, hb⟩)); (try dsimp only); replace hG := hG.trans hb; refine hK.out _ _ hG ?_; clear hK K hb; try simp only [Act.put, List.setIfInBounds_toArray, List.set_cons_zero, List.set_cons_succ]))
        refine wpG_done ?_
        have HRJ2 := Lib.hid (HRJ.out.later hG)
        have HLAST2 := Lib.hid (owns_later HLAST.out hG)
        clear c_b0 c_b1 c_b2 c_b3 m_b0 m_b1 m_b2 m_b3 l_b
        clear c_s0 c_s1 c_s2 m_s0 m_s1 m_s2 l_s
        clear xb xs hbr HRJ HLAST HGR HAC2 HD hG
        cases q with
        |
         true =>
         go_wp2_with (at_builtin; refine wpList_append_own_at _ rfl (.tmp 64) (.tmp 66) 32 rfl wc.heap.size 3 iI (.int .i64 0) 1 8 Tryz.underlying32 nI ny0 ny1 ny2 rfl (by decide) _ m (L.map natV) rfl (HLAST2.out.alloc _) ⟨wu.heap.size, 0, none⟩ 1 1 [.int .i64 (j : Int)] rfl rfl (new_cells _ _ _) (by intro u hu; simp at hu; subst hu; rfl) (by have := HLLE.out; have := HJN.out; have := HNR2.out; unfold maxLen; omega) (by have := HLLE.out; have := HJN.out; have := HNR2.out; omega) (Nat.le_trans HRJ2.out.kp.size (Gr.alloc _ _).size) ?_; intro v' w4' hown4 hg4 _ hloc; obtain ⟨p4, c4', rfl⟩ := (Sl.of_owns hown4).len; have HOW4 := Lib.hid hown4; have HG4 := Lib.hid hg4; have HLOC := Lib.hid hloc; clear hown4 hg4 hloc)
         go_roundw
         case rel => exact ⟨j + 1, HJN.out, by go_num, Lib.hid (by
          rw [HFS.out, if_pos rfl, List.length_append, List.map_append, HLM.out]
          exact R6I.grow (E := []) (HRJ2.out.later (Gr.alloc wu (.cells #[.int .i64 (j : Int)] 3))) HG4.out HOW4.out HLOC.out)⟩
         case measure => have := HJN.out; simp [intOf]; omega
        |
         false =>
         go_wp2_with fail
         go_roundw
         case rel => exact ⟨j + 1, HJN.out, by go_num, Lib.hid (by
          rw [HFS.out, if_neg (by simp), List.append_nil, HLM.out]
          exact HRJ2.out)⟩
         case measure => have := HJN.out; simp [intOf]; omega
       ·
        have hjI : ¬ (j : Int) < (nr : Int) := by omega
        have hje : j = nr := by omega
        have HFA := Lib.hid (show L = activeN s k (ownM s k) from by
         rw [← hL, hje]
         unfold actF activeN
         rw [show s.rules.length = nr by rw [← HHR.out, List.length_map, HNR.out]]
         rfl)
        have hrow1 := HRJ.out.row (r := ⟨.slice p1 k d1, 32, 1, A.length, vs1⟩) (by simp [nms6])
        dsimp only at hrow1
        rw [HAK.out] at hrow1
        have HROW1 := Lib.hid hrow1
        have HNE1 := Lib.hid (HRJ.out.ne (r := ⟨.slice p1 k d1, 32, 1, A.length, vs1⟩) (by simp [nms6]))
        clear hj hjn hje hL hrow1
        go_wp2_with (at_builtin; refine wpList_append_own_at _ rfl (.tmp 69) (.tmp 71) 31 rfl wc.heap.size 32 iR (.slice none 0 0) 1 24 Tryz.underlying31 rI ry0 ry1 ry2 rfl (by decide) _ k vs1 rfl (HROW1.out.alloc _) ⟨wr.heap.size, 0, none⟩ 1 1 [.slice pl m cl] rfl rfl (new_cells _ _ _) (by intro u hu; simp at hu; subst hu; rfl) (by have := HKN.out; have := HN16.out; unfold maxLen; omega) (by have := HKN.out; have := HN16.out; omega) (Nat.le_trans HRJ.out.kp.size (Gr.alloc _ _).size) ?_; intro v' w4' hown4 hg4 _ hloc; obtain ⟨p4, c4', rfl⟩ := (Sl.of_owns hown4).len; have HOW4 := Lib.hid hown4; have HG4 := Lib.hid hg4; have HLOC := Lib.hid hloc; have yb := (xb.later (Gr.alloc _ _)).grown hg4 (by simp) (HNE1.out); have q3 := yb.cell 1 _ rfl; have r3 := yb.mark 1 _ rfl; have ql := yb.lt (Nat.succ_pos _); clear hown4 hg4 hloc)
        clear c_b0 c_b1 c_b2 c_b3 m_b0 m_b1 m_b2 m_b3 l_b
        clear c_s0 c_s1 c_s2 m_s0 m_s1 m_s2 l_s
        clear q3 r3 ql yb xb xs
        go_roundw
        case rel => exact ⟨k + 1, HKN.out, by go_num, _, _, Lib.hid (by
         have h5 : R6I wc nb A [] (.slice q1 n1 c1) (.slice p1 k d1) (.slice q2 n2 c2) (.slice none 0 0) vs1 [] [⟨.slice pl m cl, 3, 1, L.length, L.map natV⟩] (wr.alloc (.cells #[.slice pl m cl] 32)) := by rw [HLM.out]; exact HRJ.out.later (Gr.alloc _ _)
         rw [HASN.out, ← HFA.out]
         exact R6I.act h5 HG4.out (by rw [HAK.out]; exact HOW4.out) HLOC.out)⟩
        case measure => have := HKN.out; simp [intOf]; omega
     ·
      have hkI : ¬ (k : Int) < (n1 : Int) := by omega
      have hke : k = n1 := by omega
      have HR1 := Lib.hid (show R6I wc nb (actM s n1) [] (.slice q1 n1 c1) (.slice p1 k d1) (.slice q2 n2 c2) (.slice none 0 0) vs1 [] [] wr by
       have h := HRE.out
       rw [hke] at h ⊢
       exact h)
      obtain ⟨c_b0, c_b1, c_b2, c_b3, m_b0, m_b1, m_b2, m_b3, l_b⟩ := unb4 xb
      obtain ⟨c_s0, c_s1, c_s2, m_s0, m_s1, m_s2, l_s⟩ := unb3 xs
      clear hk hkn HRE hke
      go_wp2_with fail
      clear c_b0 c_b1 c_b2 c_b3 m_b0 m_b1 m_b2 m_b3 l_b
      clear c_s0 c_s1 c_s2 m_s0 m_s1 m_s2 l_s
      clear xb xs
      go_loopw [10] (fun i wr => ∃ k2 : Nat, k2 ≤ nr ∧ i = .int .i64 (k2 : Int) ∧ ∃ v3 vs3, Hid (R6I wc nb (actM s n1) ((actsR s).take k2) (.slice q1 n1 c1) (.slice p1 k d1) (.slice q2 n2 c2) v3 vs1 vs3 [] wr)) (fun i _ => nr - (intOf i).toNat)
      case atStart => exact ⟨0, Nat.zero_le _, rfl, _, _, HR1⟩
      case round =>
       clear HR1
       obtain ⟨m, hm, rfl, v3, vs3, HRE⟩ := hrel
       have xb := HRE.out.box
       have xs := HRE.out.kp.box XSC.out HNB.out.2.1 (by simp)
       rcases Nat.lt_or_ge m nr with hmn | hmn
       ·
        have hmI : (m : Int) < (nr : Int) := by omega
        have HMN := Lib.hid hmn
        obtain ⟨⟨r, cs⟩, hx⟩ : ∃ x, rl[m]? = some x := ⟨_, List.getElem?_eq_getElem (by rw [HNR.out]; exact hmn)⟩
        have hg := HTG.out wr HRE.out.kp
        have hD := HR.out
        obtain ⟨b2, off, hpm, hbl, hc⟩ := elem_at hD (fun x hx => (HRI.out x hx).len) HNR.out hx
        have hok := HRI.out _ (List.mem_of_getElem? hx)
        have hsr : s.rules[m]? = some r := by rw [← HHR.out, List.getElem?_map, hx]; rfl
        dsimp only at hok hc
        obtain ⟨po, al, pum, num, cum, op, ps, s1, tx, mn, mx, p1x, n1x, c1x, ht, op2, ps2, s2, tx2, mn2, mx2, p2x, n2x, c2x, lb, pua, nua, cua, rfl, hmm, hma, hsm, hsa, hmo, hao, hmb, hab⟩ := hok.formX
        subst hpm
        have HCQ := Lib.hid (hc 25 _ rfl)
        have HBL := Lib.hid hbl
        have y25 : wr.cell? ⟨b2, off + m * 26 + 25, none⟩ = some (.slice pua nua cua) := hg.cell HCQ.out
        have hbr := Nat.lt_of_lt_of_le hbl hg.size
        have HMA := Lib.hid hma
        have HSA := Lib.hid hsa
        have HAO := Lib.hid hao
        have HUS := Lib.hid (show ∀ a ∈ r.acts, a.doo ≠ 3 → a.mode.name ∈ modesN s from fun a ha hd => HRT.out.uses r (List.mem_of_getElem? hsr) (usN a.mode) (by
         unfold useR
         exact List.mem_append_right _ (List.mem_map.2 ⟨a, List.mem_filter.2 ⟨ha, decide_eq_true hd⟩, rfl⟩)))
        have hab2 : (nua : Int) ≤ 4398046511104 := by omega
        have HAB := Lib.hid (show nua ≤ 4398046511104 by omega)
        obtain ⟨C, hC⟩ : ∃ C, (actsR s).take m = C := ⟨_, rfl⟩
        have HCS := Lib.hid (show (actsR s).take (m + 1) = C ++ [r.acts.map (stepA s)] by
         rw [List.take_add_one, hC]
         unfold actsR
         rw [List.getElem?_map, hsr]; rfl)
        have HCK2 := Lib.hid (show C.length = m by
         rw [← hC, List.length_take]
         unfold actsR
         rw [List.length_map]
         have := (List.getElem?_eq_some_iff.1 hsr).1
         omega)
        rw [hC] at HRE
        have HB0 := Lib.hid (HRE.out.push 83 2)
        obtain ⟨c_b0, c_b1, c_b2, c_b3, m_b0, m_b1, m_b2, m_b3, l_b⟩ := unb4 xb
        obtain ⟨c_s0, c_s1, c_s2, m_s0, m_s1, m_s2, l_s⟩ := unb3 xs
        clear hx hok hm hmn hc hD hbl hg hmm hma hsm hsa hmo hao hmb hab hsr hC
        go_wp2_with fail
        clear c_b0 c_b1 c_b2 c_b3 m_b0 m_b1 m_b2 m_b3 l_b
        clear c_s0 c_s1 c_s2 m_s0 m_s1 m_s2 l_s
        clear xb xs y25 hbr HRE
        go_loopw [11, 12] (fun lv i wz => ∃ j : Nat, j ≤ nua ∧ i = .int .i64 (j : Int) ∧ Hid (R6I wc nb (actM s n1) C (.slice q1 n1 c1) (.slice p1 k d1) (.slice q2 n2 c2) v3 vs1 vs3 [⟨lv, 83, 2, j, ((r.acts.take j).map (stepA s)).flatMap prC⟩] wz)) (fun _ i _ => nua - (intOf i).toNat)
        case atStart => exact ⟨0, Nat.zero_le _, rfl, by simpa using HB0⟩
        case round =>
         clear HB0
         obtain ⟨j, hj, rfl, HRJ⟩ := hrel
         have hlast := HRJ.out.row (List.mem_append_right _ (List.mem_singleton.2 rfl))
         dsimp only at hlast
         obtain ⟨pl, cl, rfl⟩ := (Sl.of_owns hlast).len
         clear hlast
         have HGJ := Lib.hid (HTG.out wr HRJ.out.kp)
         have xb := HRJ.out.box
         have xs := HRJ.out.kp.box XSC.out HNB.out.2.1 (by simp)
         have y25 : wr.cell? ⟨b2, off + m * 26 + 25, none⟩ = some (.slice pua nua cua) := HGJ.out.cell HCQ.out
         have hbr := Nat.lt_of_lt_of_le HBL.out HGJ.out.size
         obtain ⟨c_b0, c_b1, c_b2, c_b3, m_b0, m_b1, m_b2, m_b3, l_b⟩ := unb4 xb
         obtain ⟨c_s0, c_s1, c_s2, m_s0, m_s1, m_s2, l_s⟩ := unb3 xs
         rcases Nat.lt_or_ge j nua with hjn | hjn
         ·
          have hjI : (j : Int) < (nua : Int) := by omega
          have HJN := Lib.hid hjn
          obtain ⟨⟨doo, nmx, pox⟩, hx⟩ : ∃ x, r.acts[j]? = some x := ⟨_, List.getElem?_eq_getElem (by rw [HMA.out]; exact hjn)⟩
          obtain ⟨b4, o4, hp4, hb4, hc4⟩ := act_at HSA.out hx
          have HUX := Lib.hid (HUS.out _ (List.mem_of_getElem? hx))
          subst hp4
          have k0 := HGJ.out.cell (hc4 0 _ rfl)
          have k1 := HGJ.out.cell (hc4 1 _ rfl)
          have k2 := HGJ.out.cell (hc4 2 _ rfl)
          simp only [Nat.add_zero] at k0
          have hbr4 := Nat.lt_of_lt_of_le hb4 HGJ.out.size
          have HTS := Lib.hid (show (r.acts.take (j + 1)).map (stepA s) = (r.acts.take j).map (stepA s) ++ [stepA s ⟨doo, nmx, pox⟩] by
           rw [List.take_add_one, hx]; simp)
          obtain ⟨L, hL⟩ : ∃ L, (r.acts.take j).map (stepA s) = L := ⟨_, rfl⟩
          have HLJ := Lib.hid (show L.length = j by
           rw [← hL, List.length_map, List.length_take]
           have := (List.getElem?_eq_some_iff.1 hx).1
           omega)
          rw [hL] at HRJ HTS
          clear hx hj hjn hc4 hb4 hL
          go_upto_region 29 with fail
          refine name_world (fun Wa hWa => ?_)
          have xe : boxAt Wa wr.heap.size [.int .i64 doo, .string nmx, .int .i64 pox] := by rw [hWa]; exact (by first | exact (boxAt.new_atN _ _ _ rfl rfl).later (Gr.alloc _ _))
          have xt : boxAt Wa (wr.heap.size + 1) [.int .i64 doo, .int .i64 0] := by rw [hWa]; exact (by first | exact boxAt.new_atN _ _ _ rfl (by simp))
          have hga : Gr wr Wa := by rw [hWa]; exact (Gr.alloc _ _).trans (Gr.alloc _ _)
          obtain ⟨eb, heb⟩ : ∃ b, wr.heap.size = b := ⟨_, rfl⟩
          obtain ⟨tb, htb⟩ : ∃ b, eb + 1 = b := ⟨_, rfl⟩
          have HET := Lib.hid (show eb ≠ tb by omega)
          have HRA := Lib.hid (HRJ.out.later hga)
          have HTB := Lib.hid (show wr.heap.size ≤ tb by omega)
          have HGA := Lib.hid hga
          have HNT := Lib.hid (show nb ≠ tb from fun e => by have := HRJ.out.box.lt (by simp); omega)
          have xb := HRA.out.box
          rw [heb] at xe xt
          rw [htb] at xt
          simp only [heb, htb]
          clear hWa k0 k1 k2 hbr hbr4 y25 hga heb htb
          clear c_b0 c_b1 c_b2 c_b3 m_b0 m_b1 m_b2 m_b3 l_b
          clear c_s0 c_s1 c_s2 m_s0 m_s1 m_s2 l_s
          clear xs
          by_cases h3 : doo = 3
          ·
           have HST := Lib.hid (show stepA s ⟨doo, nmx, pox⟩ = (3, 0) by unfold stepA; dsimp only; rw [if_pos h3, h3])
           subst h3
           obtain ⟨c_e0, c_e1, c_e2, m_e0, m_e1, m_e2, l_e⟩ := unb3 xe
           obtain ⟨c_t0, c_t1, m_t0, m_t1, l_t⟩ := unb2 xt
           have HLAST := Lib.hid (show Wa.ownsRow wc.heap.size 83 2 (.slice pl j cl) j (L.flatMap prC) from HRA.out.row (List.mem_append_right _ (List.mem_singleton.2 rfl)))
           go_wp2_with (at_builtin; refine wpList_append_own_at _ rfl (.tmp 114) (.tmp 116) 81 rfl wc.heap.size 83 iT (.agg #[.int .i64 0, .int .i64 0]) 2 16 Tryz.underlying81 tI ty0 ty1 ty2 rfl (by decide) _ j (L.flatMap prC) rfl (HLAST.out.alloc _) ⟨Wa.heap.size, 0, none⟩ 1 1 [.int .i64 3, .int .i64 0] rfl rfl (new_cells _ _ _) (by intro u hu; simp at hu; rcases hu with rfl | rfl <;> rfl) (by have := HJN.out; have := HAB.out; unfold maxLen; omega) (by have := HJN.out; have := HAB.out; omega) (Nat.le_trans HRA.out.kp.size (Gr.alloc _ _).size) ?_; intro v' w4' hown4 hg4 _ hloc; obtain ⟨p4, c4', rfl⟩ := (Sl.of_owns hown4).len; have HOW4 := Lib.hid hown4; have HG4 := Lib.hid hg4; have HLOC := Lib.hid hloc; clear hown4 hg4 hloc)
           clear c_e0 c_e1 c_e2 m_e0 m_e1 m_e2 l_e
           clear c_t0 c_t1 m_t0 m_t1 l_t
           clear xe xt xb
           go_roundw
           case rel => exact ⟨j + 1, HJN.out, by go_num, Lib.hid (by
            rw [HTS.out, HST.out, List.flatMap_append]
            exact R6I.grow (E := []) (HRA.out.later (Gr.alloc Wa (.cells #[.int .i64 3, .int .i64 0] 83))) HG4.out HOW4.out HLOC.out)⟩
           case measure => have := HJN.out; simp [intOf]; omega
          ·
           have h3b : (doo != 3) = true := by rw [bne_iff_ne]; exact h3
           have HST := Lib.hid (show stepA s ⟨doo, nmx, pox⟩ = (doo, atI (modesN s) nmx) by
            unfold stepA
            dsimp only
            rw [if_neg h3, atI_some (memN_iff.2 (HUX.out h3))])
           have HIX := Lib.hid (index6_any (modesN s) (.slice q1 n1 c1) n1 HN1.out nmx Wa (by have h := HMK.out Wa (HKW.out Wa HRA.out.kp); rw [HN1.out] at h; exact h))
           obtain ⟨c, hcc⟩ : ∃ c, atI (modesN s) nmx = c := ⟨_, rfl⟩
           rw [hcc] at HIX HST
           obtain ⟨c_e0, c_e1, c_e2, m_e0, m_e1, m_e2, l_e⟩ := unb3 xe
           obtain ⟨c_t0, c_t1, m_t0, m_t1, l_t⟩ := unb2 xt
           obtain ⟨c_b0, c_b1, c_b2, c_b3, m_b0, m_b1, m_b2, m_b3, l_b⟩ := unb4 xb
           clear h3 hcc
           go_wp2_with fail
           go_at_call 40
           (with_reducible refine HIX.out.mono ?_); rintro e w9 ⟨rfl, hw9⟩; subst w9
           go_upto_region 31 with fail
           refine name_world (fun Wb hWb => ?_)
           have xt2 : boxAt Wb tb [.int .i64 doo, .int .i64 c] := by rw [hWb]; exact xt.put 1 _ (by simp)
           have HRB := Lib.hid (show R6I wc nb (actM s n1) C (.slice q1 n1 c1) (.slice p1 k d1) (.slice q2 n2 c2) v3 vs1 vs3 [⟨.slice pl j cl, 83, 2, j, L.flatMap prC⟩] Wb by
            have hg2 : Gr wr Wb := by rw [hWb]; exact Below.setCell HGA.out HTB.out _
            exact HRJ.out.later hg2)
           clear c_e0 c_e1 c_e2 m_e0 m_e1 m_e2 l_e
           clear c_t0 c_t1 m_t0 m_t1 l_t
           clear c_b0 c_b1 c_b2 c_b3 m_b0 m_b1 m_b2 m_b3 l_b
           clear hWb xe xt xb
           obtain ⟨c_t0, c_t1, m_t0, m_t1, l_t⟩ := unb2 xt2
           have HLAST := Lib.hid (show Wb.ownsRow wc.heap.size 83 2 (.slice pl j cl) j (L.flatMap prC) from HRB.out.row (List.mem_append_right _ (List.mem_singleton.2 rfl)))
           go_wp2_with (at_builtin; refine wpList_append_own_at _ rfl (.tmp 114) (.tmp 116) 81 rfl wc.heap.size 83 iT (.agg #[.int .i64 0, .int .i64 0]) 2 16 Tryz.underlying81 tI ty0 ty1 ty2 rfl (by decide) _ j (L.flatMap prC) rfl (HLAST.out.alloc _) ⟨Wb.heap.size, 0, none⟩ 1 1 [.int .i64 doo, .int .i64 c] rfl rfl (new_cells _ _ _) (by intro u hu; simp at hu; rcases hu with rfl | rfl <;> rfl) (by have := HJN.out; have := HAB.out; unfold maxLen; omega) (by have := HJN.out; have := HAB.out; omega) (Nat.le_trans HRB.out.kp.size (Gr.alloc _ _).size) ?_; intro v' w4' hown4 hg4 _ hloc; obtain ⟨p4, c4', rfl⟩ := (Sl.of_owns hown4).len; have HOW4 := Lib.hid hown4; have HG4 := Lib.hid hg4; have HLOC := Lib.hid hloc; clear hown4 hg4 hloc)
           clear c_t0 c_t1 m_t0 m_t1 l_t
           clear xt2
           go_roundw
           case rel => exact ⟨j + 1, HJN.out, by go_num, Lib.hid (by
            rw [HTS.out, HST.out, List.flatMap_append]
            exact R6I.grow (E := []) (HRB.out.later (Gr.alloc Wb (.cells #[.int .i64 doo, .int .i64 c] 83))) HG4.out HOW4.out HLOC.out)⟩
           case measure => have := HJN.out; simp [intOf]; omega
         ·
          have hjI : ¬ (j : Int) < (nua : Int) := by omega
          have hje : j = nua := by omega
          have HRZ := Lib.hid (show R6I wc nb (actM s n1) C (.slice q1 n1 c1) (.slice p1 k d1) (.slice q2 n2 c2) v3 vs1 vs3 [⟨.slice pl j cl, 83, 2, j, (r.acts.map (stepA s)).flatMap prC⟩] wr by
           have h := HRJ.out
           rw [List.take_of_length_le (by rw [HMA.out]; omega)] at h
           exact h)
          have HRL := Lib.hid (show (r.acts.map (stepA s)).length = j by rw [List.length_map, HMA.out]; exact hje.symm)
          have hrow3 := HRZ.out.row (r := ⟨v3, 81, 1, C.length, vs3⟩) (by simp [nms6])
          dsimp only at hrow3
          rw [HCK2.out] at hrow3
          obtain ⟨p3, c3, rfl⟩ := (Sl.of_owns hrow3).len
          have HROW3 := Lib.hid hrow3
          have HNE3 := Lib.hid (HRZ.out.ne (r := ⟨.slice p3 m c3, 81, 1, C.length, vs3⟩) (by simp [nms6]))
          clear hj hjn hje HRJ hrow3
          go_wp2_with (at_builtin; refine wpList_append_own_at _ rfl (.tmp 119) (.tmp 121) 33 rfl wc.heap.size 81 iU (.slice none 0 0) 1 24 Tryz.underlying33 uI uy0 uy1 uy2 rfl (by decide) _ m vs3 rfl (HROW3.out.alloc _) ⟨wr.heap.size, 0, none⟩ 1 1 [.slice pl j cl] rfl rfl (new_cells _ _ _) (by intro u hu; simp at hu; subst hu; rfl) (by have := HMN.out; have := HNR2.out; unfold maxLen; omega) (by have := HMN.out; have := HNR2.out; omega) (Nat.le_trans HRZ.out.kp.size (Gr.alloc _ _).size) ?_; intro v' w4' hown4 hg4 _ hloc; obtain ⟨p4, c4', rfl⟩ := (Sl.of_owns hown4).len; have HOW4 := Lib.hid hown4; have HG4 := Lib.hid hg4; have HLOC := Lib.hid hloc; have yb := (xb.later (Gr.alloc _ _)).grown hg4 (by simp) (HNE3.out); have q3 := yb.cell 3 _ rfl; have r3 := yb.mark 3 _ rfl; have ql := yb.lt (Nat.succ_pos _); clear hown4 hg4 hloc)
          clear c_b0 c_b1 c_b2 c_b3 m_b0 m_b1 m_b2 m_b3 l_b
          clear c_s0 c_s1 c_s2 m_s0 m_s1 m_s2 l_s
          clear q3 r3 ql yb xb xs y25 hbr
          go_roundw
          case rel => exact ⟨m + 1, HMN.out, by go_num, _, _, Lib.hid (by
           have h5 := HRZ.out.later (Gr.alloc wr (.cells #[.slice pl j cl] 81))
           rw [HCS.out]
           exact R6I.acts h5 HRL.out HG4.out (by rw [HCK2.out]; exact HOW4.out) HLOC.out)⟩
          case measure => have := HMN.out; simp [intOf]; omega
       ·
        have hmI : ¬ (m : Int) < (nr : Int) := by omega
        have hme : m = nr := by omega
        have HRF := Lib.hid (show R6I wc nb (actM s n1) (actsR s) (.slice q1 n1 c1) (.slice p1 k d1) (.slice q2 n2 c2) v3 vs1 vs3 [] wr by
         have h := HRE.out
         rw [hme, List.take_of_length_le (by unfold actsR; rw [List.length_map, ← HHR.out, List.length_map, HNR.out]; exact Nat.le_refl _)] at h
         exact h)
        have z3 := HRF.out.row (r := ⟨v3, 81, 1, (actsR s).length, vs3⟩) (by simp [nms6])
        dsimp only at z3
        obtain ⟨n3, hn3⟩ : ∃ n, (actsR s).length = n := ⟨_, rfl⟩
        rw [hn3] at z3
        obtain ⟨p3, c3, rfl⟩ := (Sl.of_owns z3).len
        have HGR := Lib.hid (HTG.out wr HRF.out.kp)
        have xr := HRF.out.kp.box XRC.out HNB.out.2.2.1 (by simp)
        have xg := HRF.out.kp.box XGC.out HNB.out.2.2.2 (by simp)
        have HLT := Lib.hid (show rb < wc.heap.size ∧ gb < wc.heap.size from ⟨XRC.out.lt (by simp), XGC.out.lt (by simp)⟩)
        have HACT := Lib.hid (show actM s n1 = (namesN s).active from by rw [← HN1.out]; rfl)
        clear hm hmn HRE hme z3 hn3
        obtain ⟨c_b0, c_b1, c_b2, c_b3, m_b0, m_b1, m_b2, m_b3, l_b⟩ := unb4 xb
        obtain ⟨c_s0, c_s1, c_s2, m_s0, m_s1, m_s2, l_s⟩ := unb3 xs
        obtain ⟨c_r0, c_r1, c_r2, c_r3, m_r0, m_r1, m_r2, m_r3, l_r⟩ := unb4 xr
        obtain ⟨c_g0, c_g1, c_g2, c_g3, c_g4, m_g0, m_g1, m_g2, m_g3, m_g4, l_g⟩ := unb5 xg
        have hne := HNE.out
        go_wp2_with fail
        refine name_body (fun W hW => ?_)
        have yb : boxAt W rb [.slice q1 n1 c1, .slice p1 k d1, .slice q2 n2 c2, .slice p3 n3 c3] := by subst hW; exact (((((((((xr.put 0 _ (by simp)).put 1 _ (by simp)).put 2 _ (by simp)).put 3 _ (by simp)).far ⟨gb, 0, none⟩ _ HNE.out.2).far ⟨gb, 1, none⟩ _ HNE.out.2).far ⟨gb, 2, none⟩ _ HNE.out.2).far ⟨gb, 3, none⟩ _ HNE.out.2).far ⟨gb, 4, none⟩ _ HNE.out.2)
        have zb : boxAt W gb [.int .i64 0, .int .i64 0, .int .i64 0, .int .i64 0, .slice none 0 0] := by subst hW; exact (((((((((xg.far ⟨rb, 0, none⟩ _ HNE.out.1).far ⟨rb, 1, none⟩ _ HNE.out.1).far ⟨rb, 2, none⟩ _ HNE.out.1).far ⟨rb, 3, none⟩ _ HNE.out.1).put 0 _ (by simp)).put 1 _ (by simp)).put 2 _ (by simp)).put 3 _ (by simp)).put 4 _ (by simp))
        have hgz : Gr w W := by subst hW; exact (Below.setCell (Below.setCell (Below.setCell (Below.setCell (Below.setCell (Below.setCell (Below.setCell (Below.setCell (Below.setCell HGR.out HLO.out.1 _) HLO.out.1 _) HLO.out.1 _) HLO.out.1 _) HLO.out.2 _) HLO.out.2 _) HLO.out.2 _) HLO.out.2 _) HLO.out.2 _)
        have hkv : KpR [nb, rb, gb] wc W := by subst hW; exact ((((((((((HKW.out wr HRF.out.kp).put (a := ⟨rb, 0, none⟩) (.inr (by simp)) _).put (a := ⟨rb, 1, none⟩) (.inr (by simp)) _).put (a := ⟨rb, 2, none⟩) (.inr (by simp)) _).put (a := ⟨rb, 3, none⟩) (.inr (by simp)) _).put (a := ⟨gb, 0, none⟩) (.inr (by simp)) _).put (a := ⟨gb, 1, none⟩) (.inr (by simp)) _).put (a := ⟨gb, 2, none⟩) (.inr (by simp)) _).put (a := ⟨gb, 3, none⟩) (.inr (by simp)) _).put (a := ⟨gb, 4, none⟩) (.inr (by simp)) _)
        have HNI := Lib.hid (show NmsIn W (namesN s).modes (namesN s).active (namesN s).order (namesN s).acts (.slice q1 n1 c1) (.slice p1 k d1) (.slice q2 n2 c2) (.slice p3 n3 c3) from by
         have hrw : Rws W wc.heap.size [nb] (nms6 (actM s n1) (actsR s) (.slice p1 k d1) (.slice p3 n3 c3) vs1 vs3) := by
          have h := HRF.out.rws
          rw [List.append_nil] at h
          refine h.keep (fun g _ hg2 _ => ?_)
          have h3 : rb ≠ g := by have := HLT.out.1; omega
          have h4 : gb ≠ g := by have := HLT.out.2; omega
          subst hW
          repeat rw [setCell_far _ _ _ _ h4]
          repeat rw [setCell_far _ _ _ _ h3]
         obtain ⟨h1, h2⟩ := rws_told HRF.out.l1 HRF.out.l3 hrw
         refine ⟨HMK.out W hkv, by rw [← HACT.out]; exact h1, ?_, h2⟩
         have h5 := HOK.out W hkv
         rw [← HN2.out, ← HL2.out] at h5
         rw [← HN2.out]
         exact h5)
        clear hW
        obtain ⟨c_y0, c_y1, c_y2, c_y3, m_y0, m_y1, m_y2, m_y3, l_y⟩ := unb4 yb
        obtain ⟨c_z0, c_z1, c_z2, c_z3, c_z4, m_z0, m_z1, m_z2, m_z3, m_z4, l_z⟩ := unb5 zb
        refine bodyPost_ret (v := .tuple #[.agg #[.slice q1 n1 c1, .slice p1 k d1, .slice q2 n2 c2, .slice p3 n3 c3], .agg #[.int .i64 0, .int .i64 0, .int .i64 0, .int .i64 0, .slice none 0 0]]) (by simp [results, Tryz.results11, go_sem, c_y0, c_y1, c_y2, c_y3, c_z0, c_z1, c_z2, c_z3, c_z4]) rfl ?_
        exact ⟨.fine _ _ _ _ HSP.out HBZ.out HNO.out HNI.out rfl, hgz⟩
end Go.Proofs.YtkkopdmemjncdaaGreatDoor
