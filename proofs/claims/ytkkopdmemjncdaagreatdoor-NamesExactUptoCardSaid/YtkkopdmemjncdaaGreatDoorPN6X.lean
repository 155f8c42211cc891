/- Texts of mine, put together: N6X, N6Form. No condition but what each says. -/
import Derived.Test.YtkkopdmemjncdaaGreatDoorPN6O
import Derived.Test.YtkkopdmemjncdaaGreatDoorPHl
import Derived.Test.YtkkopdmemjncdaaGreatDoorPNmCs
import Derived.Test.YtkkopdmemjncdaaGreatDoorPSpIn
import Derived.Test.YtkkopdmemjncdaaGreatDoorPGc
namespace Go.Proofs.YtkkopdmemjncdaaGreatDoor
open Go Go.RowKit Go.Maps
def FileIn (w : World) (s : Sc) (cs : List Value) : Prop := ∃ vm vd vr, cs = [vm, vd, vr] ∧ Nonempty (ScIn w s vm vd vr) ∧ wtS s ≤ 1048576
theorem rules_wt (s : Sc) : s.rules.length ≤ wtS s := by
 have := len_sum6 wtR (fun r => by
  have : 1 ≤ wtE r.head := by cases r.head; rw [wtE]; omega
  unfold wtR; omega) s.rules
 unfold wtS; omega
theorem Rws.gr {w w' : World} {B : Nat} {X : List Nat} {L : List RwE} (h : Rws w B X L) (hG : Gr w w') : Rws w' B X L := h.keep (fun g hg _ _ => Below.block hG g hg)
theorem blks_of {vs : List Value} {A : List (List Nat)} {w : World} {B : Nat} {X : List Nat} (hl : vs.length = A.length) (h : Rws w B X (rowsE A vs)) : ∀ g ∈ blks vs, B ≤ g ∧ g < w.heap.size := fun g hg => by
 obtain ⟨u, hu, hg2⟩ := List.mem_flatMap.1 hg
 obtain ⟨i, hi, hie⟩ := List.mem_iff_getElem.1 hu
 obtain ⟨r, hr⟩ : ∃ r, A[i]? = some r := ⟨_, List.getElem?_eq_getElem (by omega)⟩
 obtain ⟨u2, h1, h2⟩ := rowsE_get A vs i r hl hr
 rw [List.getElem?_eq_getElem hi, hie] at h1
 injection h1 with h1
 subst h1
 exact (h.own _ h2).lt g (by simpa using hg2)
theorem blks_apart {vs : List Value} {A : List (List Nat)} {w : World} {B : Nat} {X : List Nat} {r : RwE} {L : List RwE} (hl : vs.length = A.length) (h : Rws w B X (r :: (L ++ rowsE A vs))) : ∀ g, r.v.ownBlock = some g → g ∉ blks vs := fun g hg hm => by
 obtain ⟨u, hu, hg2⟩ := List.mem_flatMap.1 hm
 obtain ⟨i, hi, hie⟩ := List.mem_iff_getElem.1 hu
 obtain ⟨q, hq⟩ : ∃ r, A[i]? = some r := ⟨_, List.getElem?_eq_getElem (by omega)⟩
 obtain ⟨u2, h1, h2⟩ := rowsE_get A vs i q hl hq
 rw [List.getElem?_eq_getElem hi, hie] at h1
 injection h1 with h1
 subst h1
 have hp := h.apart
 rw [List.pairwise_cons] at hp
 exact hp.1 _ (List.mem_append_right _ h2) g hg (by simpa using hg2)
set_option maxRecDepth 100000 in
set_option maxHeartbeats 32000000 in
theorem
    namesExact_any (cl : List (Sc × List Value)) (v : Value) (w : World) (es : Nat → Addr) (hF : FaultsIn w es) (hv : Sl w v 3 cl.length (cl.flatMap (·.2))) (hc : ∀ p ∈ cl, FileIn w p.1 p.2) : Calls Tryz.prog 3 #[v] w fun e w' => e = .returned (.bool true) ∧ Gr w w' := by
 have hF1 := hF
 have HF := Lib.hid hF
 have HWK := Lib.hid (fun W (hG : Gr w W) => wakes6_any W es (hF1.later hG))
 obtain ⟨pv, cv, rfl⟩ := hv.len
 obtain ⟨n, hn⟩ : ∃ n, cl.length = n := ⟨_, rfl⟩
 have hmx := hv.2.1
 unfold maxLen at hmx
 have HV := Lib.hid hv
 have HC := Lib.hid hc
 have HN := Lib.hid hn
 rw [hn] at hmx ⊢
 clear hF hF1 hv hc hn
 go_enter Tryz.func3, Tryz.ntmps3
 go_wp2_with fail
 go_loopw [3] (fun i wr => ∃ k : Nat, k ≤ n ∧ k ≤ 10 ∧ i = .int .i64 (k : Int) ∧ Gr w wr) (fun i _ => n - (intOf i).toNat)
 case atStart => exact ⟨0, Nat.zero_le _, by omega, rfl, Gr.refl _⟩
 case round =>
  obtain ⟨k, hk, hk10, rfl, hgr⟩ := hrel
  rcases Nat.lt_or_ge k n with hkn | hkn
  rotate_left
  ·
   have hkI : ¬ (k : Int) < (n : Int) := by omega
   clear hk hk10 hkn
   go_wp2_with fail
   go_at_call 21
   (with_reducible refine (HWK.out wr hgr).mono ?_); rintro e w2 ⟨rfl, hg2⟩
   go_wp2_with fail
   go_ret
   exact ⟨rfl, hgr.trans hg2⟩
  rcases Nat.lt_or_ge k 10 with hk9 | hk9
  rotate_left
  ·
   have hkI : (k : Int) < (n : Int) := by omega
   have hkT : ¬ (k : Int) < 10 := by omega
   clear hk hk10 hkn hk9
   go_wp2_with fail
   go_at_call 21
   (with_reducible refine (HWK.out wr hgr).mono ?_); rintro e w2 ⟨rfl, hg2⟩
   go_wp2_with fail
   go_ret
   exact ⟨rfl, hgr.trans hg2⟩
  have hkI : (k : Int) < (n : Int) := by omega
  have hkT : (k : Int) < 10 := by omega
  have HKN := Lib.hid hkn
  have HK9 := Lib.hid hk9
  obtain ⟨⟨s, cs⟩, hx⟩ : ∃ x, cl[k]? = some x := ⟨_, List.getElem?_eq_getElem (by rw [HN.out]; exact hkn)⟩
  obtain ⟨b0, o0, hpv, hb0, hc0⟩ := elem_at HV.out (fun x hx => by obtain ⟨_, _, _, h, _⟩ := HC.out x hx; rw [h]; rfl) rfl hx
  obtain ⟨vm, vd, vr, hcs, ⟨hs⟩, hwt⟩ := HC.out _ (List.mem_of_getElem? hx)
  dsimp only at hcs hs hwt hc0
  subst hcs hpv
  have hdl : s.defs.length ≤ 1048576 := Nat.le_trans (defs_wt s) hwt
  have hru := refs_wtS hwt
  have HRLE := Lib.hid (Nat.le_trans (rules_wt s) hwt)
  have HRU := Lib.hid hru
  have HDL := Lib.hid hdl
  have HHV := Lib.hid (fun W (hG : Gr w W) => heavy6_any s vm vd vr W (hs.later hG))
  have HCS := Lib.hid (fun W (hG : Gr w W) => copySpec_any s W vm vd vr (hs.later hG))
  have HR6 := Lib.hid (fun W (hG : Gr w W) => resolve6_any s W vm vd vr (hs.later hG) hru)
  have HEQ := Lib.hid (fun W (hG : Gr w W) um ud ur (hu : ScIn W s um ud ur) => eqSpec_self s W um ud ur vm vd vr hu (hs.later hG))
  have HRS := Lib.hid (fun W (hG : Gr w W) um ud ur (hu : ScIn W s um ud ur) => resolve_any s W um ud ur (esN es 15) (esN es 6) (esN es 7) hu (faults_glo (HF.out.later hG)).1 (faults_glo (HF.out.later hG)).2.1 (faults_glo (HF.out.later hG)).2.2 ⟨_, _, rfl⟩ ⟨_, _, rfl⟩ ⟨_, _, rfl⟩ hru)
  obtain ⟨pm, nm, cm, evm⟩ : ∃ p n c, vm = .slice p n c := by
   obtain ⟨p, c, h⟩ := hs.modes.len
   exact ⟨p, _, c, h⟩
  obtain ⟨pr, nr, cr, evr⟩ : ∃ p n c, vr = .slice p n c := by
   obtain ⟨p, c, h⟩ := hs.rules.len
   exact ⟨p, _, c, h⟩
  obtain ⟨dl, rl, hd, hr, hm, hmo, hmn, hmb, hds, hdi, hdn, hdb, hrs, hri, hrn, hrb⟩ := hs
  obtain ⟨nd, hnd⟩ : ∃ n, dl.length = n := ⟨_, rfl⟩
  obtain ⟨pd, cd, evd⟩ := hds.len
  rw [hnd] at evd
  have HND := Lib.hid hnd
  have HDS := Lib.hid hds
  have HDI := Lib.hid hdi
  have HHD := Lib.hid hd
  have hndI : (nd : Int) ≤ 1048576 := by
   have h : dl.length = s.defs.length := by rw [← hd, List.length_map]
   omega
  subst evm evd evr
  have HC0 := Lib.hid (fun t u (h : ([.slice pm nm cm, .slice pd nd cd, .slice pr nr cr] : List Value)[t]? = some u) => hc0 t u h)
  have HB0 := Lib.hid hb0
  unfold scV at HHV HCS HR6 HEQ HRS
  have hg := hgr
  have k0 : wr.cell? ⟨b0, o0 + k * 3, none⟩ = some (.slice pm nm cm) := hgr.cell (HC0.out 0 _ rfl)
  have k1 : wr.cell? ⟨b0, o0 + k * 3 + 1, none⟩ = some (.slice pd nd cd) := hgr.cell (HC0.out 1 _ rfl)
  have k2 : wr.cell? ⟨b0, o0 + k * 3 + 2, none⟩ = some (.slice pr nr cr) := hgr.cell (HC0.out 2 _ rfl)
  have hbr := Nat.lt_of_lt_of_le HB0.out hgr.size
  clear hk hk10 hkn hk9 hx hc0 hb0 hd hr hm hmo hmn hmb hds hdi hdn hdb hrs hri hrn hrb hnd hwt hdl hru hg
  go_wp2_with fail
  go_at_call 9
  (with_reducible refine (HHV.out wr hgr).mono ?_); rintro e w1 ⟨⟨hb, rfl⟩, hg1⟩
  have hgw1 := hgr.trans hg1
  clear k0 k1 k2 hbr HHV
  cases hb with
  |
   true =>
   go_wp2_with fail
   go_roundw
   case rel => exact ⟨k + 1, HKN.out, HK9.out, by go_num, hgw1⟩
   case measure => have := HKN.out; simp [intOf]; omega
  |
   false
      =>
   have k0 : w1.cell? ⟨b0, o0 + k * 3, none⟩ = some (.slice pm nm cm) := hgw1.cell (HC0.out 0 _ rfl)
   have k1 : w1.cell? ⟨b0, o0 + k * 3 + 1, none⟩ = some (.slice pd nd cd) := hgw1.cell (HC0.out 1 _ rfl)
   have k2 : w1.cell? ⟨b0, o0 + k * 3 + 2, none⟩ = some (.slice pr nr cr) := hgw1.cell (HC0.out 2 _ rfl)
   have hbr := Nat.lt_of_lt_of_le HB0.out hgw1.size
   go_wp2_with fail
   go_at_call 10
   (with_reducible refine (HCS.out w1 hgw1).mono ?_); rintro e w2 ⟨um, ud, ur, rfl, ⟨hcp⟩, hg2⟩
   have hcs := hcp.scIn
   obtain ⟨pm', nm', cm', rfl⟩ : ∃ p n c, um = .slice p n c := by
    obtain ⟨p, c, h⟩ := hcs.modes.len
    exact ⟨p, _, c, h⟩
   obtain ⟨pr', nr', cr', rfl⟩ : ∃ p n c, ur = .slice p n c := by
    obtain ⟨p, c, h⟩ := hcs.rules.len
    exact ⟨p, _, c, h⟩
   have hnd2 : hcs.dl.length = nd := by
    have h : (hcs.dl.map (·.1)).length = (dl.map (·.1)).length := by rw [hcs.hd, HHD.out]
    rw [List.length_map, List.length_map, HND.out] at h
    exact h
   obtain ⟨pd', cd', hud⟩ := hcs.defs.len
   rw [hnd2] at hud
   subst hud
   obtain ⟨el, hel⟩ : ∃ l, hcs.dl = l := ⟨_, rfl⟩
   have HES := Lib.hid (show Sl w2 (.slice pd' nd cd') 12 el.length (el.flatMap (·.2)) from by
    have h := hcs.defs
    rw [hel] at h
    exact h)
   have HEI := Lib.hid (show ∀ p ∈ el, DfIn w2 p.1 p.2 from hel ▸ hcs.defsI)
   have HEN := Lib.hid (show el.length = nd from hel ▸ hnd2)
   have HEX := Lib.hid (show ∀ (j : Nat) (x : Df × List Value), el[j]? = some x → ∃ ds, dl[j]? = some (x.1, ds) from fun j x hx => by
    have h1 : (dl.map (·.1))[j]? = some x.1 := by rw [HHD.out, ← hcs.hd, hel, List.getElem?_map, hx]; rfl
    rw [List.getElem?_map] at h1
    cases h2 : dl[j]? with
    | none => rw [h2] at h1; cases h1
    |
     some y =>
     rw [h2] at h1
     injection h1 with h1
     exact ⟨y.2, by rw [← h1]⟩)
   have HSC := Lib.hid (fun W (hG : Gr w2 W) => Nonempty.intro (hcs.later hG))
   have hgw2 := hgw1.trans hg2
   clear k0 k1 k2 hbr hg2 hcp hnd2 hel hg1 hgr HCS
   try dsimp only
   go_upto_region 6 with fail
   refine name_world (fun w3 hw3 => ?_)
   have xs : boxAt w3 w2.heap.size [.slice pm' nm' cm', .slice pd' nd cd', .slice pr' nr' cr'] := by rw [hw3]; exact (by first | exact boxAt.new_atN _ _ _ rfl rfl | exact ((((boxAt.new_atN _ _ _ rfl rfl).put 0 _ (by simp)).put 1 _ (by simp)).put 2 _ (by simp)))
   have hg3 : Gr w2 w3 := by rw [hw3]; exact (by first | exact Gr.alloc _ _ | exact (Below.setCell (Below.setCell (Below.setCell (Gr.alloc _ _) (Nat.le_refl _) _) (Nat.le_refl _) _) (Nat.le_refl _) _))
   obtain ⟨sb, hsb⟩ : ∃ b, w2.heap.size = b := ⟨_, rfl⟩
   rw [hsb] at xs
   simp only [hsb]
   clear hw3 hsb
   have hgw3 := hgw2.trans hg3
   have k0 : w3.cell? ⟨b0, o0 + k * 3, none⟩ = some (.slice pm nm cm) := hgw3.cell (HC0.out 0 _ rfl)
   have k1 : w3.cell? ⟨b0, o0 + k * 3 + 1, none⟩ = some (.slice pd nd cd) := hgw3.cell (HC0.out 1 _ rfl)
   have k2 : w3.cell? ⟨b0, o0 + k * 3 + 2, none⟩ = some (.slice pr nr cr) := hgw3.cell (HC0.out 2 _ rfl)
   have hbr := Nat.lt_of_lt_of_le HB0.out hgw3.size
   go_wp2_with fail
   go_at_call 11
   (with_reducible refine (HR6.out w3 hgw3).mono ?_); rintro e w4 ⟨hr6, hg4⟩
   obtain ⟨a0, a1, a2, a3, l0, g0, l1, g1, l2, g2, l3, g3, fc, fm, fp, fn, fk, rfl⟩ := rf6_form hr6
   have HR7 := Lib.hid hr6
   have xs4 := xs.later hg4
   have hg24 := hg3.trans hg4
   clear k0 k1 k2 hbr hr6 xs HR6
   go_upto_region 7 with fail
   refine name_world (fun w5 hw5 => ?_)
   obtain ⟨ab, hab⟩ : ∃ b, w4.heap.size = b := ⟨_, rfl⟩
   obtain ⟨fb, hfb⟩ : ∃ b, ab + 1 = b := ⟨_, rfl⟩
   have hg5 : Gr w4 w5 := by rw [hw5]; exact (by first | exact (Gr.alloc _ _).trans (Gr.alloc _ _) | skip)
   have xa : boxAt w5 ab [.slice a0 l0 g0, .slice a1 l1 g1, .slice a2 l2 g2, .slice a3 l3 g3] := by rw [hw5, ← hab]; exact (by first | exact (boxAt.new_atN _ _ _ rfl rfl).later (Gr.alloc _ _) | skip)
   have xf : boxAt w5 fb [.int .i64 fc, .int .i64 0, .int .i64 0, .int .i64 fm, .slice fp fn fk] := by rw [hw5, ← hfb, ← hab]; exact (by first | exact boxAt.new_atN _ _ _ rfl (by simp) | skip)
   simp only [hab, hfb]
   clear hw5 hab hfb
   have XS := Lib.hid (xs4.later hg5)
   have XA := Lib.hid xa
   have XF := Lib.hid xf
   have HG45 := Lib.hid hg5
   have HG25 := Lib.hid (hg24.trans hg5)
   have HGW := Lib.hid (hgw2.trans (hg24.trans hg5))
   clear xs4 xa xf hg5 hg24 hg4 hg3 hgw1 hgw2 hgw3
   go_wp2_with fail
   go_loopw [7] (fun i wz => ∃ q : Nat, q ≤ 2 ∧ i = .int .i64 (q : Int) ∧ Hid (Gr w5 wz)) (fun i _ => 2 - (intOf i).toNat)
   case atStart => exact ⟨0, by omega, rfl, Lib.hid (Gr.refl _)⟩
   case round =>
    obtain ⟨q, hq, rfl, HGZ⟩ := hrel
    rcases Nat.lt_or_ge q 2 with hqn | hqn
    ·
     have hqI : (q : Int) < 2 := by omega
     have HQN := Lib.hid hqn
     have xs := XS.out.later HGZ.out
     obtain ⟨c_s0, c_s1, c_s2, m_s0, m_s1, m_s2, l_s⟩ := unb3 xs
     obtain ⟨hcz⟩ := HSC.out wr (HG25.out.trans HGZ.out)
     have HRZ := Lib.hid (HRS.out wr (HGW.out.trans HGZ.out) _ _ _ hcz)
     clear hq hqn hcz
     go_wp2_with fail
     go_at_call 12
     (with_reducible refine HRZ.out.mono ?_); rintro e w6 ⟨hre, hg6⟩
     clear c_s0 c_s1 c_s2 m_s0 m_s1 m_s2 l_s
     obtain ⟨p0, p1, p2, p3, n0, k0, n1, k1, n2, k2, n3, k3, ev, B, N, A, vs1, O, hal⟩ := alike6 HR7.out (HG45.out.trans HGZ.out) (HF.out.later ((HGW.out.trans HGZ.out).trans hg6)) HDL.out HRLE.out hre hg6
     obtain rfl := hal.he
     have HAL := Lib.hid hal
     have b0I : (n0 : Int) ≤ 1048576 := by have := hal.b0; omega
     have HBLK := Lib.hid (blks_of hal.l1 (hal.rws.sub (List.Sublist.cons _ (List.Sublist.cons _ (List.Sublist.refl _)))))
     have HAPT := Lib.hid (blks_apart (L := [(⟨.slice p1 n1 k1, 32, 1, n1, vs1⟩ : RwE)]) hal.l1 hal.rws)
     have H0LT := Lib.hid (fun g (hg : (Value.slice p0 n0 k0).ownBlock = some g) => (hal.rws.own _ (List.mem_cons_self ..)).lt g hg)
     have H2LT := Lib.hid (fun g (hg : (Value.slice p2 n2 k2).ownBlock = some g) => hal.own.lt g hg)
     clear xs hre hal HRZ
     go_upto_region 11 with fail
     refine name_world (fun w7 hw7 => ?_)
     have hg7 : Gr w6 w7 := by rw [hw7]; exact (by first | exact Gr.alloc _ _ | exact (Below.setCell (Below.setCell (Below.setCell (Below.setCell (Gr.alloc _ _) (Nat.le_refl _) _) (Nat.le_refl _) _) (Nat.le_refl _) _) (Nat.le_refl _) _))
     obtain ⟨nb, hnb⟩ : ∃ b, w6.heap.size = b := ⟨_, rfl⟩
     have xn : boxAt w7 nb [.slice p0 n0 k0, .slice p1 n1 k1, .slice p2 n2 k2, .slice p3 n3 k3] := by rw [hw7, ← hnb]; exact (by first | exact boxAt.new_atN _ _ _ rfl rfl | exact (((((boxAt.new_atN _ _ _ rfl rfl).put 0 _ (by simp)).put 1 _ (by simp)).put 2 _ (by simp)).put 3 _ (by simp)))
     have HNB := Lib.hid hnb
     simp only [hnb]
     clear hw7 hnb
     have hg57 := (HGZ.out.trans hg6).trans hg7
     have xf := XF.out.later hg57
     obtain ⟨c_f0, c_f1, c_f2, c_f3, c_f4, m_f0, m_f1, m_f2, m_f3, m_f4, l_f⟩ := unb5 xf
     go_wp2_with fail
     go_at_call 13
     (with_reducible refine (HAL.out.same w7 hg7).mono ?_); rintro e w8 ⟨rfl, hg8⟩
     clear c_f0 c_f1 c_f2 c_f3 c_f4 m_f0 m_f1 m_f2 m_f3 m_f4 l_f
     have xn8 := xn.later hg8
     have xa8 := XA.out.later (hg57.trans hg8)
     obtain ⟨c_n0, c_n1, c_n2, c_n3, m_n0, m_n1, m_n2, m_n3, l_n⟩ := unb4 xn8
     obtain ⟨c_a0, c_a1, c_a2, c_a3, m_a0, m_a1, m_a2, m_a3, l_a⟩ := unb4 xa8
     clear xf xn
     go_wp2_with fail
     go_at_call 14
     (with_reducible refine (HAL.out.eqn w8 (hg7.trans hg8)).mono ?_); rintro e w9 ⟨rfl, hg9⟩
     clear c_n0 c_n1 c_n2 c_n3 m_n0 m_n1 m_n2 m_n3 l_n
     clear c_a0 c_a1 c_a2 c_a3 m_a0 m_a1 m_a2 m_a3 l_a
     have xn9 := xn8.later hg9
     have hg69 := (hg7.trans hg8).trans hg9
     have HG69 := Lib.hid hg69
     have HG6 := Lib.hid hg6
     have HOV := Lib.hid (overRows_any A (.slice p1 n1 k1) vs1 w9 B HAL.out.l1 (by rw [HAL.out.a1]; exact HAL.out.b1) HAL.out.br (Nat.le_trans HAL.out.hi hg69.size) (by
      rw [HAL.out.a1]
      exact Rws.gr (HAL.out.rws.sub (List.Sublist.cons _ (List.Sublist.refl _))) hg69))
     obtain ⟨c_n0, c_n1, c_n2, c_n3, m_n0, m_n1, m_n2, m_n3, l_n⟩ := unb4 xn9
     clear xn8 xa8 hg57 hg7 hg8 hg9 hg6 hg69
     go_wp2_with fail
     go_at_call 15
     (with_reducible refine HOV.out.mono ?_); rintro e w10 ⟨rfl, hk10⟩
     clear c_n0 c_n1 c_n2 c_n3 m_n0 m_n1 m_n2 m_n3 l_n
     have HK10 := Lib.hid hk10
     have xn10 := hk10.box xn9 (fun hm => by have h1 := (HBLK.out nb hm).2; have h2 := HNB.out; omega) (by simp)
     have HO2 := Lib.hid (show w10.ownsRow wr.heap.size 3 1 (.slice p2 n2 k2) n2 (O.map natV) from owns_heap (owns_later HAL.out.own HG69.out) (fun g hg => HK10.out.block g (Nat.lt_of_lt_of_le (H2LT.out g hg).2 HG69.out.size) (fun hm => by
      have h1 := (HBLK.out g hm).1
      have h2 := HAL.out.ob g hg
      omega)))
     have HOI := Lib.hid (overInts_any wr.heap.size n2 (.slice p2 n2 k2) (O.map natV) w10 HAL.out.b2 (Nat.le_trans HG6.out.size (Nat.le_trans HG69.out.size HK10.out.size)) HO2.out)
     obtain ⟨c_n0, c_n1, c_n2, c_n3, m_n0, m_n1, m_n2, m_n3, l_n⟩ := unb4 xn10
     clear hk10 xn9 HOV
     go_wp2_with fail
     go_at_call 16
     (with_reducible refine HOI.out.mono ?_); rintro e w11 ⟨rfl, hk11⟩
     clear c_n0 c_n1 c_n2 c_n3 m_n0 m_n1 m_n2 m_n3 l_n
     have HK11 := Lib.hid hk11
     have HXN := Lib.hid (hk11.box xn10 (fun hm => by have h1 := (H2LT.out nb (by simpa using hm)).2; have h2 := HNB.out; omega) (by simp))
     have HO0 := Lib.hid (show w11.ownsRow B 9 1 (.slice p0 n0 k0) n0 (N.map .string) from owns_heap (owns_heap (owns_later (HAL.out.rws.own _ (List.mem_cons_self ..)) HG69.out) (fun g hg => HK10.out.block g (Nat.lt_of_lt_of_le (H0LT.out g hg).2 HG69.out.size) (HAPT.out g hg))) (fun g hg => HK11.out.block g (Nat.lt_of_lt_of_le (H0LT.out g hg).2 (Nat.le_trans HG69.out.size HK10.out.size)) (fun hm => by
      have h1 := HAL.out.ob g (by simpa using hm)
      have h2 := (H0LT.out g hg).1
      omega)))
     clear hk11 xn10 HOI HO2
     have xn11 := HXN.out
     obtain ⟨c_n0, c_n1, c_n2, c_n3, m_n0, m_n1, m_n2, m_n3, l_n⟩ := unb4 xn11
     go_wp2_with fail
     clear c_n0 c_n1 c_n2 c_n3 m_n0 m_n1 m_n2 m_n3 l_n
     clear xn11
     go_loopw [10] (fun i wz => ∃ (m : Nat) (xs : List Value), m ≤ n0 ∧ i = .int .i64 (m : Int) ∧ Hid (wz.ownsRow B 9 1 (.slice p0 n0 k0) n0 xs) ∧ Hid (KpR (Value.slice p0 n0 k0).ownBlock.toList w11 wz)) (fun i _ => n0 - (intOf i).toNat)
     case atStart => exact ⟨0, _, Nat.zero_le _, rfl, HO0, Lib.hid (KpR.refl _ _)⟩
     case round =>
      clear HO0
      obtain ⟨m, ys, hm, rfl, HOW, HKP⟩ := hrel
      have xn := HKP.out.box HXN.out (fun hm => by have h1 := (H0LT.out nb (by simpa using hm)).2; have h2 := HNB.out; omega) (by simp)
      obtain ⟨c_n0, c_n1, c_n2, c_n3, m_n0, m_n1, m_n2, m_n3, l_n⟩ := unb4 xn
      rcases Nat.lt_or_ge m n0 with hmn | hmn
      ·
       have hmI : (m : Int) < (n0 : Int) := by omega
       have HMN := Lib.hid hmn
       have how := HOW.out
       obtain ⟨g, cap, hve, _, hgl, _⟩ := owns_block how (by omega)
       injection hve with e1 _ e3
       subst e1 e3
       have hyl : m < ys.length := by have := how.1; omega
       obtain ⟨old, hold⟩ : ∃ x, ys[m]? = some x := ⟨_, List.getElem?_eq_getElem hyl⟩
       have kc := owns_cell how m old hold
       have km := owns_mark how m
       have HYL := Lib.hid hyl
       clear hm hmn how hyl hold
       go_wp2_with fail
       clear c_n0 c_n1 c_n2 c_n3 m_n0 m_n1 m_n2 m_n3 l_n
       clear kc km hgl xn
       go_roundw
       case rel => exact ⟨m + 1, _, HMN.out, by go_num, Lib.hid (owns_set HOW.out m HYL.out _), Lib.hid (HKP.out.put (a := ⟨g, m, none⟩) (.inr (own_mem rfl)) _)⟩
       case measure => have := HMN.out; simp [intOf]; omega
      ·
       have hmI : ¬ (m : Int) < (n0 : Int) := by omega
       have HGE := Lib.hid (show Gr w5 wr from HGZ.out.trans (KpR.toGr (KpR.toGr (KpR.toGr (HG6.out.trans HG69.out) HK10.out (fun x hx => Nat.le_trans HAL.out.lo (HBLK.out x hx).1)) HK11.out (fun x hx => (H2LT.out x (by simpa using hx)).1)) HKP.out (fun x hx => Nat.le_trans HAL.out.lo (H0LT.out x (by simpa using hx)).1)))
       clear hm hmn
       go_wp2_with fail
       clear c_n0 c_n1 c_n2 c_n3 m_n0 m_n1 m_n2 m_n3 l_n
       clear xn
       go_roundw
       case rel => exact ⟨q + 1, HQN.out, by go_num, HGE⟩
       case measure => have := HQN.out; simp [intOf]; omega
    ·
     have hqI : ¬ (q : Int) < 2 := by omega
     have xs := XS.out.later HGZ.out
     obtain ⟨c_s0, c_s1, c_s2, m_s0, m_s1, m_s2, l_s⟩ := unb3 xs
     clear hq hqn
     go_wp2_with fail
     clear c_s0 c_s1 c_s2 m_s0 m_s1 m_s2 l_s
     clear xs
     go_loopw [11] (fun i wz => ∃ d : Nat, d ≤ nd ∧ i = .int .i64 (d : Int) ∧ Hid (Gr w5 wz)) (fun i _ => nd - (intOf i).toNat)
     case atStart => exact ⟨0, Nat.zero_le _, rfl, HGZ⟩
     case round =>
      clear HGZ
      obtain ⟨d, hd, rfl, HGZ⟩ := hrel
      have xs := XS.out.later HGZ.out
      obtain ⟨c_s0, c_s1, c_s2, m_s0, m_s1, m_s2, l_s⟩ := unb3 xs
      have hgz := HGW.out.trans HGZ.out
      have hgy := HG25.out.trans HGZ.out
      have q0 : wr.cell? ⟨b0, o0 + k * 3, none⟩ = some (.slice pm nm cm) := hgz.cell (HC0.out 0 _ rfl)
      have q1 : wr.cell? ⟨b0, o0 + k * 3 + 1, none⟩ = some (.slice pd nd cd) := hgz.cell (HC0.out 1 _ rfl)
      have q2 : wr.cell? ⟨b0, o0 + k * 3 + 2, none⟩ = some (.slice pr nr cr) := hgz.cell (HC0.out 2 _ rfl)
      have hbr := Nat.lt_of_lt_of_le HB0.out hgz.size
      rcases Nat.lt_or_ge d nd with hdn | hdn
      ·
       have hdI : (d : Int) < (nd : Int) := by omega
       have HDN := Lib.hid hdn
       obtain ⟨⟨df, ec⟩, hx⟩ : ∃ x, el[d]? = some x := ⟨_, List.getElem?_eq_getElem (by rw [HEN.out]; exact hdn)⟩
       obtain ⟨dc, hy⟩ := HEX.out d _ hx
       have hES := HES.out
       have hDS := HDS.out
       rw [← HEN.out] at hES
       rw [HND.out] at hDS
       have hok1 := HEI.out _ (List.mem_of_getElem? hx)
       have hok2 := HDI.out _ (List.mem_of_getElem? hy)
       rw [HEN.out] at hES
       obtain ⟨b2, o2, hp2, hb2, hc2⟩ := elem_at hES (fun x hx => (HEI.out x hx).len) HEN.out hx
       obtain ⟨b3, o3, hp3, hb3, hc3⟩ := elem_at hDS (fun x hx => (HDI.out x hx).len) HND.out hy
       dsimp only at hok1 hok2 hc2 hc3
       have hrf : (refsE df.ex).length ≤ 1048576 := HRU.out df (by
        have h1 := List.mem_of_getElem? hy
        rw [← HHD.out]
        exact List.mem_map.2 ⟨_, h1, rfl⟩)
       cases hok1 with
       | mk ec1 he1 hn1 hpp1 =>
       cases hok2 with
       | mk ec2 he2 hn2 hpp2 =>
       have HU1 := Lib.hid (fun W (hG : Gr wr W) => uses_any df.ex ec1 W (he1.later (hgy.trans hG)) hrf)
       have HU2 := Lib.hid (fun W (hG : Gr wr W) => uses6r_any df.ex ec2 W (he2.later (hgz.trans hG)) hrf)
       obtain ⟨xo, xp, xt, xx, xm, xy, r1, r2, rn, rc1, rc2, rfl, rfl⟩ := ExIn.two (he1.later hgy) (he2.later hgz)
       unfold exCells at HU1 HU2
       try dsimp only at HU1 HU2
       subst hp2 hp3
       have e2 := hgy.cell (hc2 2 _ rfl)
       have e3 := hgy.cell (hc2 3 _ rfl)
       have e4 := hgy.cell (hc2 4 _ rfl)
       have e5 := hgy.cell (hc2 5 _ rfl)
       have e6 := hgy.cell (hc2 6 _ rfl)
       have e7 := hgy.cell (hc2 7 _ rfl)
       have e8 := hgy.cell (hc2 8 _ rfl)
       have e9 := hgy.cell (hc2 9 _ rfl)
       have e10 := hgy.cell (hc2 10 _ rfl)
       have e11 := hgy.cell (hc2 11 _ rfl)
       have f2 := hgz.cell (hc3 2 _ rfl)
       have f3 := hgz.cell (hc3 3 _ rfl)
       have f4 := hgz.cell (hc3 4 _ rfl)
       have f5 := hgz.cell (hc3 5 _ rfl)
       have f6 := hgz.cell (hc3 6 _ rfl)
       have f7 := hgz.cell (hc3 7 _ rfl)
       have f8 := hgz.cell (hc3 8 _ rfl)
       have f9 := hgz.cell (hc3 9 _ rfl)
       have f10 := hgz.cell (hc3 10 _ rfl)
       have f11 := hgz.cell (hc3 11 _ rfl)
       have hbr2 := Nat.lt_of_lt_of_le hb2 hgy.size
       have hbr3 := Nat.lt_of_lt_of_le hb3 hgz.size
       obtain ⟨UU, hUU⟩ : ∃ u, usesN df.ex = u := ⟨_, rfl⟩
       rw [hUU] at HU1 HU2
       have eM : (UU.map fun t => t.data.toList).map vS = UU.map .string := by
        rw [List.map_map]
        congr 1
       have HEM := Lib.hid eM
       clear hx hy hd hdn hES hDS hb2 hb3 hc2 hc3 he1 he2 hn1 hn2 hpp1 hpp2 hrf hgz hgy hUU eM
       go_wp2_with fail
       refine wp_region_G (.take 0 (.take 1 (.take 2 (.take 3 (.take 4 (.take 5 (.take 7 (.take 8 (.take 9 (.take 10 (.take 11 (.take 12 (.take 13 (.take 14 (.take 15 (.run 6 false (.run 16 false (.run 17 false (.take 18 .nil))))))))))))))))))) (by kernel_rfl) (by kernel_rfl) ?_
       simp only [pickOps, nthOp]
       intro wq hG
       repeat (first | (refine wpG_skip_take ?_ ?_; (focus rfl); try simp only [Act.put, List.setIfInBounds_toArray, List.set_cons_zero, List.set_cons_succ]) | (refine wpG_skip_run ?_ ?_; (focus rfl); try simp only [Act.put, List.setIfInBounds_toArray, List.set_cons_zero, List.set_cons_succ]) | (refine wpG_take ?_ ?_; (focus rfl); apply Exists.intro; refine ⟨fun w' hw' => ?_, ?_⟩; (focus (have hc := Gr.cells hw'; go_simp; (try rfl); done)); try simp only [Act.put, List.setIfInBounds_toArray, List.set_cons_zero, List.set_cons_succ]) | (refine wpG_run ?_ (fun K hK => ?_); (focus rfl); go_simp; (first | (go_at_call 18; (with_reducible refine (HU1.out _ hG).mono ?_); rintro e u1 ⟨vu, rfl, hou, hb⟩) | (go_at_call 19; (with_reducible refine (HU2.out _ hG).mono ?_); rintro e u2 ⟨vw, rfl, how, hb⟩; replace hou := owns_later hou hb) | (go_at_call 17; (with_reducible refine (eqTexts_same (UU.map fun t => t.data.toList) vu vw _ (by rw [List.length_map, HEM.out]; exact Sl.of_owns hou) (by rw [List.length_map, HEM.out]; exact Sl.of_owns how)).mono ?_); rintro e u3 ⟨rfl, hb⟩)); (try dsimp only); replace hG := hG.trans hb; refine hK.out _ _ hG ?_; clear hK K hb; try simp only [Act.put, List.setIfInBounds_toArray, List.set_cons_zero, List.set_cons_succ]))
       refine wpG_done ?_
       clear c_s0 c_s1 c_s2 m_s0 m_s1 m_s2 l_s
       clear hou how xs q0 q1 q2 hbr hbr2 hbr3 e2 e3 e4 e5 e6 e7 e8 e9 e10 e11 f2 f3 f4 f5 f6 f7 f8 f9 f10 f11
       go_wp2_with fail
       go_roundw
       case rel => exact ⟨d + 1, HDN.out, by go_num, Lib.hid (HGZ.out.trans hG)⟩
       case measure => have := HDN.out; simp [intOf]; omega
      ·
       have hdI : ¬ (d : Int) < (nd : Int) := by omega
       obtain ⟨hcz⟩ := HSC.out wr hgy
       have HES2 := Lib.hid (fun W (hG : Gr wr W) => HEQ.out W (hgz.trans hG) _ _ _ (hcz.later hG))
       unfold scV at HES2
       clear hd hdn hcz hgz hgy
       go_wp2_with fail
       refine wp_region_G (.take 0 (.take 1 (.take 2 (.take 3 (.take 4 (.run 5 false (.take 6 .nil))))))) (by kernel_rfl) (by kernel_rfl) ?_
       simp only [pickOps, nthOp]
       intro wq hG
       repeat (first | (refine wpG_skip_take ?_ ?_; (focus rfl); try simp only [Act.put, List.setIfInBounds_toArray, List.set_cons_zero, List.set_cons_succ]) | (refine wpG_skip_run ?_ ?_; (focus rfl); try simp only [Act.put, List.setIfInBounds_toArray, List.set_cons_zero, List.set_cons_succ]) | (refine wpG_take ?_ ?_; (focus rfl); apply Exists.intro; refine ⟨fun w' hw' => ?_, ?_⟩; (focus (have hc := Gr.cells hw'; go_simp; (try rfl); done)); try simp only [Act.put, List.setIfInBounds_toArray, List.set_cons_zero, List.set_cons_succ]) | (refine wpG_run ?_ (fun K hK => ?_); (focus rfl); go_simp; (first | (go_at_call 20; (with_reducible refine (HES2.out _ hG).mono ?_); rintro e u3 ⟨rfl, hb⟩)); (try dsimp only); replace hG := hG.trans hb; refine hK.out _ _ hG ?_; clear hK K hb; try simp only [Act.put, List.setIfInBounds_toArray, List.set_cons_zero, List.set_cons_succ]))
       refine wpG_done ?_
       clear c_s0 c_s1 c_s2 m_s0 m_s1 m_s2 l_s
       clear xs q0 q1 q2 hbr
       go_wp2_with fail
       go_roundw
       case rel => exact ⟨k + 1, HKN.out, HK9.out, by go_num, (HGW.out.trans HGZ.out).trans hG⟩
       case measure => have := HKN.out; simp [intOf]; omega
end Go.Proofs.YtkkopdmemjncdaaGreatDoor
namespace Go.Proofs.YtkkopdmemjncdaaGreatDoor
open Go Go.ChangeShapes Go.WideShapes Go.ChangeAt Go.RowKit
def fileC (x : Sc × (Value × Value × Value)) : List Value := [x.2.1, x.2.2.1, x.2.2.2]
instance : Inhabited Sc := ⟨⟨[], [], []⟩⟩
instance : Inhabited Value := ⟨.bool true⟩
theorem mem_sum6 {α : Type} (f : α → Nat) : ∀ (l : List α) (y : α), y ∈ l → f y ≤ (l.map f).sum
 | [], _, h => by cases h
 |
  a :: l, y, h => by
  rw [List.map_cons, List.sum_cons]
  rcases List.mem_cons.1 h with rfl | h
  · omega
  · have := mem_sum6 f l y h; omega
set_option maxRecDepth 100000 in
theorem specs_form {H : Type} {enc : TypeId × Value → H} {w : World} {r : Reach} {b0 base : Nat} {spare : Nat → Bool} {held : Bool} {v : Value} {d : DataW H} {p : List MemPlace}
  (hv : Value.okWide Tryz.prog w r b0 22 v) (h : DataW.Trod enc Tryz.prog w base spare held 22 v d p) (hw : Reached Tryz.prog 22 d) (hb : Rows.uptoBulk d ≤ 1048576) :
  ∃ cl : List (Sc × List Value), Sl w v 3 cl.length (cl.flatMap (·.2)) ∧ ∀ x ∈ cl, FileIn w x.1 x.2 := by
 obtain ⟨fuel, hf0⟩ := h
 obtain ⟨a0, n0, c0, rfl⟩ := okWide_slice Tryz.underlying22 hv
 obtain ⟨v', l, e6, hs, hq, _, _, hsum⟩ := slice_readB (k := 3) (f := fileC) (Q := fun x dd => Nonempty (ScIn w x.1 x.2.1 x.2.2.1 x.2.2.2) ∧ wtS x.1 ≤ Rows.uptoBulk dd) Tryz.underlying22 (by kernel_rfl) (by omega) (fun _ => rfl) (fun n' cs x _ h hw => by
  obtain ⟨s, vm, vd, vr, e, hT⟩ := spec_readN h hw
  exact ⟨(s, vm, vd, vr), e, hT⟩) hf0 hw
 obtain rfl : Value.slice a0 n0 c0 = v' := by simpa [Value.cells] using e6
 have hb2 := hsum (fun x => wtS x.1) (fun a d h => h.2)
 refine ⟨l.map fun x => (x.1, fileC x), ?_, fun x hx => ?_⟩
 ·
  rw [List.length_map, List.flatMap_map]
  exact hs
 ·
  obtain ⟨y, hy, rfl⟩ := List.mem_map.1 hx
  obtain ⟨d', h1, _⟩ := hq y hy
  refine ⟨y.2.1, y.2.2.1, y.2.2.2, rfl, h1, ?_⟩
  have h3 := mem_sum6 (fun x : Sc × (Value × Value × Value) => wtS x.1) l y hy
  show wtS y.1 ≤ _
  dsimp only at hb2 h3
  omega
end Go.Proofs.YtkkopdmemjncdaaGreatDoor
