/- Texts of mine, put together: N6K. No condition but what each says. -/
import Derived.Test.YtkkopdmemjncdaaGreatDoorPN6J
namespace Go.Proofs.YtkkopdmemjncdaaGreatDoor
open Go Go.RowKit
def NoW (U : List (List Nat)) (i : Nat) : Prop := ∀ m, 1 ≤ m → m < U.length + 1 → ¬ wayN U m i i
def
  CyE (s : Sc) (w : World) (e : Ending) (w' : World) : Prop :=
 (e = .returned (.slice none 0 0) ∧ ∀ i, i < s.defs.length → NoW (linksN s) i) ∨
 ∃
  (i L : Nat) (d : List Int) (v : Value), e = .returned v ∧ i < s.defs.length ∧ (∀ y, y < i → NoW (linksN s) y) ∧ DsOk (linksN s) i d ∧ farAt d i = ((L + 1 : Nat) : Int) ∧
  w'.ownsRow w.heap.size 9 1 v (i :: pathD (linksN s) d i L i).length ((i :: pathD (linksN s) d i L i).map fun j => .string (nmD s j))
theorem defname_at {w : World} {s : Sc} {vm vd vr : Value} (hs : ScIn w s vm vd vr) : ∃ p c, vd = .slice p s.defs.length c ∧ ∀ k, k < s.defs.length → ∃ b off, p = some ⟨b, off, none⟩ ∧ b < w.heap.size ∧ w.cell? ⟨b, off + k * 12, none⟩ = some (.string (nmD s k)) := by
 obtain ⟨dl, rl, hd, hr, hm, hmo, hmn, hmb, hds, hdi, hdn, hdb, hrs, hri, hrn, hrb⟩ := hs
 obtain ⟨p, c, rfl⟩ := hds.len
 have hl : dl.length = s.defs.length := by rw [← hd, List.length_map]
 refine ⟨p, c, by rw [hl], fun k hk => ?_⟩
 obtain ⟨⟨d, cs⟩, hx⟩ : ∃ x, dl[k]? = some x := ⟨_, List.getElem?_eq_getElem (by rw [hl]; exact hk)⟩
 obtain ⟨b2, off, hpm, hbl, hc⟩ := elem_at hds (fun x hx => (hdi x hx).len) rfl hx
 have hok := hdi _ (List.mem_of_getElem? hx)
 have hsd : s.defs[k]? = some d := by rw [← hd, List.getElem?_map, hx]; rfl
 dsimp only at hok hc
 refine ⟨b2, off, hpm, hbl, ?_⟩
 have hn : nmD s k = d.name := by unfold nmD; rw [defsN_get hsd]; rfl
 rw [hn]
 cases hok with
 | mk ec hee hnn hpp => exact hc 0 _ rfl
theorem owns_low7 {w : World} {B B' e n k : Nat} {v : Value} {xs : List Value} (h : w.ownsRow B e k v n xs) (hB : B' ≤ B) : w.ownsRow B' e k v n xs := by
 obtain ⟨h1, h2 | ⟨g, cap, cur, hv, hg, h3⟩⟩ := h
 · exact ⟨h1, .inl h2⟩
 · exact ⟨h1, .inr ⟨g, cap, cur, hv, Nat.le_trans hB hg, h3⟩⟩
theorem pathD_len (U : List (List Nat)) (d : List Int) (fr : Nat) : ∀ (n i : Nat), (pathD U d fr n i).length ≤ n
 | 0, i => by simp [pathD]
 |
  n
   + 1, i => by
  rw [pathD]
  split
  · simp
  ·
   rename_i j _
   have := pathD_len U d fr n j
   simp only [List.length_cons]; omega
theorem best1_yes {d : List Int} {n fr : Nat} {b : Option Nat} {j : Nat} (h1 : farAt d j = (n : Int)) (h2 : j ≠ fr) (h3 : ∀ x, b = some x → j < x) : best1 d n fr b j = some j := by unfold best1; rw [if_pos ⟨h1, h2, h3⟩]
theorem best1_no {d : List Int} {n fr : Nat} {b : Option Nat} {j : Nat} (h : ¬ (farAt d j = (n : Int) ∧ j ≠ fr ∧ ∀ x, b = some x → j < x)) : best1 d n fr b j = b := by unfold best1; rw [if_neg h]
theorem best_mem {d : List Int} {n fr : Nat} {row : List Nat} {x : Nat} (h : bestD d n fr row = some x) : x ∈ row := by
 have := best_least d n fr row
 rw [h] at this
 exact this.1
set_option maxRecDepth 100000 in
set_option maxHeartbeats 16000000 in
theorem
    cycle6_any (
          s
           :
            Sc) (w : World) (vm vd vr : Value) (hs : ScIn w s vm vd vr) (hL : Linked s) (hdl : s.defs.length ≤ 1048576) (hru : ∀ d ∈ s.defs, (refsE d.ex).length ≤ 1048576) :
  Calls Tryz.prog 36 #[scV vm vd vr] w fun e w' => CyE s w e w' ∧ Gr w w' := by
 have HLK := Lib.hid (fun W (hG : Gr w W) => links6_any s W vm vd vr (hs.later hG) hL hdl hru)
 obtain ⟨i0, si, sy0, sy1, sy2⟩ := info_parts info_strN
 have HIN0 := Lib.hid (fun (i : Nat) (r : List Nat) (h : (linksN s)[i]? = some r) => linksN_in hL h)
 have HRW := Lib.hid (fun (i : Nat) (r : List Nat) (h : (linksN s)[i]? = some r) => linksN_row hru h)
 have hlu := linksN_len s
 obtain ⟨pm, nm, cm, rfl⟩ : ∃ p n c, vm = .slice p n c := by
  obtain ⟨p, c, h⟩ := hs.modes.len
  exact ⟨p, _, c, h⟩
 obtain ⟨pr, nr, cr, rfl⟩ : ∃ p n c, vr = .slice p n c := by
  obtain ⟨p, c, h⟩ := hs.rules.len
  exact ⟨p, _, c, h⟩
 obtain ⟨pd, cd, rfl, hnm⟩ := defname_at hs
 have HNM := Lib.hid hnm
 unfold CyE
 rw [← hlu] at hdl HNM HLK ⊢
 obtain ⟨U, hUU⟩ : ∃ U, linksN s = U := ⟨_, rfl⟩
 rw [hUU] at hdl HLK HIN0 HRW HNM ⊢
 clear hUU hlu hL hru hnm
 obtain ⟨n, hln⟩ : ∃ n, U.length = n := ⟨_, rfl⟩
 have HLN := Lib.hid hln
 have HIN := Lib.hid (show ∀ (i : Nat) (r : List Nat), U[i]? = some r → ∀ x ∈ r, x < n from fun i r h x hx => by have := HIN0.out i r h x hx; omega)
 have HUD := Lib.hid (show ∀ (i k : Nat), k ∈ U[i]?.getD [] → k < U.length from fun i k hk => by
  cases hr : U[i]? with
  | none => rw [hr] at hk; cases hk
  | some r => rw [hr] at hk; exact HIN0.out i r hr k hk)
 have HDS := Lib.hid (fun (W : World) (v : Value) (hR : RowsY W v U) (t : Nat) (ht : t < n) => dist_any W v U hR hdl HRW.out HIN0.out t (by rw [hln]; exact ht))
 rw [hln] at hdl HNM HLK HDS ⊢
 have hnI : (n : Int) ≤ 1048576 := by omega
 have HNB := Lib.hid hdl
 unfold scV at HLK ⊢
 clear hs hln hdl HIN0
 go_enter Tryz.func36, Tryz.ntmps36
 go_upto_block 0 with (go_at_call 69; refine name_calls (fun W1 hW1 => ?_); have xs : boxAt W1 w.heap.size [.slice pm nm cm, .slice pd n cd, .slice pr nr cr] := (by rw [hW1]; exact boxAt.new_atN _ _ _ rfl rfl); have hb1 : Gr w W1 := (by rw [hW1]; first | exact Gr.refl _ | exact Gr.alloc _ _); clear hW1; (with_reducible refine (HLK.out W1 hb1).mono ?_); rintro e w2 ⟨v, rfl, hU, hg2⟩; obtain ⟨pv, cv, rfl⟩ : ∃ p c, v = .slice p n c := (by obtain ⟨vs, h1, h2, _⟩ := hU.sl; rw [HLN.out] at h2; exact h2.len); have XS := Lib.hid (xs.later hg2); have HG02 := Lib.hid (hb1.trans hg2); have HU := Lib.hid hU; clear hb1 hg2 hU xs HLK)
 obtain ⟨sb, hsb⟩ : ∃ b, w.heap.size = b := ⟨_, rfl⟩
 have HSB := Lib.hid hsb
 rw [hsb] at XS
 simp only [hsb]
 clear hsb
 go_wp2_with fail
 go_loopw [4] (fun ix wr => ∃ k : Nat, k ≤ n ∧ ix = .int .i64 (k : Int) ∧ Hid (Gr w2 wr) ∧ Hid (∀ y, y < k → NoW U y)) (fun ix _ => n - (intOf ix).toNat)
 case atStart => exact ⟨0, Nat.zero_le _, rfl, Lib.hid (Gr.refl _), Lib.hid (fun y hy => by omega)⟩
 case round =>
  obtain ⟨k, hk, rfl, HG, HNO⟩ := hrel
  rcases Nat.lt_or_ge k n with hkn | hkn
  ·
   have hkI : (
         k
          :
           Int) < (n : Int) := by omega
   have HKN := Lib.hid hkn
   have HC := Lib.hid (HDS.out wr _ (HU.out.later HG.out) k hkn)
   clear hk hkn
   go_wp2_with fail
   go_at_call 70
   (with_reducible refine HC.out.mono ?_); rintro e w3 ⟨tr, d, rfl, hd, hD⟩
   have HOK := Lib.hid (show DsOk U k d from DsIn.ok (by rw [HLN.out]; exact hd))
   have HD := Lib.hid hD
   have HG3 := Lib.hid (HG.out.trans hD.gr)
   have kd := owns_cell hD.row k _ (farV_at (by rw [hD.len]; exact HKN.out))
   have kl := (World.ownsRow.lt hD.row tr rfl).2
   obtain ⟨x, hx⟩ : ∃ x, farAt d k = x := ⟨_, rfl⟩
   rw [hx] at kd
   have HX := Lib.hid hx
   have hxd := HOK.out.at' k (by rw [HLN.out]; exact HKN.out)
   rw [hx] at hxd
   clear hx hd hD HC
   by_cases hx0 : x < 0
   ·
    have HNO2 := Lib.hid (show ∀ y, y < k + 1 → NoW U y from fun y hy => (Nat.lt_or_ge y k).elim (HNO.out y) (fun h1 => by
     have : y = k := by omega
     subst this
     rcases hxd with ⟨_, h⟩ | ⟨m, _, _, h, _⟩
     · exact h
     · omega))
    clear hxd HNO
    go_wp2_with fail
    clear kd kl
    go_roundw
    case rel => exact ⟨k + 1, HKN.out, by go_num, HG3, HNO2⟩
    case measure => have := HKN.out; simp [intOf]; omega
   ·
    obtain ⟨L, hLx,
            hLn⟩ : ∃ L : Nat, x = ((L + 1 : Nat) : Int) ∧ L + 1 ≤ n := by
     rcases hxd with ⟨h, _⟩ | ⟨m, h1, h2, h3, _⟩
     · omega
     · exact ⟨m - 1, by omega, by rw [HLN.out] at h2; omega⟩
    have HLB := Lib.hid hLn
    have HLX := Lib.hid (show farAt d k = ((L + 1 : Nat) : Int) by rw [HX.out]; exact hLx)
    have hLI : (L : Int) ≤ 1048576 := by omega
    have hxx : x = (L : Int) + 1 := by omega
    subst hxx
    obtain ⟨bn, on, hpd, hbn, hcn⟩ := HNM.out k HKN.out
    subst hpd
    have k0 := (HG02.out.trans HG3.out).cell hcn
    have hbr := Nat.lt_of_lt_of_le hbn (HG02.out.trans HG3.out).size
    have xs := XS.out.later HG3.out
    obtain ⟨c_s0, c_s1, c_s2, m_s0, m_s1, m_s2, l_s⟩ := unb3 xs
    obtain ⟨nmk, hnmk⟩ : ∃ t, nmD s k = t := ⟨_, rfl⟩
    rw [hnmk] at k0
    have HNK := Lib.hid hnmk
    clear hx0 hxd hLx hLn hbn hcn hnmk
    go_upto_region 8 with fail
    refine name_world (fun W4 hW4 => ?_)
    have HO4 := Lib.hid (show W4.ownsRow w3.heap.size 9 1 (.slice (some ⟨w3.heap.size, 0, none⟩) 1 1) 1 ([k].map fun j => .string (nmD s j)) by rw [hW4]; simp only [List.map_cons, List.map_nil, HNK.out]; exact own_one _ _ (Nat.le_refl _))
    have HG4 := Lib.hid (show Gr w3 W4 by rw [hW4]; exact Gr.alloc _ _)
    have kd4 : W4.cell? ⟨tr, k, none⟩ = some (.int .i64 ((L : Int) + 1)) := HG4.out.cell kd
    have kl4 := Nat.lt_of_lt_of_le kl HG4.out.size
    obtain ⟨B, hB⟩ : ∃ b, w3.heap.size = b := ⟨_, rfl⟩
    have HB := Lib.hid hB
    rw [hB] at HO4
    simp only [hB]
    clear c_s0 c_s1 c_s2 m_s0 m_s1 m_s2 l_s
    clear hW4 kd kl k0 hbr xs hB
    go_wp2_with fail
    clear kd4 kl4
    go_loopw [6, 7, 8] (fun nv av mv wr => ∃ (m cur : Nat) (P : List Nat), mv = .int .i64 (m : Int) ∧ av = .int .i64 (cur : Int) ∧ m ≤ L ∧ cur < n ∧ Hid (wr.ownsRow B 9 1 nv P.length (P.map fun j => .string (nmD s j))) ∧ Hid (Gr w3 wr) ∧ Hid (farAt d cur = ((m + 1 : Nat) : Int)) ∧ Hid (P ++ pathD U d k m cur = k :: pathD U d k L k) ∧ Hid (P.length + m = L + 1)) (fun _ _ mv _ => (intOf mv).toNat)
    case atStart => exact ⟨L, k, [k], by go_num, rfl, Nat.le_refl _, HKN.out, HO4, HG4, HLX, Lib.hid rfl, Lib.hid (by simp; omega)⟩
    case round =>
     clear HO4 HG4
     obtain ⟨m, cur, P, rfl, rfl, hmL, hcur, HO, HGW, HFC, HPP, HPL⟩ := hrel
     obtain ⟨pl, cl, rfl⟩ := (Sl.of_owns HO.out).len
     obtain ⟨ml, hml⟩ : ∃ m, P.length = m := ⟨_, rfl⟩
     rw [hml] at HO HPL ⊢
     have HML := Lib.hid hml
     have HCUR := Lib.hid hcur
     have hcI : (cur : Int) < (n : Int) := by omega
     have hmI : (m : Int) ≤ 1048576 := by omega
     have HMLE := Lib.hid hmL
     clear hml hmL hcur
     cases m with
     |
      zero =>
      have hm0 : ¬ ((0 : Int) > 0) := by omega
      have HPE := Lib.hid (show P = k :: pathD U d k L k by have := HPP.out; rw [pathD, List.append_nil] at this; exact this)
      go_wp2_with fail
      go_ret
      refine ⟨.inr ⟨k, L, d, _, rfl, HKN.out, HNO.out, HOK.out, HLX.out, ?_⟩, (HG02.out.trans HG3.out).trans HGW.out⟩
      have hfin : wr.ownsRow B 9 1 (.slice pl ml cl) (k :: pathD U d k L k).length ((k :: pathD U d k L k).map fun j => .string (nmD s j)) := by
       rw [← HPE.out, HML.out]; exact HO.out
      exact owns_low7 hfin (by rw [← HB.out]; exact (HG02.out.trans HG3.out).size)
     |
      succ m =>
      obtain ⟨M, hM⟩ : ∃ M, m + 1 = M := ⟨_, rfl⟩
      have HMM := Lib.hid hM
      obtain ⟨j, hj1, hj2, hj3⟩ := best_next HOK.out HUD.out (i := cur) (n := m) (by rw [HLN.out]; exact HCUR.out) HLX.out (by have := HMLE.out; omega) HFC.out
      obtain ⟨r, hr⟩ : ∃ r, U[cur]? = some r := ⟨_, List.getElem?_eq_getElem (by rw [HLN.out]; exact HCUR.out)⟩
      rw [show U[cur]?.getD [] = r by rw [hr]; rfl] at hj1
      have HPN := Lib.hid (show pathD U d k (m + 1) cur = j :: pathD U d k m j by rw [pathD, hr]; simp only [Option.getD_some]; rw [hj1])
      rw [hM] at hj1 HMLE HPL HPP HPN
      have HJ1 := Lib.hid hj1
      have HJ2 := Lib.hid (show j < n by rw [← HLN.out]; exact hj2)
      have HJ3 := Lib.hid hj3
      have hM0 : (M : Int) > 0 := by omega
      have hM1 : (0 : Int) < (M : Int) := hM0
      have hMI : (M : Int) ≤ 1048576 := by omega
      obtain ⟨b, off, u, hpv, hbl, hcu, hsu, _⟩ := HU.out.row hr
      subst hpv
      obtain ⟨pu, cu, rfl⟩ := hsu.len
      have HR := Lib.hid hr
      have HSU := Lib.hid hsu
      obtain ⟨mr, hmr⟩ : ∃ m, r.length = m := ⟨_, rfl⟩
      have HMR := Lib.hid hmr
      have hmrI : (mr : Int) ≤ 1048576 := by have := HRW.out cur r hr; omega
      have HG2R := Lib.hid (HG3.out.trans HGW.out)
      have ku : wr.cell? ⟨b, off + cur, none⟩ = some (.slice pu mr cu) := by rw [← hmr]; exact HG2R.out.cell hcu
      have hbr := Nat.lt_of_lt_of_le hbl HG2R.out.size
      have hcst : ((m + 1 : Nat) : Int) = (M : Int) := by omega
      rw [hM]
      clear hr hsu hmr hcu hbl hM hj1 hj2 hj3 hmI hcst
      go_wp2_with fail
      go_loopw [9, 10] (fun bv ix wz => ∃ (z : Nat), z ≤ mr ∧ ix = .int .i64 (z : Int) ∧ bv = .int .i64 (bestV (bestD d M k (r.take z))) ∧ wr = wz) (fun _ ix _ => mr - (intOf ix).toNat)
      case atStart => exact ⟨0, Nat.zero_le _, rfl, rfl, rfl⟩
      case round =>
       obtain ⟨z, hz, rfl, rfl, rfl⟩ := hrel
       rcases Nat.lt_or_ge z mr with hzn | hzn
       ·
        have hzI : (z : Int) < (mr : Int) := by omega
        have HZN := Lib.hid hzn
        obtain ⟨y, hy⟩ : ∃ y, r[z]? = some y := ⟨_, List.getElem?_eq_getElem (by rw [HMR.out]; exact hzn)⟩
        have hyn := HIN.out cur r HR.out y (List.mem_of_getElem? hy)
        have hyI : (y : Int) < (n : Int) := by omega
        obtain ⟨b3, off3, hpu, hbl3, hc3⟩ := num_at HSU.out hy
        subst hpu
        have ky := HG2R.out.cell hc3
        have hby := Nat.lt_of_lt_of_le hbl3 HG2R.out.size
        have kf := HGW.out.cell (owns_cell HD.out.row y _ (farV_at (by rw [HD.out.len]; exact hyn)))
        have kl := Nat.lt_of_lt_of_le (World.ownsRow.lt HD.out.row tr rfl).2 HGW.out.size
        have HST := Lib.hid (show bestD d M k (r.take (z + 1)) = best1 d M k (bestD d M k (r.take z)) y by rw [take_snoc hy, best_snoc])
        obtain ⟨f, hf⟩ : ∃ f, farAt d y = f := ⟨_, rfl⟩
        rw [hf] at kf
        have HF := Lib.hid hf
        obtain ⟨bo, hbo⟩ : ∃ b, bestD d M k (r.take z) = b := ⟨_, rfl⟩
        rw [hbo] at HST ⊢
        have hbm : ∀ x, bo = some x → x < n := fun x hx => by
         rw [hx] at hbo
         exact HIN.out cur r HR.out x (List.mem_of_mem_take (best_mem hbo))
        have YES := Lib.hid (fun (h1 : f = (M : Int)) (h2 : y ≠ k) (h3 : ∀ x, bo = some x → y < x) => HST.out.trans (best1_yes (HF.out.trans h1) h2 h3))
        have NO := Lib.hid (fun (h : ¬ (f = (M : Int) ∧ y ≠ k ∧ ∀ x, bo = some x → y < x)) => HST.out.trans (best1_no (fun h2 => h ⟨HF.out.symm.trans h2.1, h2.2⟩)))
        clear hz hzn hy hc3 hbl3 hf hbo hyn HST HF
        by_cases h1 : f = (M : Int)
        ·
         have e1 : (f == (M : Int)) = true := by rw [beq_iff_eq]; exact h1
         by_cases h2 : y = k
         ·
          have e2 : ((y : Int) != (k : Int)) = false := by rw [h2]; simp
          have HB2 := Lib.hid (NO.out (fun h => h.2.1 h2))
          clear h1 h2 hbm
          go_wp2_with fail
          go_roundw
          case rel => exact ⟨z + 1, HZN.out, by go_num, by rw [HB2.out], by first | rfl | trivial⟩
          case measure => have := HZN.out; simp [intOf]; omega
         ·
          have e2 : ((y : Int) != (k : Int)) = true := by rw [bne_iff_ne]; omega
          cases bo with
          |
           none =>
           have e3 : ((-1 : Int) < 0) := by omega
           have HB2 := Lib.hid (YES.out h1 h2 (fun x hx => by cases hx))
           rw [show bestV none = -1 from rfl]
           clear h1 h2 hbm
           go_wp2_with fail
           go_roundw
           case rel => exact ⟨z + 1, HZN.out, by go_num, by rw [HB2.out]; rfl, by first | rfl | trivial⟩
           case measure => have := HZN.out; simp [intOf]; omega
          |
           some x =>
           have e3 : ¬ ((x : Int) < 0) := by omega
           have hxn := hbm x rfl
           have hxI : (x : Int) < (n : Int) := by omega
           rw [show bestV (some x) = (x : Int) from rfl]
           by_cases h4 : y < x
           ·
            have e4 : (y : Int) < (x : Int) := by omega
            have HB2 := Lib.hid (YES.out h1 h2 (fun x' hx => by injection hx with hx; omega))
            clear h1 h2 h4 hbm hxn
            go_wp2_with fail
            go_roundw
            case rel => exact ⟨z + 1, HZN.out, by go_num, by rw [HB2.out]; rfl, by first | rfl | trivial⟩
            case measure => have := HZN.out; simp [intOf]; omega
           ·
            have e4 : ¬ (y : Int) < (x : Int) := by omega
            have HB2 := Lib.hid (NO.out (fun h => h4 (h.2.2 x rfl)))
            clear h1 h2 h4 hbm hxn
            go_wp2_with fail
            go_roundw
            case rel => exact ⟨z + 1, HZN.out, by go_num, by rw [HB2.out]; rfl, by first | rfl | trivial⟩
            case measure => have := HZN.out; simp [intOf]; omega
        ·
         have e1 : (f == (M : Int)) = false := by rw [beq_eq_false_iff_ne]; exact h1
         have HB2 := Lib.hid (NO.out (fun h => h1 h.1))
         clear h1 hbm
         go_wp2_with fail
         go_roundw
         case rel => exact ⟨z + 1, HZN.out, by go_num, by rw [HB2.out], by first | rfl | trivial⟩
         case measure => have := HZN.out; simp [intOf]; omega
       ·
        have hzI : ¬ (z : Int) < (mr : Int) := by omega
        have HBJ := Lib.hid (show bestD d M k (r.take z) = some j by rw [List.take_of_length_le (by rw [HMR.out]; exact hzn)]; exact HJ1.out)
        rw [HBJ.out, show bestV (some j) = (j : Int) from rfl]
        have hjI : (j : Int) < (n : Int) := by have := HJ2.out; omega
        obtain ⟨bn, on, hpd, hbn, hcn⟩ := HNM.out j HJ2.out
        injection hpd with hpd
        injection hpd with hp1 hp2
        subst hp1 hp2
        have kn := (HG02.out.trans HG2R.out).cell hcn
        have hbn2 := Nat.lt_of_lt_of_le hbn (HG02.out.trans HG2R.out).size
        have xs := XS.out.later HG2R.out
        obtain ⟨c_s0, c_s1, c_s2, m_s0, m_s1, m_s2, l_s⟩ := unb3 xs
        obtain ⟨nmj, hnmj⟩ : ∃ t, nmD s j = t := ⟨_, rfl⟩
        rw [hnmj] at kn
        have HNJ := Lib.hid hnmj
        obtain ⟨XV, hXS⟩ : ∃ X : List Value, (P.map fun j => Value.string (nmD s j)) = X := ⟨_, rfl⟩
        rw [hXS] at HO
        have HXS := Lib.hid hXS
        clear hz hzn hbn hcn hnmj hXS
        go_wp2_with (at_builtin; refine wpList_append_own_at _ rfl (.tmp 82) (.tmp 89) 30 rfl B 9 i0 (.string ⟨#[]⟩) 1 16 Tryz.underlying30 si sy0 sy1 sy2 rfl (by decide) _ ml XV rfl (HO.out.alloc _) ⟨wr.heap.size, 0, none⟩ 1 1 [.string nmj] rfl rfl (new_cells _ _ _) (by intro u hu; simp at hu; subst hu; rfl) (by have := HPL.out; have := HLB.out; have := HNB.out; unfold maxLen; omega) (by have := HPL.out; have := HLB.out; have := HNB.out; omega) (by rw [← HB.out]; exact Nat.le_trans HGW.out.size (Gr.alloc _ _).size) ?_; intro v' w4 hown4 hg4 _ hloc; obtain ⟨p4, c4', rfl⟩ := (Sl.of_owns hown4).len; have HOW4 := Lib.hid hown4; have HG4 := Lib.hid hg4; clear hown4 hg4 hloc)
        clear c_s0 c_s1 c_s2 m_s0 m_s1 m_s2 l_s
        clear kn hbn2 xs
        go_roundw
        case rel => exact ⟨m, j, P ++ [j], by have h1 := HMM.out; rw [← h1]; go_num, rfl, by have := HMLE.out; have := HMM.out; omega, HJ2.out, Lib.hid (by rw [List.length_append, List.map_append, HXS.out, HML.out, List.map_cons, List.map_nil, HNJ.out]; exact HOW4.out), Lib.hid (Gr.grown (HGW.out.trans (Gr.alloc _ _)) HG4.out (fun g hg => by rw [HB.out]; exact (World.ownsRow.lt HO.out g hg).1)), HJ3, Lib.hid (by rw [← HPP.out, HPN.out, List.append_assoc]; rfl), Lib.hid (by rw [List.length_append, HML.out]; have := HPL.out; have := HMM.out; simp; omega)⟩
        case measure => have := HMM.out; simp [intOf]; omega
  ·
   have hkI : ¬ (k : Int) < (n : Int) := by omega
   have HALL := Lib.hid (show ∀ i, i < n → NoW U i from fun i hi => HNO.out i (by omega))
   clear hk hkn
   go_wp2_with fail
   go_ret
   exact ⟨.inl ⟨rfl, HALL.out⟩, HG02.out.trans HG.out⟩
end Go.Proofs.YtkkopdmemjncdaaGreatDoor
