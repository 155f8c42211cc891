/- bolterlaw6.NamesRenamed answers true. Printed by gen_nmrn.py. No condition but the errors' variables and a bound of the argument's bulk. -/
import Derived.Test.YtkkopdmemjncdaaGreatDoorPNmCp
import Derived.Test.YtkkopdmemjncdaaGreatDoorPNmEq
import Derived.Test.YtkkopdmemjncdaaGreatDoorPNmCy
import Derived.Test.YtkkopdmemjncdaaGreatDoorPHp
namespace Go.Proofs.YtkkopdmemjncdaaGreatDoor
open Go Go.RowKit

/-- What the error tells. -/
def TellT (w : World) (ev : Value) (c m : Int) (nn : Nat) : Prop := ∀ W, Gr w W → Calls Tryz.prog 28 #[ev] W fun e w' => ∃ (p : Option Addr) (k : Nat), e = .returned (.agg #[.int .i64 c, .int .i64 0, .int .i64 0, .int .i64 m, .slice p nn k]) ∧ Gr W w'
theorem res_told {s : Sc} {w w4 : World} {es : Nat → Addr} {e : Ending} (hF : FaultsIn w4 es) (hdl : s.defs.length ≤ 1048576) (h : ResE s (esN es 15) (esN es 6) (esN es 7) w e w4) : ∃ (p0 p1 p2 p3 : Option Addr) (n0 k0 n1 k1 n2 k2 n3 k3 : Nat) (ev : Value) (c m : Int) (nn : Nat) (M : List ByteArray) (A : List (List Nat)) (O : List Nat) (C : List (List (Int × Int))),
    e = .returned (.tuple #[.agg #[.slice p0 n0 k0, .slice p1 n1 k1, .slice p2 n2 k2, .slice p3 n3 k3], ev]) ∧ TellT w4 ev c m nn ∧ NmsIn w4 M A O C (.slice p0 n0 k0) (.slice p1 n1 k1) (.slice p2 n2 k2) (.slice p3 n3 k3) ∧ KindR s c m nn M A O C := by
  rcases h with ⟨_, rfl⟩ | ⟨x, v, hsp, hwo, hv, rfl⟩ | ⟨i, far, b, nv, hsp, hno, hi, hc, hf, hp, hb, _, ho, rfl⟩ | ⟨B, v0, v1, v2, v3, vs1, vs3, hsp, hno, hl, hB, h1, h3, hr, h2, ha, rfl⟩
  · refine ⟨none, none, none, none, 0, 0, 0, 0, 0, 0, 0, 0, _, 15, 0, 0, _, _, _, _, rfl, fun W hG => (tell_arg (hF.later hG)).mono ?_, NmsIn.nil _, .inl rfl⟩
    rintro e w' ⟨rfl, hg⟩
    exact ⟨_, _, rfl, hg⟩
  · refine ⟨none, none, none, none, 0, 0, 0, 0, 0, 0, 0, 0, _, 6, x.2, 1, _, _, _, _, rfl, fun W hG => (tell_bad (hF.later hG) (hv.keep (fun k hk _ => Below.block hG k hk))).mono ?_, NmsIn.nil _, .inr (.inl ⟨rfl, ⟨x, hwo, rfl⟩, rfl, rfl, rfl, rfl, rfl⟩)⟩
    rintro e w' ⟨nv, rfl, hon, hg⟩
    obtain ⟨p, c, rfl⟩ := (Sl.of_owns hon).len
    exact ⟨_, _, rfl, hg⟩
  · have hR := right_of hno
    have hU := in_getD (fun (i : Nat) (r : List Nat) (h : (linksS s)[i]? = some r) => linksS_in hR h)
    have hlu := linksS_len s
    have hp2 := hp
    rw [← hlu] at hp2
    have hW := path_all hf (fun i k hk => hU i k hk) hp2
    rw [hlu] at hW
    have hcy : Cyc (linksS s) i := (hf.cyc (fun i k hk => hU i k hk)).2 (by
      rw [pathP] at hp
      cases hk : nearP far ((linksS s)[i]?.getD []) with
      | none => rw [hk] at hp; exact absurd rfl hp
      | some k => exact ⟨k, rfl⟩)
    have hpl : (pathP (linksS s) far i (s.defs.length + 1) i).length ≤ 1048576 := by
      have := hW.le
      omega
    refine ⟨none, none, none, none, 0, 0, 0, 0, 0, 0, 0, 0, _, 7, 0, _, _, _, _, _, rfl, fun W hG => (tell_cyc (hF.later hG) (hb.later hG) (nmD s) _ ⟨_, owns_later ho hG⟩ hpl).mono ?_, NmsIn.nil _, .inr (.inr (.inl ⟨rfl, hno, rfl, rfl, rfl, rfl, rfl, i, far, hi, hcy, hc, hf, rfl⟩))⟩
    rintro e w' ⟨nv, rfl, hon, hg⟩
    obtain ⟨p, c, rfl⟩ := (Sl.of_owns hon).len
    exact ⟨_, _, rfl, hg⟩
  · have hnm := NmIn.of h1 h3 hr h2
    obtain ⟨p0, c0, rfl⟩ := hnm.m.len
    obtain ⟨p1, c1, rfl⟩ : ∃ p c, v1 = .slice p (namesN s).active.length c := by
      obtain ⟨vs, _, h, _⟩ := hnm.a.sl
      exact h.len
    obtain ⟨p2, c2, rfl⟩ := hnm.o.len
    obtain ⟨p3, c3, rfl⟩ : ∃ p c, v3 = .slice p (actsR s).length c := by
      obtain ⟨vs, _, h, _⟩ := hnm.c.sl
      exact h.len
    have hl2 := hl
    rw [← linksS_len s] at hl2
    refine ⟨_, _, _, _, _, _, _, _, _, _, _, _, _, 0, 0, 0, _, _, _, _, rfl, fun W hG => (tell_nil W).mono ?_, ⟨hnm.m, hnm.a, hnm.o, hnm.c⟩, .inr (.inr (.inr ⟨rfl, hno, rfl, rfl, fun y hy => whole_cyc hl2 (by rw [linksS_len]; exact hy), rfl, rfl, rfl, rfl⟩))⟩
    rintro e w' ⟨rfl, hg⟩
    exact ⟨_, _, rfl, hg⟩
theorem mix_at {α : Type} (f : α → α) (l : List α) (k : Nat) (hk : k < l.length) : ((l.take k).map f ++ l.drop k)[k]? = l[k]? := by
  rw [List.getElem?_append_right (by rw [List.length_map, List.length_take]; omega), List.length_map, List.length_take, Nat.min_eq_left (by omega), Nat.sub_self, List.getElem?_drop]; rfl
theorem mix_set {α : Type} (f : α → α) (l : List α) (k : Nat) (d : α) (hk : l[k]? = some d) : ((l.take k).map f ++ l.drop k).set k (f d) = (l.take (k + 1)).map f ++ l.drop (k + 1) := by
  obtain ⟨hkl, hke⟩ := List.getElem?_eq_some_iff.1 hk
  rw [List.set_append_right _ _ (by rw [List.length_map, List.length_take]; omega), List.length_map, List.length_take, Nat.min_eq_left (by omega), Nat.sub_self, take_snoc hk, List.map_append, List.append_assoc, List.drop_eq_getElem_cons hkl, hke, List.set_cons_zero]
  rfl
theorem set_fst {α : Type} (l : List (α × List Value)) (k : Nat) (a a' : α) (c : List Value) : (l.set k (a, c)).flatMap (·.2) = (l.set k (a', c)).flatMap (·.2) := by
  rw [List.flatMap_def, List.flatMap_def, List.map_set, List.map_set]
theorem wx_defs {s : Sc} (h : wxS s ≤ 1048576) : ∀ d ∈ s.defs, wxE d.ex ≤ 1048576 := fun d hd => by
  have h2 := sum_mem (fun d : Df => wxE d.ex) s.defs d hd
  unfold wxS at h
  omega
theorem wx_rules {s : Sc} (h : wxS s ≤ 1048576) : ∀ r ∈ s.rules, wxE r.head ≤ 1048576 ∧ wxE r.trail ≤ 1048576 := fun r hr => by
  have h2 := sum_mem wxR s.rules r hr
  unfold wxS at h
  have h3 : wxR r = r.modes.length + (wxE r.head + (wxE r.trail + r.acts.length)) := rfl
  constructor <;> omega
theorem refs_renS {s : Sc} (h : wtS s ≤ 1048576) : ∀ d ∈ (renS s).defs, (refsE d.ex).length ≤ 1048576 := fun d hd => by
  obtain ⟨d0, hd0, rfl⟩ := List.mem_map.1 hd
  show (refsE (renE d0.ex)).length ≤ _
  rw [refs_ren, List.length_map]
  exact refs_wtS h d0 hd0
/-- What does not turn while the copy is written over. -/
structure CpC (s : Sc) (nm n nr : Nat) : Prop where
  hnm : s.modes.length = nm
  hn : s.defs.length = n
  hnr : s.rules.length = nr
  mo : ∀ m ∈ s.modes, MdOk m
  mb : nm * 32 ≤ 140737488351232
  db : n * 128 ≤ 140737488351232
  rb : nr * 296 ≤ 140737488351232

set_option maxRecDepth 100000 in
set_option maxHeartbeats 16000000 in
theorem namesRenamed_any (s : Sc) (w : World) (es : Nat → Addr) (hF : FaultsIn w es) (vm vd vr : Value) (hs : ScIn w s vm vd vr) (hwx : wxS s ≤ 1048576) : Calls Tryz.prog 5 #[scV vm vd vr] w fun e w' => e = .returned (.bool true) ∧ Gr w w' := by
  have hwt := Nat.le_trans (wt_wxS s) hwx
  have hdl := Nat.le_trans (defs_wt s) hwt
  have HDL := Lib.hid hdl
  have HHV := Lib.hid (fun W (hG : Gr w W) => heavy6_any s vm vd vr W (hs.later hG))
  have HWK := Lib.hid (fun W (hG : Gr w W) => wakes6_any W es (hF.later hG))
  have HCS := Lib.hid (fun W (hG : Gr w W) => copySpec_any s W vm vd vr (hs.later hG))
  have HRS := Lib.hid (fun W (hG : Gr w W) => resolve_any s W vm vd vr (esN es 15) (esN es 6) (esN es 7) (hs.later hG) (faults_glo (hF.later hG)).1 (faults_glo (hF.later hG)).2.1 (faults_glo (hF.later hG)).2.2 ⟨_, _, rfl⟩ ⟨_, _, rfl⟩ ⟨_, _, rfl⟩ (refs_wtS hwt))
  have HRT := Lib.hid (fun W (hG : Gr w W) vm' vd' vr' (h : ScIn W (renS s) vm' vd' vr') => resolve_any (renS s) W vm' vd' vr' (esN es 15) (esN es 6) (esN es 7) h (faults_glo (hF.later hG)).1 (faults_glo (hF.later hG)).2.1 (faults_glo (hF.later hG)).2.2 ⟨_, _, rfl⟩ ⟨_, _, rfl⟩ ⟨_, _, rfl⟩ (refs_renS hwt))
  have HT1 := Lib.hid (fun (W W4 : World) (e : Ending) (hG : Gr w W4) (h : ResE s (esN es 15) (esN es 6) (esN es 7) W e W4) => res_told (hF.later hG) hdl h)
  have HT2 := Lib.hid (fun (W W4 : World) (e : Ending) (hG : Gr w W4) (h : ResE (renS s) (esN es 15) (esN es 6) (esN es 7) W e W4) => res_told (hF.later hG) (by rw [len_ren]; exact hdl) h)
  have HXD := Lib.hid (wx_defs hwx)
  have HXR := Lib.hid (wx_rules hwx)
  obtain ⟨dl, rl, hd, hr, hm, hmo, hmn, hmb, hds, hdi, hdn, hdb, hrs, hri, hrn, hrb⟩ := hs
  obtain ⟨pm, cm, rfl⟩ := hm.len
  obtain ⟨pd, cd, rfl⟩ := hds.len
  obtain ⟨pr, cr, rfl⟩ := hrs.len
  unfold scV at HHV HRS HCS HRT ⊢
  clear hd hr hm hmo hmn hmb hds hdi hdn hdb hrs hri hrn hrb hF hwt hdl hwx
  go_enter Tryz.func5, Tryz.ntmps5
  go_wp2_with fail
  go_at_call 9
  refine name_calls (fun W1 hW1 => ?_)
  have xs : boxAt W1 w.heap.size [.slice pm s.modes.length cm, .slice pd dl.length cd, .slice pr rl.length cr] := by rw [hW1]; exact boxAt.new_atN _ _ _ rfl rfl
  have hg1 : Gr w W1 := by rw [hW1]; exact Gr.alloc _ _
  clear hW1
  (with_reducible refine (HHV.out W1 hg1).mono ?_); rintro e w2 ⟨⟨hv, rfl⟩, hg2⟩
  have XS := Lib.hid (xs.later hg2)
  have HG2 := Lib.hid (hg1.trans hg2)
  clear xs hg1 hg2 HHV
  cases hv with
  | true =>
    go_wp2_with fail
    go_at_call 21
    (with_reducible refine (HWK.out w2 HG2.out).mono ?_); rintro e w3 ⟨rfl, hg3⟩
    go_wp2_with fail
    go_ret
    exact ⟨rfl, HG2.out.trans hg3⟩
  | false =>
    have xs := XS.out
    have c_s0 := xs.cell 0 _ rfl
    have c_s1 := xs.cell 1 _ rfl
    have c_s2 := xs.cell 2 _ rfl
    have m_s0 := xs.mark 0 _ rfl
    have m_s1 := xs.mark 1 _ rfl
    have m_s2 := xs.mark 2 _ rfl
    have l_s := xs.lt (Nat.succ_pos _)
    go_wp2_with fail
    go_at_call 10
    (with_reducible refine (HCS.out w2 HG2.out).mono ?_); rintro e w3 ⟨um, ud, ur, rfl, ⟨hcp⟩, hg3⟩
    obtain ⟨dl0, rl0, hd0, hr0, hmod, hmo, hmb, hdef, hdb, hrul, hrb, hdo, hro, ha1, ha2⟩ := hcp
    have hcp : Cp w2.heap.size w3 um ud ur s.modes.length (s.modes.flatMap mdC) dl0 rl0 := ⟨hmod, hdef, hrul, hdo, hro, ha1, ha2⟩
    obtain ⟨pM, cM, rfl⟩ := (Sl.of_owns hmod).len
    obtain ⟨pD, cD, rfl⟩ := (Sl.of_owns hdef).len
    obtain ⟨pR, cR, rfl⟩ := (Sl.of_owns hrul).len
    obtain ⟨nm, hnm⟩ : ∃ n, s.modes.length = n := ⟨_, rfl⟩
    obtain ⟨n, hn⟩ : ∃ n, dl0.length = n := ⟨_, rfl⟩
    obtain ⟨nr, hnr⟩ : ∃ n, rl0.length = n := ⟨_, rfl⟩
    rw [hnm, hn, hnr] at hcp
    rw [hnm] at hmb
    rw [hn] at hdb
    rw [hnr] at hrb
    rw [hnm, hn, hnr]
    have hnd : s.defs.length = n := by rw [← hd0, List.length_map]; exact hn
    have hnr2 : s.rules.length = nr := by rw [← hr0, List.length_map]; exact hnr
    have HCC := Lib.hid (CpC.mk hnm hnd hnr2 hmo hmb hdb hrb)
    have hnI : (n : Int) ≤ 1048576 := by have := HDL.out; rw [hnd] at this; omega
    have hnrI : (nr : Int) ≤ 140737488351232 := by omega
    have HG3 := Lib.hid (HG2.out.trans hg3)
    have XS3 := Lib.hid (XS.out.later hg3)
    have HB2 := Lib.hid (XS.out.lt (by simp))
    have HN0 := Lib.hid hn
    have HNR0 := Lib.hid hnr
    have HB3 := Lib.hid hg3.size
    have HCP3 := Lib.hid hcp
    have HD0 := Lib.hid hd0
    have HR0 := Lib.hid hr0
    clear c_s0 c_s1 c_s2 m_s0 m_s1 m_s2 l_s
    clear xs HCS XS hg3 hcp hd0 hr0 hmod hmo hmb hdef hdb hrul hrb hdo hro ha1 ha2 hnm hn hnr hnd hnr2
    go_upto_block 0 with fail
    refine name_world (fun W4 hW4 => ?_)
    have xt : boxAt W4 w3.heap.size [.slice pM nm cM, .slice pD n cD, .slice pR nr cR] := by rw [hW4]; exact boxAt.new_atN _ _ _ rfl rfl
    have hg4 : Gr w3 W4 := by rw [hW4]; exact Gr.alloc _ _
    have HUD := Lib.hid (fun g (hg : (Value.slice pD n cD).ownBlock = some g) => World.ownsRow.lt HCP3.out.defs g hg)
    have HUR := Lib.hid (fun g (hg : (Value.slice pR nr cR).ownBlock = some g) => World.ownsRow.lt HCP3.out.rules g hg)
    have hs2 := HB2.out
    have HCP4 := Lib.hid (HCP3.out.later hg4)
    have HG4 := Lib.hid (HG3.out.trans hg4)
    have XT4 := Lib.hid xt
    have XS4 := Lib.hid (XS3.out.later hg4)
    obtain ⟨tb, htb⟩ : ∃ b, w3.heap.size = b := ⟨_, rfl⟩
    obtain ⟨sb, hsb⟩ : ∃ b, w.heap.size = b := ⟨_, rfl⟩
    obtain ⟨B, hB⟩ : ∃ b, w2.heap.size = b := ⟨_, rfl⟩
    rw [htb] at XT4 HUD HUR
    rw [hsb] at XS4 hs2
    rw [hB] at hs2 HUD HUR HCP4
    have HSB := Lib.hid hs2
    simp only [htb, hsb]
    clear hW4 xt hg4 hs2 htb hsb HCP3 HG3 XS3 HB2 HB3
    have HB0 := Lib.hid (show w.heap.size ≤ B by have := HG2.out.size; omega)
    clear hB
    go_wp2_with fail
    go_loopw [4] (fun i wr => ∃ (k : Nat) (dl1 : List (Df × List Value)), k ≤ n ∧ i = .int .i64 (k : Int) ∧ Hid (Gr w wr) ∧ Hid (boxAt wr sb [.slice pm s.modes.length cm, .slice pd dl.length cd, .slice pr rl.length cr] ∧ boxAt wr tb [.slice pM nm cM, .slice pD n cD, .slice pR nr cR]) ∧ Hid (dl1.length = n ∧ Cp B wr (.slice pM nm cM) (.slice pD n cD) (.slice pR nr cR) nm (s.modes.flatMap mdC) dl1 rl0) ∧ Hid (dl1.map (·.1) = (s.defs.take k).map renD ++ s.defs.drop k)) (fun i _ => n - (intOf i).toNat)
    case atStart => exact ⟨0, dl0, Nat.zero_le _, rfl, HG4, Lib.hid ⟨XS4.out, XT4.out⟩, Lib.hid ⟨HN0.out, HCP4.out⟩, Lib.hid (by simpa using HD0.out)⟩
    case round =>
      clear HG4 XS4 XT4 HCP4 HD0
      obtain ⟨k, dl1, hk, rfl, HG, HBO, HCP, HMX⟩ := hrel
      have ys := HBO.out.1
      have yt := HBO.out.2
      rcases Nat.lt_or_ge k n with hkn | hkn
      · have hkI : (k : Int) < (n : Int) := by omega
        have HKN := Lib.hid hkn
        obtain ⟨⟨d, cs⟩, hx⟩ : ∃ x, dl1[k]? = some x := ⟨_, List.getElem?_eq_getElem (by rw [HCP.out.1]; exact hkn)⟩
        have hsd : s.defs[k]? = some d := by
          rw [← mix_at renD s.defs k (by rw [HCC.out.hn]; exact hkn), ← HMX.out, List.getElem?_map, hx]; rfl
        have hdd := HCP.out.2.defs
        rw [HCP.out.1] at hdd
        obtain ⟨gd, cap, hv, hB2, hgl, _⟩ := owns_block hdd (by omega)
        injection hv with hv1 hv2 hv3
        subst hv1 hv3
        have hlen := fun p (hp : p ∈ dl1) => (HCP.out.2.dOwn p hp).1
        obtain ⟨hcell, _, hfro⟩ := own_cells hdd hlen hx
        obtain ⟨_, hown⟩ := HCP.out.2.dOwn _ (List.mem_of_getElem? hx)
        have HSD := Lib.hid hsd
        have HX := Lib.hid hx
        have HDD := Lib.hid hdd
        have HLN := Lib.hid hlen
        have HWX := Lib.hid (HXD.out d (List.mem_of_getElem? hsd))
        dsimp only at hown hcell
        cases hown with
        | mk ec hee hnn hpp =>
        obtain ⟨nmd, po, ex⟩ := d
        dsimp only at hee hnn hpp hcell HWX
        obtain ⟨op, ps, s1, tx, mn, mx, p1, n1, c1, rfl⟩ := hee.form
        unfold exCells at hcell HX
        have HEE := Lib.hid hee
        have HPP := Lib.hid hpp
        have k0 : wr.cell? ⟨gd, k * 12, none⟩ = some (.string nmd) := hcell 0 _ rfl
        have f0 := hfro (k * 12)
        have HFR := Lib.hid hfro
        obtain ⟨sz, hsz⟩ : ∃ z, nmd.size = z := ⟨_, rfl⟩
        have HSZ := Lib.hid hsz
        have hszI : (sz : Int) ≤ 9223372036854775807 := by rw [← hsz]; unfold maxLen at hnn; omega
        clear hk hkn hx hsd hdd hlen hcell hfro hee hpp hB2
        have c_t0 := yt.cell 0 _ rfl
        have c_t1 := yt.cell 1 _ rfl
        have c_t2 := yt.cell 2 _ rfl
        have m_t0 := yt.mark 0 _ rfl
        have m_t1 := yt.mark 1 _ rfl
        have m_t2 := yt.mark 2 _ rfl
        have l_t := yt.lt (Nat.succ_pos _)
        rcases Nat.lt_or_ge sz 32 with hs32 | hs32
        rotate_left
        · have hsI : (32 : Int) ≤ (nmd.size : Int) := by rw [HSZ.out]; omega
          clear hs32 hsz
          go_wp2_with fail
          go_at_call 21
          (with_reducible refine (HWK.out wr HG.out).mono ?_); rintro e w9 ⟨rfl, hg9⟩
          go_wp2_with fail
          go_ret
          exact ⟨rfl, HG.out.trans hg9⟩
        have hsI : ¬ (32 : Int) ≤ (nmd.size : Int) := by rw [HSZ.out]; omega
        have HS32 := Lib.hid hs32
        clear hs32 hsz
        have hsc : ¬ (9223372036854775807 < nmd.size + 1) := by rw [HSZ.out]; have := HS32.out; omega
        go_upto_region 9 with fail
        refine wp_region_T (fun _ _ => False) (fun w' => Gr wr w') (.take 0 (.take 1 (.take 2 (.take 3 (.take 4 (.take 5 (.take 6 (.take 7 (.take 8 (.take 9 (.take 10 (.take 11 (.run 12 true .nil))))))))))))) (fun _ _ _ _ h => h.elim) (Gr.drew _) (by kernel_rfl) (by kernel_rfl) ?_
        simp only [pickOps, nthOp]
        intro wq hG hSq
        clear hSq
        repeat (first | (refine wpP_skip_take ?_ ?_; (focus rfl); try simp only [Act.put, List.setIfInBounds_toArray, List.set_cons_zero, List.set_cons_succ]) | (refine wpP_skip_run ?_ ?_; (focus rfl); try simp only [Act.put, List.setIfInBounds_toArray, List.set_cons_zero, List.set_cons_succ]) | (refine wpP_take ?_ ?_; (focus rfl); apply Exists.intro; refine ⟨fun w' hw' => ?_, ?_⟩; (focus (have hc := Gr.cells hw'; go_simp; (try rfl); done)); try simp only [Act.put, List.setIfInBounds_toArray, List.set_cons_zero, List.set_cons_succ]))
        have zc := hG.cell k0
        have zm := (HFR.out (k * 12))
        have zm : wq.frozen? ⟨gd, k * 12, none⟩ = false := by rw [frozen_block (Below.block hG gd hgl)]; exact zm
        have zl := Nat.lt_of_lt_of_le hgl hG.size
        refine wpP_last ?_ (fun K hK => ?_); (focus rfl)
        go_simp
        refine hK.out _ _ ?_
        try simp only [Act.put, List.setIfInBounds_toArray, List.set_cons_zero, List.set_cons_succ]
        clear hK K zc zm zl
        refine wpP_done ?_
        clear c_t0 c_t1 c_t2 m_t0 m_t1 m_t2 l_t
        clear k0 f0 hsc hsI hszI
        go_upto_region 10 with fail
        refine name_world (fun W1 hW1 => ?_)
        obtain ⟨nmv, hnmv⟩ : ∃ t : ByteArray, nmd ++ ⟨#[95]⟩ = t := ⟨_, rfl⟩
        have HNV := Lib.hid hnmv
        have HG1 := Lib.hid hG
        have HK1 := Lib.hid (show KpR [gd] wr W1 by rw [hW1]; exact (KpR.gr hG).put (.inr (by simp)) _)
        have HO1 := Lib.hid (show W1.ownsRow B 57 12 (.slice (some ⟨gd, 0, none⟩) n cD) n ((dl1.set k (⟨nmd, po, ex⟩, setMany [.string nmd, .int .i64 po, .int .i64 op, .int .i64 ps, .int .u64 (wd s1 0), .int .u64 (wd s1 1), .int .u64 (wd s1 2), .int .u64 (wd s1 3), .string tx, .int .i64 mn, .int .i64 mx, .slice p1 n1 c1] 0 [.string nmv])).flatMap (·.2)) by
          rw [hW1, ← hnmv]
          exact own_sets [.string (nmd ++ ⟨#[95]⟩)] wq dl1 k 0 ⟨nmd, po, ex⟩ _ (owns_later HDD.out hG) HLN.out HX.out (show 0 + 1 ≤ 12 by decide))
        have HEE1 := Lib.hid (HEE.out.keep (S' := CpS B W1 (.slice (some ⟨gd, 0, none⟩) n cD) (.slice pR nr cR)) (fun b hb => Cp.part (.inl rfl) HK1.out hb) (fun b hb => hb.grow HK1.out.size))
        have hkl := (List.getElem?_eq_some_iff.1 HX.out).1
        obtain ⟨hcell, hgl1, hfro⟩ := own_cells HO1.out (fun p hp => by
          rcases List.mem_or_eq_of_mem_set hp with hp | rfl
          · exact HLN.out p hp
          · rfl) (List.getElem?_set_self hkl)
        dsimp only [setMany, List.set_cons_zero] at hcell
        have HFR1 := Lib.hid hfro
        have yt1 := HK1.out.box yt (fun hm => by have h1 := List.mem_singleton.1 hm; have h2 := (HUD.out gd rfl).2; omega) (by simp)
        have ys1 := HK1.out.box ys (fun hm => by have h1 := List.mem_singleton.1 hm; have h2 := (HUD.out gd rfl).1; have h3 := HSB.out; omega) (by simp)
        have YT1 := Lib.hid yt1
        have YS1 := Lib.hid ys1
        have HG6 := Lib.hid (KpR.toGr HG.out HK1.out (fun x hx => by rw [List.mem_singleton.1 hx]; exact Nat.le_trans HB0.out (HUD.out gd rfl).1))
        have HRN := Lib.hid (fun W (hG : Gr W1 W) => renamed_any _ ex (Nat.le_refl _) _ W (HEE1.out.exIn.later hG) HWX.out)
        unfold exCells at HRN
        try dsimp only at HRN
        have e2 : W1.cell? ⟨gd, k * 12 + 2, none⟩ = some (.int .i64 op) := hcell 2 _ rfl
        have e3 : W1.cell? ⟨gd, k * 12 + 3, none⟩ = some (.int .i64 ps) := hcell 3 _ rfl
        have e4 : W1.cell? ⟨gd, k * 12 + 4, none⟩ = some (.int .u64 (wd s1 0)) := hcell 4 _ rfl
        have e5 : W1.cell? ⟨gd, k * 12 + 5, none⟩ = some (.int .u64 (wd s1 1)) := hcell 5 _ rfl
        have e6 : W1.cell? ⟨gd, k * 12 + 6, none⟩ = some (.int .u64 (wd s1 2)) := hcell 6 _ rfl
        have e7 : W1.cell? ⟨gd, k * 12 + 7, none⟩ = some (.int .u64 (wd s1 3)) := hcell 7 _ rfl
        have e8 : W1.cell? ⟨gd, k * 12 + 8, none⟩ = some (.string tx) := hcell 8 _ rfl
        have e9 : W1.cell? ⟨gd, k * 12 + 9, none⟩ = some (.int .i64 mn) := hcell 9 _ rfl
        have e10 : W1.cell? ⟨gd, k * 12 + 10, none⟩ = some (.int .i64 mx) := hcell 10 _ rfl
        have e11 : W1.cell? ⟨gd, k * 12 + 11, none⟩ = some (.slice p1 n1 c1) := hcell 11 _ rfl
        have HCE := Lib.hid hcell
        clear hW1 hG hcell hfro hnmv
        have c_t0 := yt1.cell 0 _ rfl
        have c_t1 := yt1.cell 1 _ rfl
        have c_t2 := yt1.cell 2 _ rfl
        have m_t0 := yt1.mark 0 _ rfl
        have m_t1 := yt1.mark 1 _ rfl
        have m_t2 := yt1.mark 2 _ rfl
        have l_t := yt1.lt (Nat.succ_pos _)
        refine wp_region_T (fun _ _ => False) (fun w' => Gr W1 w') (.take 0 (.take 1 (.take 2 (.take 3 (.take 4 (.take 5 (.take 6 (.take 7 (.take 8 (.run 9 false (.take 10 (.take 11 (.run 12 true .nil))))))))))))) (fun _ _ _ _ h => h.elim) (Gr.drew _) (by kernel_rfl) (by kernel_rfl) ?_
        simp only [pickOps, nthOp]
        intro wq2 hG hSq
        clear hSq
        repeat (first | (refine wpP_skip_take ?_ ?_; (focus rfl); try simp only [Act.put, List.setIfInBounds_toArray, List.set_cons_zero, List.set_cons_succ]) | (refine wpP_skip_run ?_ ?_; (focus rfl); try simp only [Act.put, List.setIfInBounds_toArray, List.set_cons_zero, List.set_cons_succ]) | (refine wpP_take ?_ ?_; (focus rfl); apply Exists.intro; refine ⟨fun w' hw' => ?_, ?_⟩; (focus (have hc := Gr.cells hw'; go_simp; (try rfl); done)); try simp only [Act.put, List.setIfInBounds_toArray, List.set_cons_zero, List.set_cons_succ]))
        refine wpP_run ?_ (fun K hK => ?_); (focus rfl)
        go_simp
        go_at_call 27
        (with_reducible refine (HRN.out _ hG).mono ?_); rintro e' w7 ⟨ds, rfl, ho, hb⟩
        obtain ⟨op3, ps3, s3, tx3, mn3, mx3, p3, n3, c3, rfl⟩ := ho.form
        have HEO := Lib.hid ho
        have HQS := Lib.hid hG.size
        clear ho
        unfold exCells at HEO ⊢
        try dsimp only
        replace hG := hG.trans hb
        refine hK.out _ _ hG ?_
        clear hK K hb
        try simp only [Act.put, List.setIfInBounds_toArray, List.set_cons_zero, List.set_cons_succ]
        repeat (first | (refine wpP_skip_take ?_ ?_; (focus rfl); try simp only [Act.put, List.setIfInBounds_toArray, List.set_cons_zero, List.set_cons_succ]) | (refine wpP_skip_run ?_ ?_; (focus rfl); try simp only [Act.put, List.setIfInBounds_toArray, List.set_cons_zero, List.set_cons_succ]) | (refine wpP_take ?_ ?_; (focus rfl); apply Exists.intro; refine ⟨fun w' hw' => ?_, ?_⟩; (focus (have hc := Gr.cells hw'; go_simp; (try rfl); done)); try simp only [Act.put, List.setIfInBounds_toArray, List.set_cons_zero, List.set_cons_succ]))
        refine wpP_last ?_ (fun K hK => ?_); (focus rfl)
        refine wp_store_mid 55 (.tmp 56) (.tmp 54) rfl gd (k * 12 + 2) #[.int .i64 op3, .int .i64 ps3, .int .u64 (wd s3 0), .int .u64 (wd s3 1), .int .u64 (wd s3 2), .int .u64 (wd s3 3), .string tx3, .int .i64 mn3, .int .i64 mx3, .slice p3 n3 c3] rfl rfl (fun t ht => ⟨by
          have hx := List.getElem?_eq_getElem (l := ([.string nmv, .int .i64 po, .int .i64 op, .int .i64 ps, .int .u64 (wd s1 0), .int .u64 (wd s1 1), .int .u64 (wd s1 2), .int .u64 (wd s1 3), .string tx, .int .i64 mn, .int .i64 mx, .slice p1 n1 c1] : List Value)) (i := 2 + t) (by have : t < 10 := ht; show 2 + t < 12; omega)
          rw [Nat.add_assoc, hG.cell (HCE.out (2 + t) _ hx)]; rfl, by rw [frozen_block (Below.block hG gd hgl1)]; exact HFR1.out _⟩) (by kernel_rfl) (all_oneCell_toArray (ex_ones _ _ _ _ _ _ _ _ _)) ?_
        refine hK.out _ _ ?_
        try simp only [Act.put, List.setIfInBounds_toArray, List.set_cons_zero, List.set_cons_succ]
        clear hK K
        refine wpP_done ?_
        clear c_t0 c_t1 c_t2 m_t0 m_t1 m_t2 l_t
        have HGL := Lib.hid hgl1
        clear e2 e3 e4 e5 e6 e7 e8 e9 e10 e11 hgl1 HCE HRN yt1 ys1 yt ys
        have HG7 := Lib.hid hG
        clear hG
        refine name_Q (fun W3 hW3 => ?_)
        have HK3 := Lib.hid (show KpR [gd] wr W3 by rw [hW3]; exact (HK1.out.trans (KpR.gr (R := [gd]) HG7.out) (fun x hx => .inl hx)).setCells _ _ (.inr (by simp)))
        have HK13 := Lib.hid (show KpR [gd] w7 W3 by rw [hW3]; exact (KpR.refl [gd] w7).setCells _ _ (.inr (by simp)))
        have HCP3 := Lib.hid (show Cp B W3 (.slice pM nm cM) (.slice (some ⟨gd, 0, none⟩) n cD) (.slice pR nr cR) nm (s.modes.flatMap mdC) (dl1.set k (renD ⟨nmd, po, ex⟩, [.string nmv, .int .i64 po, .int .i64 op3, .int .i64 ps3, .int .u64 (wd s3 0), .int .u64 (wd s3 1), .int .u64 (wd s3 2), .int .u64 (wd s3 3), .string tx3, .int .i64 mn3, .int .i64 mx3, .slice p3 n3 c3])) rl0 by
          refine Cp.defSet HCP.out.2 rfl HK3.out rfl ?_ ?_
          · have h := own_sets [.int .i64 op3, .int .i64 ps3, .int .u64 (wd s3 0), .int .u64 (wd s3 1), .int .u64 (wd s3 2), .int .u64 (wd s3 3), .string tx3, .int .i64 mn3, .int .i64 mx3, .slice p3 n3 c3] w7 (dl1.set k (⟨nmd, po, ex⟩, setMany [.string nmd, .int .i64 po, .int .i64 op, .int .i64 ps, .int .u64 (wd s1 0), .int .u64 (wd s1 1), .int .u64 (wd s1 2), .int .u64 (wd s1 3), .string tx, .int .i64 mn, .int .i64 mx, .slice p1 n1 c1] 0 [.string nmv])) k 2 ⟨nmd, po, ex⟩ _ (owns_later HO1.out HG7.out) (fun p hp => by
              rcases List.mem_or_eq_of_mem_set hp with hp | rfl
              · exact HLN.out p hp
              · rfl) (List.getElem?_set_self hkl) (show 2 + 10 ≤ 12 by decide)
            rw [List.set_set, set_fst _ _ _ (renD ⟨nmd, po, ex⟩), ← hW3] at h
            rw [HCP.out.1]
            exact h
          · have h := DfOwn.mk (S := CpS B W3 (.slice (some ⟨gd, 0, none⟩) n cD) (.slice pR nr cR)) (w := W3) (renD ⟨nmd, po, ex⟩) _ (HEO.out.keep (S' := CpS B W3 (.slice (some ⟨gd, 0, none⟩) n cD) (.slice pR nr cR)) (fun b hb => HK13.out.block b hb.2 (fun hm => by have h1 := List.mem_singleton.1 hm; have h2 := HGL.out; have h3 := HQS.out; have h4 := hb.1; omega)) (fun b hb => ⟨by have h1 := hb.1; have h2 := HQS.out; have h3 := HGL.out; have h4 := (HUD.out gd rfl).1; omega, by have h1 := hb.2; have h2 := HK13.out.size; omega, fun e => by injection e with e; have h1 := hb.1; have h2 := HQS.out; have h3 := HGL.out; have e : gd = b := e; omega, fun e => by have h1 := (World.ownsRow.lt HCP.out.2.rules b e).2; have h2 := HK1.out.size; have h3 := HQS.out; have h4 := hb.1; omega⟩)) (by
              show (nmd ++ (⟨#[95]⟩ : ByteArray)).size ≤ maxLen
              rw [ByteArray.size_append, HSZ.out]
              show sz + 1 ≤ maxLen
              unfold maxLen
              have := HS32.out
              omega) HPP.out
            have e : (renD ⟨nmd, po, ex⟩).name = nmv := HNV.out
            rw [e] at h
            exact h)
        have HGW := Lib.hid (KpR.toGr HG.out HK3.out (fun x hx => by rw [List.mem_singleton.1 hx]; exact Nat.le_trans HB0.out (HUD.out gd rfl).1))
        have yt3 := HK3.out.box HBO.out.2 (fun hm => by have h1 := List.mem_singleton.1 hm; have h2 := (HUD.out gd rfl).2; omega) (by simp)
        have ys3 := HK3.out.box HBO.out.1 (fun hm => by have h1 := List.mem_singleton.1 hm; have h2 := (HUD.out gd rfl).1; have h3 := HSB.out; omega) (by simp)
        have HMP := Lib.hid (show (dl1.set k (renD ⟨nmd, po, ex⟩, [.string nmv, .int .i64 po, .int .i64 op3, .int .i64 ps3, .int .u64 (wd s3 0), .int .u64 (wd s3 1), .int .u64 (wd s3 2), .int .u64 (wd s3 3), .string tx3, .int .i64 mn3, .int .i64 mx3, .slice p3 n3 c3])).map (·.1) = (s.defs.take (k + 1)).map renD ++ s.defs.drop (k + 1) by
          rw [List.map_set, HMX.out, mix_set renD _ _ _ HSD.out])
        have HLS := Lib.hid (show (dl1.set k (renD ⟨nmd, po, ex⟩, [.string nmv, .int .i64 po, .int .i64 op3, .int .i64 ps3, .int .u64 (wd s3 0), .int .u64 (wd s3 1), .int .u64 (wd s3 2), .int .u64 (wd s3 3), .string tx3, .int .i64 mn3, .int .i64 mx3, .slice p3 n3 c3])).length = n by rw [List.length_set]; exact HCP.out.1)
        clear hW3
        go_wp2_with fail
        go_roundw
        case rel => exact ⟨k + 1, _, HKN.out, by go_num, HGW, Lib.hid ⟨ys3, yt3⟩, Lib.hid ⟨HLS.out, HCP3.out⟩, HMP⟩
        case measure => have := HKN.out; simp [intOf]; omega
      · have hkI : ¬ (k : Int) < (n : Int) := by omega
        have hke : k = n := by omega
        subst hke
        have HDM := Lib.hid (show dl1.map (·.1) = s.defs.map renD by
          rw [HMX.out, List.take_of_length_le (by rw [HCC.out.hn]; exact Nat.le_refl _), List.drop_of_length_le (by rw [HCC.out.hn]; exact Nat.le_refl _), List.append_nil])
        have c_t0 := yt.cell 0 _ rfl
        have c_t1 := yt.cell 1 _ rfl
        have c_t2 := yt.cell 2 _ rfl
        have m_t0 := yt.mark 0 _ rfl
        have m_t1 := yt.mark 1 _ rfl
        have m_t2 := yt.mark 2 _ rfl
        have l_t := yt.lt (Nat.succ_pos _)
        clear hk hkn
        go_wp2_with fail
        clear c_t0 c_t1 c_t2 m_t0 m_t1 m_t2 l_t
        clear ys yt
        go_loopw [5] (fun i wr => ∃ (j : Nat) (rl1 : List (Rl × List Value)), j ≤ nr ∧ i = .int .i64 (j : Int) ∧ Hid (Gr w wr) ∧ Hid (boxAt wr sb [.slice pm s.modes.length cm, .slice pd dl.length cd, .slice pr rl.length cr] ∧ boxAt wr tb [.slice pM nm cM, .slice pD k cD, .slice pR nr cR]) ∧ Hid (rl1.length = nr ∧ Cp B wr (.slice pM nm cM) (.slice pD k cD) (.slice pR nr cR) nm (s.modes.flatMap mdC) dl1 rl1) ∧ Hid (rl1.map (·.1) = (s.rules.take j).map renR ++ s.rules.drop j)) (fun i _ => nr - (intOf i).toNat)
        case atStart => exact ⟨0, rl0, Nat.zero_le _, rfl, HG, HBO, Lib.hid ⟨HNR0.out, HCP.out.2⟩, Lib.hid (by simpa using HR0.out)⟩
        case round =>
          have HDL1 := Lib.hid HCP.out.1
          clear HG HBO HCP HMX
          obtain ⟨j, rl1, hj, rfl, HG, HBO, HCP, HMX⟩ := hrel
          have ys := HBO.out.1
          have yt := HBO.out.2
          rcases Nat.lt_or_ge j nr with hjn | hjn
          · have hjI : (j : Int) < (nr : Int) := by omega
            have HJN := Lib.hid hjn
            obtain ⟨⟨r, cs⟩, hx⟩ : ∃ x, rl1[j]? = some x := ⟨_, List.getElem?_eq_getElem (by rw [HCP.out.1]; exact hjn)⟩
            have hsr : s.rules[j]? = some r := by
              rw [← mix_at renR s.rules j (by rw [HCC.out.hnr]; exact hjn), ← HMX.out, List.getElem?_map, hx]; rfl
            have hrr := HCP.out.2.rules
            rw [HCP.out.1] at hrr
            obtain ⟨gr, cap, hv, hB2, hgl, _⟩ := owns_block hrr (by omega)
            injection hv with hv1 hv2 hv3
            subst hv1 hv3
            have hlen := fun p (hp : p ∈ rl1) => (HCP.out.2.rOwn p hp).1
            obtain ⟨hcell, _, hfro⟩ := own_cells hrr hlen hx
            obtain ⟨_, hown⟩ := HCP.out.2.rOwn _ (List.mem_of_getElem? hx)
            have HSR := Lib.hid hsr
            have HX := Lib.hid hx
            have HRR := Lib.hid hrr
            have HLN := Lib.hid hlen
            have HWX := Lib.hid (HXR.out r (List.mem_of_getElem? hsr))
            have HOWN := Lib.hid hown
            obtain ⟨po, al, rmo, rhd, ht, rtl, lb, rac⟩ := r
            dsimp only at hown hcell HWX
            have HCE := Lib.hid hcell
            cases hown with
            | mk vmr var ec tc hee hte hmm hmn2 hmS hmb2 hmo2 haa han2 haS hab2 hao2 hll hpp =>
            dsimp only at hee hte hmm haa hcell HCE
            obtain ⟨op2, ps2, s2, tx2, mn2, mx2, p2, n2, c2, rfl⟩ := hee.form
            obtain ⟨op4, ps4, s4, tx4, mn4, mx4, p4, n4, c4, rfl⟩ := hte.form
            obtain ⟨pum, cum, rfl⟩ := hmm.len
            obtain ⟨pua, cua, rfl⟩ := haa.len
            obtain ⟨num, hnum⟩ : ∃ n, rmo.length = n := ⟨_, rfl⟩
            obtain ⟨nua, hnua⟩ : ∃ n, rac.length = n := ⟨_, rfl⟩
            unfold exCells at hcell HCE HX
            dsimp only [List.cons_append, List.nil_append] at hcell HCE HX
            rw [hnum, hnua] at hcell HCE HX
            have HNU := Lib.hid (And.intro hnum hnua)
            have HRH := Lib.hid (fun W (hG : Gr wr W) => renamed_any _ rhd (Nat.le_refl _) _ W (hee.exIn.later hG) HWX.out.1)
            unfold exCells at HRH
            try dsimp only at HRH
            have HFR := Lib.hid hfro
            have HGL := Lib.hid hgl
            have HTE := Lib.hid hte
            have HMM := Lib.hid (And.intro hmm (And.intro hmn2 (And.intro hmS (And.intro hmb2 hmo2))))
            have HAA := Lib.hid (And.intro haa (And.intro han2 (And.intro haS (And.intro hab2 hao2))))
            have HLL := Lib.hid (And.intro hll hpp)
            clear hee hte hmm hmn2 hmS hmb2 hmo2 haa han2 haS hab2 hao2 hll hpp hj hjn hx hsr hrr hlen hfro hB2 hnum hnua
            have c_t0 := yt.cell 0 _ rfl
            have c_t1 := yt.cell 1 _ rfl
            have c_t2 := yt.cell 2 _ rfl
            have m_t0 := yt.mark 0 _ rfl
            have m_t1 := yt.mark 1 _ rfl
            have m_t2 := yt.mark 2 _ rfl
            have l_t := yt.lt (Nat.succ_pos _)
            go_wp2_with fail
            have e0 : wr.cell? ⟨gr, j * 26 + 3, none⟩ = some (.int .i64 op2) := HCE.out 3 _ rfl
            have e1 : wr.cell? ⟨gr, j * 26 + 4, none⟩ = some (.int .i64 ps2) := HCE.out 4 _ rfl
            have e2 : wr.cell? ⟨gr, j * 26 + 5, none⟩ = some (.int .u64 (wd s2 0)) := HCE.out 5 _ rfl
            have e3 : wr.cell? ⟨gr, j * 26 + 6, none⟩ = some (.int .u64 (wd s2 1)) := HCE.out 6 _ rfl
            have e4 : wr.cell? ⟨gr, j * 26 + 7, none⟩ = some (.int .u64 (wd s2 2)) := HCE.out 7 _ rfl
            have e5 : wr.cell? ⟨gr, j * 26 + 8, none⟩ = some (.int .u64 (wd s2 3)) := HCE.out 8 _ rfl
            have e6 : wr.cell? ⟨gr, j * 26 + 9, none⟩ = some (.string tx2) := HCE.out 9 _ rfl
            have e7 : wr.cell? ⟨gr, j * 26 + 10, none⟩ = some (.int .i64 mn2) := HCE.out 10 _ rfl
            have e8 : wr.cell? ⟨gr, j * 26 + 11, none⟩ = some (.int .i64 mx2) := HCE.out 11 _ rfl
            have e9 : wr.cell? ⟨gr, j * 26 + 12, none⟩ = some (.slice p2 n2 c2) := HCE.out 12 _ rfl
            refine wp_region_T (fun _ _ => False) (fun w' => Gr wr w') (.take 0 (.take 1 (.take 2 (.take 3 (.take 4 (.take 5 (.take 6 (.take 7 (.take 8 (.run 9 false (.take 10 (.take 11 (.run 12 true .nil))))))))))))) (fun _ _ _ _ h => h.elim) (Gr.drew _) (by kernel_rfl) (by kernel_rfl) ?_
            simp only [pickOps, nthOp]
            intro wq hG hSq
            clear hSq
            repeat (first | (refine wpP_skip_take ?_ ?_; (focus rfl); try simp only [Act.put, List.setIfInBounds_toArray, List.set_cons_zero, List.set_cons_succ]) | (refine wpP_skip_run ?_ ?_; (focus rfl); try simp only [Act.put, List.setIfInBounds_toArray, List.set_cons_zero, List.set_cons_succ]) | (refine wpP_take ?_ ?_; (focus rfl); apply Exists.intro; refine ⟨fun w' hw' => ?_, ?_⟩; (focus (have hc := Gr.cells hw'; go_simp; (try rfl); done)); try simp only [Act.put, List.setIfInBounds_toArray, List.set_cons_zero, List.set_cons_succ]))
            refine wpP_run ?_ (fun K hK => ?_); (focus rfl)
            go_simp
            go_at_call 27
            (with_reducible refine (HRH.out _ hG).mono ?_); rintro e' w7 ⟨ds, rfl, ho, hb⟩
            obtain ⟨op6, ps6, s6, tx6, mn6, mx6, p6, n6, c6, rfl⟩ := ho.form
            have HEO6 := Lib.hid ho
            have HQS6 := Lib.hid hG.size
            clear ho
            unfold exCells at HEO6 ⊢
            try dsimp only
            replace hG := hG.trans hb
            refine hK.out _ _ hG ?_
            clear hK K hb
            try simp only [Act.put, List.setIfInBounds_toArray, List.set_cons_zero, List.set_cons_succ]
            repeat (first | (refine wpP_skip_take ?_ ?_; (focus rfl); try simp only [Act.put, List.setIfInBounds_toArray, List.set_cons_zero, List.set_cons_succ]) | (refine wpP_skip_run ?_ ?_; (focus rfl); try simp only [Act.put, List.setIfInBounds_toArray, List.set_cons_zero, List.set_cons_succ]) | (refine wpP_take ?_ ?_; (focus rfl); apply Exists.intro; refine ⟨fun w' hw' => ?_, ?_⟩; (focus (have hc := Gr.cells hw'; go_simp; (try rfl); done)); try simp only [Act.put, List.setIfInBounds_toArray, List.set_cons_zero, List.set_cons_succ]))
            refine wpP_last ?_ (fun K hK => ?_); (focus rfl)
            refine wp_store_mid 55 (.tmp 75) (.tmp 73) rfl gr (j * 26 + 3) #[.int .i64 op6, .int .i64 ps6, .int .u64 (wd s6 0), .int .u64 (wd s6 1), .int .u64 (wd s6 2), .int .u64 (wd s6 3), .string tx6, .int .i64 mn6, .int .i64 mx6, .slice p6 n6 c6] rfl rfl (fun t htt => ⟨by
              have hx := List.getElem?_eq_getElem (l := ([.int .i64 po, .bool al, .slice pum num cum, .int .i64 op2, .int .i64 ps2, .int .u64 (wd s2 0), .int .u64 (wd s2 1), .int .u64 (wd s2 2), .int .u64 (wd s2 3), .string tx2, .int .i64 mn2, .int .i64 mx2, .slice p2 n2 c2, .bool ht, .int .i64 op4, .int .i64 ps4, .int .u64 (wd s4 0), .int .u64 (wd s4 1), .int .u64 (wd s4 2), .int .u64 (wd s4 3), .string tx4, .int .i64 mn4, .int .i64 mx4, .slice p4 n4 c4, .string lb, .slice pua nua cua] : List Value)) (i := 3 + t) (by have : t < 10 := htt; show 3 + t < 26; omega)
              rw [Nat.add_assoc, hG.cell (HCE.out (3 + t) _ hx)]; rfl, by rw [frozen_block (Below.block hG gr hgl)]; exact HFR.out _⟩) (by kernel_rfl) (all_oneCell_toArray (ex_ones _ _ _ _ _ _ _ _ _)) ?_
            refine hK.out _ _ ?_
            try simp only [Act.put, List.setIfInBounds_toArray, List.set_cons_zero, List.set_cons_succ]
            clear hK K
            refine wpP_done ?_
            clear e0 e1 e2 e3 e4 e5 e6 e7 e8 e9
            go_upto_region 15 with fail
            refine name_world (fun W1 hW1 => ?_)
            clear c_t0 c_t1 c_t2 m_t0 m_t1 m_t2 l_t
            have HG7 := Lib.hid hG
            have hkl := (List.getElem?_eq_some_iff.1 HX.out).1
            have HK1 := Lib.hid (show KpR [gr] wr W1 by rw [hW1]; exact (KpR.gr HG7.out).setCells _ _ (.inr (by simp)))
            have HK71 := Lib.hid (show KpR [gr] w7 W1 by rw [hW1]; exact (KpR.refl [gr] w7).setCells _ _ (.inr (by simp)))
            have HO1 := Lib.hid (show W1.ownsRow B 71 26 (.slice (some ⟨gr, 0, none⟩) nr cR) nr ((rl1.set j ((⟨po, al, rmo, renE rhd, ht, rtl, lb, rac⟩ : Rl), [.int .i64 po, .bool al, .slice pum num cum, .int .i64 op6, .int .i64 ps6, .int .u64 (wd s6 0), .int .u64 (wd s6 1), .int .u64 (wd s6 2), .int .u64 (wd s6 3), .string tx6, .int .i64 mn6, .int .i64 mx6, .slice p6 n6 c6, .bool ht, .int .i64 op4, .int .i64 ps4, .int .u64 (wd s4 0), .int .u64 (wd s4 1), .int .u64 (wd s4 2), .int .u64 (wd s4 3), .string tx4, .int .i64 mn4, .int .i64 mx4, .slice p4 n4 c4, .string lb, .slice pua nua cua])).flatMap (·.2)) by
              have h := own_sets [.int .i64 op6, .int .i64 ps6, .int .u64 (wd s6 0), .int .u64 (wd s6 1), .int .u64 (wd s6 2), .int .u64 (wd s6 3), .string tx6, .int .i64 mn6, .int .i64 mx6, .slice p6 n6 c6] w7 rl1 j 3 ⟨po, al, rmo, rhd, ht, rtl, lb, rac⟩ _ (owns_later HRR.out HG7.out) HLN.out HX.out (show 3 + 10 ≤ 26 by decide)
              rw [set_fst _ _ _ ⟨po, al, rmo, renE rhd, ht, rtl, lb, rac⟩, ← hW1] at h
              exact h)
            have HEH1 := Lib.hid (HEO6.out.keep (S' := CpS B W1 (.slice pD k cD) (.slice (some ⟨gr, 0, none⟩) nr cR)) (fun b hb => HK71.out.block b hb.2 (fun hm => by have h1 := List.mem_singleton.1 hm; have h2 := HGL.out; have h3 := HQS6.out; have h4 := hb.1; omega)) (fun b hb => ⟨by have h1 := hb.1; have h2 := HQS6.out; have h3 := HGL.out; have h4 := (HUR.out gr rfl).1; omega, by have h1 := hb.2; have h2 := HK71.out.size; omega, fun e => by have h1 := (World.ownsRow.lt HCP.out.2.defs b e).2; have h2 := (Nat.le_refl wr.heap.size); have h3 := HQS6.out; have h4 := hb.1; omega, fun e => by injection e with e; have h1 := hb.1; have h2 := HQS6.out; have h3 := HGL.out; have e : gr = b := e; omega⟩))
            have HRO := Lib.hid (show RlOwn (CpS B W1 (.slice pD k cD) (.slice (some ⟨gr, 0, none⟩) nr cR)) W1 ⟨po, al, rmo, renE rhd, ht, rtl, lb, rac⟩ [.int .i64 po, .bool al, .slice pum num cum, .int .i64 op6, .int .i64 ps6, .int .u64 (wd s6 0), .int .u64 (wd s6 1), .int .u64 (wd s6 2), .int .u64 (wd s6 3), .string tx6, .int .i64 mn6, .int .i64 mx6, .slice p6 n6 c6, .bool ht, .int .i64 op4, .int .i64 ps4, .int .u64 (wd s4 0), .int .u64 (wd s4 1), .int .u64 (wd s4 2), .int .u64 (wd s4 3), .string tx4, .int .i64 mn4, .int .i64 mx4, .slice p4 n4 c4, .string lb, .slice pua nua cua] by
              have h1 := fun b (hb : CpS B wr (.slice pD k cD) (.slice (some ⟨gr, 0, none⟩) nr cR) b) => Cp.part (.inr rfl) HK1.out hb
              have h2 := fun b (hb : CpS B wr (.slice pD k cD) (.slice (some ⟨gr, 0, none⟩) nr cR) b) => (hb.grow HK1.out.size : CpS B W1 (.slice pD k cD) (.slice (some ⟨gr, 0, none⟩) nr cR) b)
              obtain ⟨hmm, hmn2, hmS, hmb2, hmo2⟩ := HMM.out
              obtain ⟨haa, han2, haS, hab2, hao2⟩ := HAA.out
              have h := RlOwn.mk (S := CpS B W1 (.slice pD k cD) (.slice (some ⟨gr, 0, none⟩) nr cR)) (w := W1) ⟨po, al, rmo, renE rhd, ht, rtl, lb, rac⟩ _ _ _ _ HEH1.out (HTE.out.keep h1 h2) (hmm.keep (fun a n c e => h1 _ (hmS a n c e))) hmn2 (fun a n c e => h2 _ (hmS a n c e)) hmb2 hmo2 (haa.keep (fun a n c e => h1 _ (haS a n c e))) han2 (fun a n c e => h2 _ (haS a n c e)) hab2 hao2 HLL.out.1 HLL.out.2
              rw [HNU.out.1, HNU.out.2] at h
              exact h)
            have HCP1 := Lib.hid (Cp.ruleSet (k := j) HCP.out.2 rfl HK1.out rfl (by rw [HCP.out.1]; exact HO1.out) HRO.out)
            have yt1 := HK1.out.box yt (fun hm => by have h1 := List.mem_singleton.1 hm; have h2 := (HUR.out gr rfl).2; omega) (by simp)
            have ys1 := HK1.out.box ys (fun hm => by have h1 := List.mem_singleton.1 hm; have h2 := (HUR.out gr rfl).1; have h3 := HSB.out; omega) (by simp)
            have HYS1 := Lib.hid ys1
            have HYT1 := Lib.hid yt1
            have HLN1 := Lib.hid (show ∀ p ∈ rl1.set j ((⟨po, al, rmo, renE rhd, ht, rtl, lb, rac⟩ : Rl), ([.int .i64 po, .bool al, .slice pum num cum, .int .i64 op6, .int .i64 ps6, .int .u64 (wd s6 0), .int .u64 (wd s6 1), .int .u64 (wd s6 2), .int .u64 (wd s6 3), .string tx6, .int .i64 mn6, .int .i64 mx6, .slice p6 n6 c6, .bool ht, .int .i64 op4, .int .i64 ps4, .int .u64 (wd s4 0), .int .u64 (wd s4 1), .int .u64 (wd s4 2), .int .u64 (wd s4 3), .string tx4, .int .i64 mn4, .int .i64 mx4, .slice p4 n4 c4, .string lb, .slice pua nua cua] : List Value)), p.2.length = 26 from fun p hp => by
              rcases List.mem_or_eq_of_mem_set hp with hp | rfl
              · exact HLN.out p hp
              · rfl)
            obtain ⟨hcell1, hgl1, hfro1⟩ := own_cells HO1.out HLN1.out (List.getElem?_set_self hkl)
            dsimp only at hcell1
            have HCE1 := Lib.hid hcell1
            have HFR1 := Lib.hid hfro1
            have HTE1 := Lib.hid (HTE.out.keep (S' := CpS B W1 (.slice pD k cD) (.slice (some ⟨gr, 0, none⟩) nr cR)) (fun b hb => Cp.part (.inr rfl) HK1.out hb) (fun b hb => hb.grow HK1.out.size))
            have HRL := Lib.hid (fun W (hG : Gr W1 W) => renamed_any _ rtl (Nat.le_refl _) _ W (HTE1.out.exIn.later hG) HWX.out.2)
            unfold exCells at HRL
            try dsimp only at HRL
            have HKL := Lib.hid hkl
            have HGL1 := Lib.hid hgl1
            clear hW1 hG hcell1 hfro1 hcell HCE HRH HFR hgl yt ys hkl
            have c_t0 := yt1.cell 0 _ rfl
            have c_t1 := yt1.cell 1 _ rfl
            have c_t2 := yt1.cell 2 _ rfl
            have m_t0 := yt1.mark 0 _ rfl
            have m_t1 := yt1.mark 1 _ rfl
            have m_t2 := yt1.mark 2 _ rfl
            have l_t := yt1.lt (Nat.succ_pos _)
            have e0 : W1.cell? ⟨gr, j * 26 + 14, none⟩ = some (.int .i64 op4) := HCE1.out 14 _ rfl
            have e1 : W1.cell? ⟨gr, j * 26 + 15, none⟩ = some (.int .i64 ps4) := HCE1.out 15 _ rfl
            have e2 : W1.cell? ⟨gr, j * 26 + 16, none⟩ = some (.int .u64 (wd s4 0)) := HCE1.out 16 _ rfl
            have e3 : W1.cell? ⟨gr, j * 26 + 17, none⟩ = some (.int .u64 (wd s4 1)) := HCE1.out 17 _ rfl
            have e4 : W1.cell? ⟨gr, j * 26 + 18, none⟩ = some (.int .u64 (wd s4 2)) := HCE1.out 18 _ rfl
            have e5 : W1.cell? ⟨gr, j * 26 + 19, none⟩ = some (.int .u64 (wd s4 3)) := HCE1.out 19 _ rfl
            have e6 : W1.cell? ⟨gr, j * 26 + 20, none⟩ = some (.string tx4) := HCE1.out 20 _ rfl
            have e7 : W1.cell? ⟨gr, j * 26 + 21, none⟩ = some (.int .i64 mn4) := HCE1.out 21 _ rfl
            have e8 : W1.cell? ⟨gr, j * 26 + 22, none⟩ = some (.int .i64 mx4) := HCE1.out 22 _ rfl
            have e9 : W1.cell? ⟨gr, j * 26 + 23, none⟩ = some (.slice p4 n4 c4) := HCE1.out 23 _ rfl
            refine wp_region_T (fun _ _ => False) (fun w' => Gr W1 w') (.take 0 (.take 1 (.take 2 (.take 3 (.take 4 (.take 5 (.take 6 (.take 7 (.take 8 (.run 9 false (.take 10 (.take 11 (.run 12 true .nil))))))))))))) (fun _ _ _ _ h => h.elim) (Gr.drew _) (by kernel_rfl) (by kernel_rfl) ?_
            simp only [pickOps, nthOp]
            intro wq hG hSq
            clear hSq
            repeat (first | (refine wpP_skip_take ?_ ?_; (focus rfl); try simp only [Act.put, List.setIfInBounds_toArray, List.set_cons_zero, List.set_cons_succ]) | (refine wpP_skip_run ?_ ?_; (focus rfl); try simp only [Act.put, List.setIfInBounds_toArray, List.set_cons_zero, List.set_cons_succ]) | (refine wpP_take ?_ ?_; (focus rfl); apply Exists.intro; refine ⟨fun w' hw' => ?_, ?_⟩; (focus (have hc := Gr.cells hw'; go_simp; (try rfl); done)); try simp only [Act.put, List.setIfInBounds_toArray, List.set_cons_zero, List.set_cons_succ]))
            refine wpP_run ?_ (fun K hK => ?_); (focus rfl)
            go_simp
            go_at_call 27
            (with_reducible refine (HRL.out _ hG).mono ?_); rintro e' w9 ⟨ds, rfl, ho, hb⟩
            obtain ⟨op8, ps8, s8, tx8, mn8, mx8, p8, n8, c8, rfl⟩ := ho.form
            have HEO8 := Lib.hid ho
            have HQS8 := Lib.hid hG.size
            clear ho
            unfold exCells at HEO8 ⊢
            try dsimp only
            replace hG := hG.trans hb
            refine hK.out _ _ hG ?_
            clear hK K hb
            try simp only [Act.put, List.setIfInBounds_toArray, List.set_cons_zero, List.set_cons_succ]
            repeat (first | (refine wpP_skip_take ?_ ?_; (focus rfl); try simp only [Act.put, List.setIfInBounds_toArray, List.set_cons_zero, List.set_cons_succ]) | (refine wpP_skip_run ?_ ?_; (focus rfl); try simp only [Act.put, List.setIfInBounds_toArray, List.set_cons_zero, List.set_cons_succ]) | (refine wpP_take ?_ ?_; (focus rfl); apply Exists.intro; refine ⟨fun w' hw' => ?_, ?_⟩; (focus (have hc := Gr.cells hw'; go_simp; (try rfl); done)); try simp only [Act.put, List.setIfInBounds_toArray, List.set_cons_zero, List.set_cons_succ]))
            refine wpP_last ?_ (fun K hK => ?_); (focus rfl)
            refine wp_store_mid 55 (.tmp 87) (.tmp 85) rfl gr (j * 26 + 14) #[.int .i64 op8, .int .i64 ps8, .int .u64 (wd s8 0), .int .u64 (wd s8 1), .int .u64 (wd s8 2), .int .u64 (wd s8 3), .string tx8, .int .i64 mn8, .int .i64 mx8, .slice p8 n8 c8] rfl rfl (fun t htt => ⟨by
              have hx := List.getElem?_eq_getElem (l := ([.int .i64 po, .bool al, .slice pum num cum, .int .i64 op6, .int .i64 ps6, .int .u64 (wd s6 0), .int .u64 (wd s6 1), .int .u64 (wd s6 2), .int .u64 (wd s6 3), .string tx6, .int .i64 mn6, .int .i64 mx6, .slice p6 n6 c6, .bool ht, .int .i64 op4, .int .i64 ps4, .int .u64 (wd s4 0), .int .u64 (wd s4 1), .int .u64 (wd s4 2), .int .u64 (wd s4 3), .string tx4, .int .i64 mn4, .int .i64 mx4, .slice p4 n4 c4, .string lb, .slice pua nua cua] : List Value)) (i := 14 + t) (by have : t < 10 := htt; show 14 + t < 26; omega)
              rw [Nat.add_assoc, hG.cell (HCE1.out (14 + t) _ hx)]; rfl, by rw [frozen_block (Below.block hG gr hgl1)]; exact HFR1.out _⟩) (by kernel_rfl) (all_oneCell_toArray (ex_ones _ _ _ _ _ _ _ _ _)) ?_
            refine hK.out _ _ ?_
            try simp only [Act.put, List.setIfInBounds_toArray, List.set_cons_zero, List.set_cons_succ]
            clear hK K
            refine wpP_done ?_
            clear e0 e1 e2 e3 e4 e5 e6 e7 e8 e9
            clear c_t0 c_t1 c_t2 m_t0 m_t1 m_t2 l_t
            refine name_Q (fun W2 hW2 => ?_)
            have HG9 := Lib.hid hG
            have HK2 := Lib.hid (show KpR [gr] W1 W2 by rw [hW2]; exact (KpR.gr HG9.out).setCells _ _ (.inr (by simp)))
            have HK92 := Lib.hid (show KpR [gr] w9 W2 by rw [hW2]; exact (KpR.refl [gr] w9).setCells _ _ (.inr (by simp)))
            have HO2 := Lib.hid (show W2.ownsRow B 71 26 (.slice (some ⟨gr, 0, none⟩) nr cR) nr (((rl1.set j ((⟨po, al, rmo, renE rhd, ht, rtl, lb, rac⟩ : Rl), ([.int .i64 po, .bool al, .slice pum num cum, .int .i64 op6, .int .i64 ps6, .int .u64 (wd s6 0), .int .u64 (wd s6 1), .int .u64 (wd s6 2), .int .u64 (wd s6 3), .string tx6, .int .i64 mn6, .int .i64 mx6, .slice p6 n6 c6, .bool ht, .int .i64 op4, .int .i64 ps4, .int .u64 (wd s4 0), .int .u64 (wd s4 1), .int .u64 (wd s4 2), .int .u64 (wd s4 3), .string tx4, .int .i64 mn4, .int .i64 mx4, .slice p4 n4 c4, .string lb, .slice pua nua cua] : List Value))).set j ((⟨po, al, rmo, renE rhd, ht, renE rtl, lb, rac⟩ : Rl), ([.int .i64 po, .bool al, .slice pum num cum, .int .i64 op6, .int .i64 ps6, .int .u64 (wd s6 0), .int .u64 (wd s6 1), .int .u64 (wd s6 2), .int .u64 (wd s6 3), .string tx6, .int .i64 mn6, .int .i64 mx6, .slice p6 n6 c6, .bool ht, .int .i64 op8, .int .i64 ps8, .int .u64 (wd s8 0), .int .u64 (wd s8 1), .int .u64 (wd s8 2), .int .u64 (wd s8 3), .string tx8, .int .i64 mn8, .int .i64 mx8, .slice p8 n8 c8, .string lb, .slice pua nua cua] : List Value))).flatMap (·.2)) by
              have h := own_sets [.int .i64 op8, .int .i64 ps8, .int .u64 (wd s8 0), .int .u64 (wd s8 1), .int .u64 (wd s8 2), .int .u64 (wd s8 3), .string tx8, .int .i64 mn8, .int .i64 mx8, .slice p8 n8 c8] w9 (rl1.set j ((⟨po, al, rmo, renE rhd, ht, rtl, lb, rac⟩ : Rl), ([.int .i64 po, .bool al, .slice pum num cum, .int .i64 op6, .int .i64 ps6, .int .u64 (wd s6 0), .int .u64 (wd s6 1), .int .u64 (wd s6 2), .int .u64 (wd s6 3), .string tx6, .int .i64 mn6, .int .i64 mx6, .slice p6 n6 c6, .bool ht, .int .i64 op4, .int .i64 ps4, .int .u64 (wd s4 0), .int .u64 (wd s4 1), .int .u64 (wd s4 2), .int .u64 (wd s4 3), .string tx4, .int .i64 mn4, .int .i64 mx4, .slice p4 n4 c4, .string lb, .slice pua nua cua] : List Value))) j 14 ⟨po, al, rmo, renE rhd, ht, rtl, lb, rac⟩ _ (owns_later HO1.out HG9.out) HLN1.out (List.getElem?_set_self HKL.out) (show 14 + 10 ≤ 26 by decide)
              rw [set_fst _ _ _ ⟨po, al, rmo, renE rhd, ht, renE rtl, lb, rac⟩, ← hW2] at h
              exact h)
            have HRO2 := Lib.hid (show RlOwn (CpS B W2 (.slice pD k cD) (.slice (some ⟨gr, 0, none⟩) nr cR)) W2 ⟨po, al, rmo, renE rhd, ht, renE rtl, lb, rac⟩ [.int .i64 po, .bool al, .slice pum num cum, .int .i64 op6, .int .i64 ps6, .int .u64 (wd s6 0), .int .u64 (wd s6 1), .int .u64 (wd s6 2), .int .u64 (wd s6 3), .string tx6, .int .i64 mn6, .int .i64 mx6, .slice p6 n6 c6, .bool ht, .int .i64 op8, .int .i64 ps8, .int .u64 (wd s8 0), .int .u64 (wd s8 1), .int .u64 (wd s8 2), .int .u64 (wd s8 3), .string tx8, .int .i64 mn8, .int .i64 mx8, .slice p8 n8 c8, .string lb, .slice pua nua cua] by
              have h1 := fun b (hb : CpS B W1 (.slice pD k cD) (.slice (some ⟨gr, 0, none⟩) nr cR) b) => Cp.part (.inr rfl) HK2.out hb
              have h2 := fun b (hb : CpS B W1 (.slice pD k cD) (.slice (some ⟨gr, 0, none⟩) nr cR) b) => (hb.grow HK2.out.size : CpS B W2 (.slice pD k cD) (.slice (some ⟨gr, 0, none⟩) nr cR) b)
              have g1 := fun b (hb : CpS B wr (.slice pD k cD) (.slice (some ⟨gr, 0, none⟩) nr cR) b) => (h1 b (hb.grow HK1.out.size)).trans (Cp.part (.inr rfl) HK1.out hb)
              have g2 := fun b (hb : CpS B wr (.slice pD k cD) (.slice (some ⟨gr, 0, none⟩) nr cR) b) => h2 b (hb.grow HK1.out.size)
              obtain ⟨hmm, hmn2, hmS, hmb2, hmo2⟩ := HMM.out
              obtain ⟨haa, han2, haS, hab2, hao2⟩ := HAA.out
              have hhd := HEH1.out.keep h1 h2
              have h := RlOwn.mk (S := CpS B W2 (.slice pD k cD) (.slice (some ⟨gr, 0, none⟩) nr cR)) (w := W2) ⟨po, al, rmo, renE rhd, ht, renE rtl, lb, rac⟩ _ _ _ _ hhd (HEO8.out.keep (S' := CpS B W2 (.slice pD k cD) (.slice (some ⟨gr, 0, none⟩) nr cR)) (fun b hb => HK92.out.block b hb.2 (fun hm => by have h1 := List.mem_singleton.1 hm; have h2 := HGL1.out; have h3 := HQS8.out; have h4 := hb.1; omega)) (fun b hb => ⟨by have h1 := hb.1; have h2 := HQS8.out; have h3 := HGL1.out; have h4 := (HUR.out gr rfl).1; omega, by have h1 := hb.2; have h2 := HK92.out.size; omega, fun e => by have h1 := (World.ownsRow.lt HCP.out.2.defs b e).2; have h2 := HK1.out.size; have h3 := HQS8.out; have h4 := hb.1; omega, fun e => by injection e with e; have h1 := hb.1; have h2 := HQS8.out; have h3 := HGL1.out; have e : gr = b := e; omega⟩)) (hmm.keep (fun a n c e => g1 _ (hmS a n c e))) hmn2 (fun a n c e => g2 _ (hmS a n c e)) hmb2 hmo2 (haa.keep (fun a n c e => g1 _ (haS a n c e))) han2 (fun a n c e => g2 _ (haS a n c e)) hab2 hao2 HLL.out.1 HLL.out.2
              rw [HNU.out.1, HNU.out.2] at h
              exact h)
            have HCP2 := Lib.hid (Cp.ruleSet (k := j) HCP1.out rfl HK2.out rfl (by rw [List.length_set, HCP.out.1]; exact HO2.out) HRO2.out)
            have HGW := Lib.hid (KpR.toGr HG.out (kpr1 HK1.out HK2.out) (fun x hx => by rw [List.mem_singleton.1 hx]; exact Nat.le_trans HB0.out (HUR.out gr rfl).1))
            have yt2 := HK2.out.box HYT1.out (fun hm => by have h1 := List.mem_singleton.1 hm; have h2 := (HUR.out gr rfl).2; omega) (by simp)
            have ys2 := HK2.out.box HYS1.out (fun hm => by have h1 := List.mem_singleton.1 hm; have h2 := (HUR.out gr rfl).1; have h3 := HSB.out; omega) (by simp)
            rw [List.set_set] at HCP2
            have HMP := Lib.hid (show (rl1.set j ((⟨po, al, rmo, renE rhd, ht, renE rtl, lb, rac⟩ : Rl), ([.int .i64 po, .bool al, .slice pum num cum, .int .i64 op6, .int .i64 ps6, .int .u64 (wd s6 0), .int .u64 (wd s6 1), .int .u64 (wd s6 2), .int .u64 (wd s6 3), .string tx6, .int .i64 mn6, .int .i64 mx6, .slice p6 n6 c6, .bool ht, .int .i64 op8, .int .i64 ps8, .int .u64 (wd s8 0), .int .u64 (wd s8 1), .int .u64 (wd s8 2), .int .u64 (wd s8 3), .string tx8, .int .i64 mn8, .int .i64 mx8, .slice p8 n8 c8, .string lb, .slice pua nua cua] : List Value))).map (·.1) = (s.rules.take (j + 1)).map renR ++ s.rules.drop (j + 1) by
              rw [List.map_set, HMX.out]
              exact mix_set renR _ _ _ HSR.out)
            have HLS := Lib.hid (show (rl1.set j ((⟨po, al, rmo, renE rhd, ht, renE rtl, lb, rac⟩ : Rl), ([.int .i64 po, .bool al, .slice pum num cum, .int .i64 op6, .int .i64 ps6, .int .u64 (wd s6 0), .int .u64 (wd s6 1), .int .u64 (wd s6 2), .int .u64 (wd s6 3), .string tx6, .int .i64 mn6, .int .i64 mx6, .slice p6 n6 c6, .bool ht, .int .i64 op8, .int .i64 ps8, .int .u64 (wd s8 0), .int .u64 (wd s8 1), .int .u64 (wd s8 2), .int .u64 (wd s8 3), .string tx8, .int .i64 mn8, .int .i64 mx8, .slice p8 n8 c8, .string lb, .slice pua nua cua] : List Value))).length = nr by rw [List.length_set]; exact HCP.out.1)
            clear hW2 hG
            go_wp2_with fail
            go_roundw
            case rel => exact ⟨j + 1, _, HJN.out, by go_num, HGW, Lib.hid ⟨ys2, yt2⟩, Lib.hid ⟨HLS.out, HCP2.out⟩, HMP⟩
            case measure => have := HJN.out; simp [intOf]; omega
          · have hjI : ¬ (j : Int) < (nr : Int) := by omega
            have hje : j = nr := by omega
            subst hje
            have HRM := Lib.hid (show rl1.map (·.1) = s.rules.map renR by
              rw [HMX.out, List.take_of_length_le (by rw [HCC.out.hnr]; exact Nat.le_refl _), List.drop_of_length_le (by rw [HCC.out.hnr]; exact Nat.le_refl _), List.append_nil])
            have HSC := Lib.hid (show Nonempty (ScIn wr (renS s) (.slice pM nm cM) (.slice pD k cD) (.slice pR j cR)) from ⟨⟨dl1, rl1, HDM.out, HRM.out, by show Sl _ _ 3 s.modes.length _; rw [HCC.out.hnm]; exact Sl.of_owns HCP.out.2.modes, HCC.out.mo, nily_own HCP.out.2.modes, by show s.modes.length * 32 ≤ _; rw [HCC.out.hnm]; exact HCC.out.mb,
              Sl.of_owns HCP.out.2.defs, fun p hp => (HCP.out.2.dOwn p hp).2.dfIn, nily_own HCP.out.2.defs, by rw [HDL1.out]; exact HCC.out.db, Sl.of_owns HCP.out.2.rules, fun p hp => (HCP.out.2.rOwn p hp).2.rlIn, nily_own HCP.out.2.rules, by rw [HCP.out.1]; exact HCC.out.rb⟩⟩)
            have c_s0 := ys.cell 0 _ rfl
            have c_s1 := ys.cell 1 _ rfl
            have c_s2 := ys.cell 2 _ rfl
            have m_s0 := ys.mark 0 _ rfl
            have m_s1 := ys.mark 1 _ rfl
            have m_s2 := ys.mark 2 _ rfl
            have l_s := ys.lt (Nat.succ_pos _)
            have c_t0 := yt.cell 0 _ rfl
            have c_t1 := yt.cell 1 _ rfl
            have c_t2 := yt.cell 2 _ rfl
            have m_t0 := yt.mark 0 _ rfl
            have m_t1 := yt.mark 1 _ rfl
            have m_t2 := yt.mark 2 _ rfl
            have l_t := yt.lt (Nat.succ_pos _)
            clear hj hjn
            go_wp2_with fail
            go_at_call 12
            (with_reducible refine (HRS.out wr HG.out).mono ?_); rintro e w4 ⟨hres, hg4⟩
            have HG4 := Lib.hid (HG.out.trans hg4)
            obtain ⟨a0, a1, a2, a3, d0, f0, d1, f1, d2, f2, d3, f3, ev, c, m, nn, M, A, O, C, rfl, htl, hnm1, hkd⟩ := HT1.out wr w4 e HG4.out hres
            have yt4 := yt.later hg4
            clear c_s0 c_s1 c_s2 m_s0 m_s1 m_s2 l_s
            clear c_t0 c_t1 c_t2 m_t0 m_t1 m_t2 l_t
            have c_t0 := yt4.cell 0 _ rfl
            have c_t1 := yt4.cell 1 _ rfl
            have c_t2 := yt4.cell 2 _ rfl
            have m_t0 := yt4.mark 0 _ rfl
            have m_t1 := yt4.mark 1 _ rfl
            have m_t2 := yt4.mark 2 _ rfl
            have l_t := yt4.lt (Nat.succ_pos _)
            have HG14 := Lib.hid hg4
            have HTL1 := Lib.hid htl
            have HNM1 := Lib.hid hnm1
            have HKD1 := Lib.hid hkd
            clear hres hg4 htl hnm1 hkd ys yt HRS HT1 HMX HDM HRM HCP
            go_wp2_with fail
            go_at_call 12
            refine name_calls (fun W5 hW5 => ?_)
            have xa : boxAt W5 w4.heap.size [.slice a0 d0 f0, .slice a1 d1 f1, .slice a2 d2 f2, .slice a3 d3 f3] := by rw [hW5]; exact boxAt.new_atN _ _ _ rfl rfl
            have hg5 : Gr w4 W5 := by rw [hW5]; exact Gr.alloc _ _
            clear hW5
            obtain ⟨ba, hba⟩ : ∃ b, w4.heap.size = b := ⟨_, rfl⟩
            rw [hba] at xa
            simp only [hba]
            have HG5 := Lib.hid (HG4.out.trans hg5)
            have HRW := Lib.hid (fun (h : ScIn wr (renS s) (.slice pM nm cM) (.slice pD k cD) (.slice pR j cR)) => HRT.out W5 HG5.out _ _ _ (h.later (HG14.out.trans hg5)))
            (with_reducible refine (HSC.out.elim HRW.out).mono ?_); rintro e w6 ⟨hres, hg6⟩
            have HG6 := Lib.hid (HG5.out.trans hg6)
            obtain ⟨b0, b1, b2, b3, i0, g0, i1, g1, i2, g2, i3, g3, ev2, c', m', nn', M', A', O', C', rfl, htl, hnm2, hkd⟩ := HT2.out W5 w6 e HG6.out hres
            have HKK := Lib.hid (ren_kind HKD1.out hkd)
            have HTL2 := Lib.hid htl
            have HNM2 := Lib.hid hnm2
            have HXA := Lib.hid (xa.later hg6)
            have HG46 := Lib.hid (hg5.trans hg6)
            clear c_t0 c_t1 c_t2 m_t0 m_t1 m_t2 l_t
            clear hres hg6 hg5 htl hnm2 hkd hba xa yt4 HRW HRT HT2 HSC HKD1
            have xa := HXA.out
            have c_a0 := xa.cell 0 _ rfl
            have c_a1 := xa.cell 1 _ rfl
            have c_a2 := xa.cell 2 _ rfl
            have c_a3 := xa.cell 3 _ rfl
            have m_a0 := xa.mark 0 _ rfl
            have m_a1 := xa.mark 1 _ rfl
            have m_a2 := xa.mark 2 _ rfl
            have m_a3 := xa.mark 3 _ rfl
            have l_a := xa.lt (Nat.succ_pos _)
            go_wp2_with fail
            go_at_call 23
            refine name_calls (fun W7 hW7 => ?_)
            have xb : boxAt W7 w6.heap.size [.slice b0 i0 g0, .slice b1 i1 g1, .slice b2 i2 g2, .slice b3 i3 g3] := by rw [hW7]; exact boxAt.new_atN _ _ _ rfl rfl
            have hg7 : Gr w6 W7 := by rw [hW7]; exact Gr.alloc _ _
            clear hW7
            obtain ⟨bb, hbb⟩ : ∃ b, w6.heap.size = b := ⟨_, rfl⟩
            rw [hbb] at xb
            simp only [hbb]
            have HC1 := Lib.hid (codeK_of ev c W7 (fun W hG => (HTL1.out W ((HG46.out.trans hg7).trans hG)).mono (by rintro e w' ⟨p, q, rfl, hg⟩; exact ⟨_, _, _, _, rfl, hg⟩)))
            (with_reducible refine HC1.out.mono ?_); rintro e w8 ⟨rfl, hg8⟩
            have HG8 := Lib.hid (HG6.out.trans (hg7.trans hg8))
            have HG68 := Lib.hid (hg7.trans hg8)
            have HXB := Lib.hid (xb.later hg8)
            clear c_a0 c_a1 c_a2 c_a3 m_a0 m_a1 m_a2 m_a3 l_a
            clear hg7 hg8 hbb xb xa HC1
            have xa := HXA.out.later HG68.out
            have xb := HXB.out
            by_cases hc15 : c = 15
            · subst hc15
              clear xa xb
              go_wp2_with fail
              go_at_call 21
              (with_reducible refine (HWK.out w8 HG8.out).mono ?_); rintro e w19 ⟨rfl, hg19⟩
              go_wp2_with fail
              go_ret
              exact ⟨rfl, HG8.out.trans hg19⟩
            · have hcb : (c == 15) = false := by rw [beq_eq_false_iff_ne]; exact hc15
              have HCN := Lib.hid hc15
              have HC2 := Lib.hid (codeK_of ev2 c' w8 (fun W hG => (HTL2.out W (HG68.out.trans hG)).mono (by rintro e w' ⟨p, q, rfl, hg⟩; exact ⟨_, _, _, _, rfl, hg⟩)))
              clear hc15
              go_wp2_with fail
              go_at_call 23
              (with_reducible refine HC2.out.mono ?_); rintro e w9 ⟨rfl, hg9⟩
              have HG9 := Lib.hid (HG8.out.trans hg9)
              have HG69 := Lib.hid (HG68.out.trans hg9)
              clear HC2
              replace xa := xa.later hg9
              replace xb := xb.later hg9
              have XA9 := Lib.hid xa
              have XB9 := Lib.hid xb
              clear hg9
              by_cases hc15 : c' = 15
              · subst hc15
                clear xa xb
                go_wp2_with fail
                go_at_call 21
                (with_reducible refine (HWK.out w9 HG9.out).mono ?_); rintro e w19 ⟨rfl, hg19⟩
                go_wp2_with fail
                go_ret
                exact ⟨rfl, HG9.out.trans hg19⟩
              · have hcb2 : (c' == 15) = false := by rw [beq_eq_false_iff_ne]; exact hc15
                obtain ⟨_, _, rfl, rfl, rfl, rfl, rfl, rfl, rfl⟩ := (HKK.out.resolve_left HCN.out).resolve_left hc15
                have HTA := Lib.hid (fun W (hG : Gr w9 W) => HTL1.out W ((HG46.out.trans HG69.out).trans hG))
                have HTB := Lib.hid (fun W (hG : Gr w9 W) => HTL2.out W (HG69.out.trans hG))
                clear hc15 xa xb HKK
                go_wp2_with fail
                go_at_call 28
                (with_reducible refine (HTA.out w9 (Gr.refl _)).mono ?_); rintro e w10 ⟨p10, k10, rfl, hg10⟩
                have HG10 := Lib.hid hg10
                clear hg10
                go_wp2_with fail
                go_at_call 28
                refine name_calls (fun W11 hW11 => ?_)
                have xf : boxAt W11 w10.heap.size [.int .i64 c, .int .i64 0, .int .i64 0, .int .i64 m, .slice p10 nn k10] := by rw [hW11]; exact boxAt.new_atN _ _ _ rfl rfl
                have hg11 : Gr w10 W11 := by rw [hW11]; exact Gr.alloc _ _
                clear hW11
                obtain ⟨bf, hbf⟩ : ∃ b, w10.heap.size = b := ⟨_, rfl⟩
                rw [hbf] at xf
                simp only [hbf]
                have HG11 := Lib.hid (HG10.out.trans hg11)
                have HXF := Lib.hid xf
                clear hg11 hbf xf
                (with_reducible refine (HTB.out W11 HG11.out).mono ?_); rintro e w12 ⟨p12, k12, rfl, hg12⟩
                have HG12 := Lib.hid (HG11.out.trans hg12)
                have xf := HXF.out.later hg12
                clear hg12
                go_upto_region 22 with fail
                refine name_world (fun W13 hW13 => ?_)
                have xg : boxAt W13 w12.heap.size [.int .i64 c, .int .i64 0, .int .i64 0, .int .i64 m, .slice p12 nn k12] := by rw [hW13]; exact boxAt.new_atN _ _ _ rfl rfl
                have hg13 : Gr w12 W13 := by rw [hW13]; exact Gr.alloc _ _
                clear hW13
                obtain ⟨bg, hbg⟩ : ∃ b, w12.heap.size = b := ⟨_, rfl⟩
                rw [hbg] at xg
                simp only [hbg]
                have HG13 := Lib.hid (HG12.out.trans hg13)
                have xf13 := xf.later hg13
                have xa13 := XA9.out.later HG13.out
                have xb13 := XB9.out.later HG13.out
                have HEN := Lib.hid (eqNames6 _ _ _ _ _ _ _ _ _ _ _ _ W13 (HNM1.out.later ((HG46.out.trans HG69.out).trans HG13.out)) (HNM2.out.later (HG69.out.trans HG13.out)))
                have HXG := Lib.hid xg
                have HXF13 := Lib.hid xf13
                clear hg13 hbg xf
                have c_a0 := xa13.cell 0 _ rfl
                have c_a1 := xa13.cell 1 _ rfl
                have c_a2 := xa13.cell 2 _ rfl
                have c_a3 := xa13.cell 3 _ rfl
                have m_a0 := xa13.mark 0 _ rfl
                have m_a1 := xa13.mark 1 _ rfl
                have m_a2 := xa13.mark 2 _ rfl
                have m_a3 := xa13.mark 3 _ rfl
                have l_a := xa13.lt (Nat.succ_pos _)
                have c_b0 := xb13.cell 0 _ rfl
                have c_b1 := xb13.cell 1 _ rfl
                have c_b2 := xb13.cell 2 _ rfl
                have c_b3 := xb13.cell 3 _ rfl
                have m_b0 := xb13.mark 0 _ rfl
                have m_b1 := xb13.mark 1 _ rfl
                have m_b2 := xb13.mark 2 _ rfl
                have m_b3 := xb13.mark 3 _ rfl
                have l_b := xb13.lt (Nat.succ_pos _)
                have c_f0 := xf13.cell 0 _ rfl
                have c_f1 := xf13.cell 1 _ rfl
                have c_f2 := xf13.cell 2 _ rfl
                have c_f3 := xf13.cell 3 _ rfl
                have c_f4 := xf13.cell 4 _ rfl
                have m_f0 := xf13.mark 0 _ rfl
                have m_f1 := xf13.mark 1 _ rfl
                have m_f2 := xf13.mark 2 _ rfl
                have m_f3 := xf13.mark 3 _ rfl
                have m_f4 := xf13.mark 4 _ rfl
                have l_f := xf13.lt (Nat.succ_pos _)
                have c_g0 := xg.cell 0 _ rfl
                have c_g1 := xg.cell 1 _ rfl
                have c_g2 := xg.cell 2 _ rfl
                have c_g3 := xg.cell 3 _ rfl
                have c_g4 := xg.cell 4 _ rfl
                have m_g0 := xg.mark 0 _ rfl
                have m_g1 := xg.mark 1 _ rfl
                have m_g2 := xg.mark 2 _ rfl
                have m_g3 := xg.mark 3 _ rfl
                have m_g4 := xg.mark 4 _ rfl
                have l_g := xg.lt (Nat.succ_pos _)
                go_wp2_with fail
                go_at_call 14
                (with_reducible refine HEN.out.mono ?_); rintro e w14 ⟨rfl, hg14⟩
                clear c_a0 c_a1 c_a2 c_a3 m_a0 m_a1 m_a2 m_a3 l_a
                clear c_b0 c_b1 c_b2 c_b3 m_b0 m_b1 m_b2 m_b3 l_b
                clear c_f0 c_f1 c_f2 c_f3 c_f4 m_f0 m_f1 m_f2 m_f3 m_f4 l_f
                clear c_g0 c_g1 c_g2 c_g3 c_g4 m_g0 m_g1 m_g2 m_g3 m_g4 l_g
                have xf14 := HXF13.out.later hg14
                have xg14 := HXG.out.later hg14
                have HG14b := Lib.hid (HG9.out.trans (HG13.out.trans hg14))
                clear xa13 xb13 xf13 xg hg14
                have c_f0 := xf14.cell 0 _ rfl
                have c_f1 := xf14.cell 1 _ rfl
                have c_f2 := xf14.cell 2 _ rfl
                have c_f3 := xf14.cell 3 _ rfl
                have c_f4 := xf14.cell 4 _ rfl
                have m_f0 := xf14.mark 0 _ rfl
                have m_f1 := xf14.mark 1 _ rfl
                have m_f2 := xf14.mark 2 _ rfl
                have m_f3 := xf14.mark 3 _ rfl
                have m_f4 := xf14.mark 4 _ rfl
                have l_f := xf14.lt (Nat.succ_pos _)
                have c_g0 := xg14.cell 0 _ rfl
                have c_g1 := xg14.cell 1 _ rfl
                have c_g2 := xg14.cell 2 _ rfl
                have c_g3 := xg14.cell 3 _ rfl
                have c_g4 := xg14.cell 4 _ rfl
                have m_g0 := xg14.mark 0 _ rfl
                have m_g1 := xg14.mark 1 _ rfl
                have m_g2 := xg14.mark 2 _ rfl
                have m_g3 := xg14.mark 3 _ rfl
                have m_g4 := xg14.mark 4 _ rfl
                have l_g := xg14.lt (Nat.succ_pos _)
                go_wp2_with fail
                go_at_call 21
                (with_reducible refine (HWK.out w14 HG14b.out).mono ?_); rintro e w19 ⟨rfl, hg19⟩
                go_wp2_with fail
                go_ret
                exact ⟨rfl, HG14b.out.trans hg19⟩

end Go.Proofs.YtkkopdmemjncdaaGreatDoor
