/- bolterlaw6.NamesCycles answers true. Printed by gen_nmcy.py. No condition but the errors' variables and a bound of the argument's bulk. -/
import Derived.Test.YtkkopdmemjncdaaGreatDoorPNmWa
import Derived.Test.YtkkopdmemjncdaaGreatDoorPNmA
namespace Go.Proofs.YtkkopdmemjncdaaGreatDoor
open Go Go.RowKit

set_option maxRecDepth 100000 in
theorem codeK_of (v : Value) (c : Int) (w : World) (hT : ∀ W, Gr w W → Calls Tryz.prog 28 #[v] W fun e w' => ∃ (p : Option Addr) (n k : Nat) (m : Int), e = .returned (.agg #[.int .i64 c, .int .i64 0, .int .i64 0, .int .i64 m, .slice p n k]) ∧ Gr W w') :
    Calls Tryz.prog 23 #[v] w fun e w' => e = .returned (.int .i64 c) ∧ Gr w w' := by
  have hf : ∀ (w' : World) (m : Int) (p : Option Addr) (n k : Nat), (Instr.field 37 (.agg #[.int .i64 c, .int .i64 0, .int .i64 0, .int .i64 m, .slice p n k]) 0).run Tryz.prog w' = .ok (.int .i64 c) w' := fun _ _ _ _ _ => by kernel_rfl
  have HT := Lib.hid hT
  clear hT
  go_enter Tryz.func23, Tryz.ntmps23
  go_wp2_with fail
  go_at_call 28
  (with_reducible refine (HT.out w (Gr.refl _)).mono ?_); rintro e w2 ⟨p, n, k, m, rfl, hg⟩
  go_wp2_with fail
  go_ret
  exact ⟨rfl, hg⟩
/-- What has been told, as far as ways back go. -/
def WhatC (s : Sc) (w : World) (ev : Value) (c : Int) : Prop :=
  (c = 15 ∨ c = 6) ∨ (c = 7 ∧ Linked s ∧ ∃ (fr : Nat) (P : List Nat), fr < s.defs.length ∧ Cyc (linksN s) fr ∧ (∀ y, y < fr → ¬ Cyc (linksN s) y) ∧ WayP (linksN s) fr P ∧ TellsWay s w ev P) ∨ (c = 0 ∧ Linked s ∧ ∀ y, y < s.defs.length → ¬ Cyc (linksN s) y)
theorem resolve_what {s : Sc} {w w4 : World} {es : Nat → Addr} {e : Ending} (hF : FaultsIn w4 es) (hwt : wtS s ≤ 1048576) (h : ResE s (esN es 15) (esN es 6) (esN es 7) w e w4) : ∃ (p0 p1 p2 p3 : Option Addr) (n0 k0 n1 k1 n2 k2 n3 k3 : Nat) (ev : Value) (c : Int), e = .returned (.tuple #[.agg #[.slice p0 n0 k0, .slice p1 n1 k1, .slice p2 n2 k2, .slice p3 n3 k3], ev]) ∧ (∀ W, Gr w4 W → Calls Tryz.prog 23 #[ev] W fun e w' => e = .returned (.int .i64 c) ∧ Gr W w') ∧ WhatC s w4 ev c := by
  have hdl := Nat.le_trans (defs_wt s) hwt
  rcases h with ⟨_, rfl⟩ | ⟨x, v, hsp, hwo, hv, rfl⟩ | ⟨i, far, b, nv, hsp, hno, hi, hc, hf, hp, hb, _, ho, rfl⟩ | ⟨B, v0, v1, v2, v3, vs1, vs3, hsp, hno, hl, hB, h1, h3, hr, h2, ha, rfl⟩
  · refine ⟨none, none, none, none, 0, 0, 0, 0, 0, 0, 0, 0, _, 15, rfl, fun W hG => codeK_of _ 15 W (fun W2 hG2 => (tell_arg (hF.later (hG.trans hG2))).mono ?_), .inl (.inl rfl)⟩
    rintro e w' ⟨rfl, hg⟩
    exact ⟨_, _, _, _, rfl, hg⟩
  · refine ⟨none, none, none, none, 0, 0, 0, 0, 0, 0, 0, 0, _, 6, rfl, fun W hG => codeK_of _ 6 W (fun W2 hG2 => (tell_bad (hF.later (hG.trans hG2)) (hv.keep (fun k hk _ => Below.block (hG.trans hG2) k hk))).mono ?_), .inl (.inr rfl)⟩
    rintro e w' ⟨nv, rfl, hon, hg⟩
    obtain ⟨p, c, rfl⟩ := (Sl.of_owns hon).len
    exact ⟨_, _, _, _, rfl, hg⟩
  · have hR := right_of hno
    have hL := linked_of hR
    have hU := in_getD (fun (i : Nat) (r : List Nat) (h : (linksS s)[i]? = some r) => linksS_in hR h)
    have hlu := linksS_len s
    rw [← hlu] at hp
    have hW := path_all hf (fun i k hk => hU i k hk) hp
    rw [hlu] at hW hp
    have hcy : Cyc (linksS s) i := (hf.cyc (fun i k hk => hU i k hk)).2 (by
      rw [pathP] at hp
      cases hk : nearP far ((linksS s)[i]?.getD []) with
      | none => rw [hk] at hp; exact absurd rfl hp
      | some k => exact ⟨k, rfl⟩)
    have hpl : (pathP (linksS s) far i (s.defs.length + 1) i).length ≤ 1048576 := by
      have := hW.le
      omega
    have hT : TellsWay s w4 (.iface 119 (.pointer (some ⟨b, 0, none⟩))) (pathP (linksS s) far i (s.defs.length + 1) i) := fun W hG =>
      tell_cyc (hF.later hG) (hb.later hG) (nmD s) _ ⟨_, owns_later ho hG⟩ hpl
    refine ⟨none, none, none, none, 0, 0, 0, 0, 0, 0, 0, 0, _, 7, rfl, fun W hG => codeK_of _ 7 W (fun W2 hG2 => (hT W2 (hG.trans hG2)).mono ?_), .inr (.inl ⟨rfl, hL, i, _, hi, (srt_cyc _ i).1 hcy, fun y hy h => hc y hy ((srt_cyc _ y).2 h), hW.srt, hT⟩)⟩
    rintro e w' ⟨nv, rfl, hon, hg⟩
    obtain ⟨p, c, rfl⟩ := (Sl.of_owns hon).len
    exact ⟨_, _, _, _, rfl, hg⟩
  · have hnm := NmIn.of h1 h3 hr h2
    have hL := linked_of (right_of hno)
    obtain ⟨p0, c0, rfl⟩ := hnm.m.len
    obtain ⟨p1, c1, rfl⟩ : ∃ p c, v1 = .slice p (namesN s).active.length c := by
      obtain ⟨vs, _, h, _⟩ := hnm.a.sl
      exact h.len
    obtain ⟨p2, c2, rfl⟩ := hnm.o.len
    obtain ⟨p3, c3, rfl⟩ : ∃ p c, v3 = .slice p (actsR s).length c := by
      obtain ⟨vs, _, h, _⟩ := hnm.c.sl
      exact h.len
    rw [← linksS_len s] at hl
    refine ⟨_, _, _, _, _, _, _, _, _, _, _, _, _, 0, rfl, fun W hG => codeK_of _ 0 W (fun W2 hG2 => (tell_nil W2).mono ?_), .inr (.inr ⟨rfl, hL, fun y hy h => whole_cyc hl (by rw [linksS_len]; exact hy) ((srt_cyc _ y).2 h)⟩)⟩
    rintro e w' ⟨rfl, hg⟩
    exact ⟨_, _, _, _, rfl, hg⟩

set_option maxRecDepth 100000 in
set_option maxHeartbeats 16000000 in
theorem namesCycles_any (s : Sc) (w : World) (es : Nat → Addr) (hF : FaultsIn w es) (vm vd vr : Value) (hs : ScIn w s vm vd vr) (hwt : wtS s ≤ 1048576) : Calls Tryz.prog 4 #[scV vm vd vr] w fun e w' => e = .returned (.bool true) ∧ Gr w w' := by
  have hdl := Nat.le_trans (defs_wt s) hwt
  have HHV := Lib.hid (fun W (hG : Gr w W) => heavy6_any s vm vd vr W (hs.later hG))
  have HWK := Lib.hid (fun W (hG : Gr w W) => wakes6_any W es (hF.later hG))
  have HLK := Lib.hid (fun W (hG : Gr w W) => links_any s W vm vd vr (hs.later hG) hdl (refs_wtS hwt))
  have HWY := Lib.hid (fun W (hG : Gr w W) => way_any s W vm vd vr (hs.later hG) hdl)
  have HRS := Lib.hid (fun W (hG : Gr w W) => resolve_any s W vm vd vr (esN es 15) (esN es 6) (esN es 7) (hs.later hG) (faults_glo (hF.later hG)).1 (faults_glo (hF.later hG)).2.1 (faults_glo (hF.later hG)).2.2 ⟨_, _, rfl⟩ ⟨_, _, rfl⟩ ⟨_, _, rfl⟩ (refs_wtS hwt))
  have HWH := Lib.hid (fun (W W4 : World) (e : Ending) (hG : Gr w W4) (h : ResE s (esN es 15) (esN es 6) (esN es 7) W e W4) => resolve_what (hF.later hG) hwt h)
  have HRU := Lib.hid (refs_wtS hwt)
  have HDL := Lib.hid hdl
  obtain ⟨dl, rl, hd, hr, hm, hmo, hmn, hmb, hds, hdi, hdn, hdb, hrs, hri, hrn, hrb⟩ := hs
  obtain ⟨pm, cm, rfl⟩ := hm.len
  obtain ⟨pd, cd, rfl⟩ := hds.len
  obtain ⟨pr, cr, rfl⟩ := hrs.len
  unfold scV at HHV HRS HLK HWY ⊢
  clear hd hr hm hmo hmn hmb hds hdi hdn hdb hrs hri hrn hrb hF hwt hdl
  go_enter Tryz.func4, Tryz.ntmps4
  go_wp2_with fail
  go_at_call 9
  refine name_calls (fun W1 hW1 => ?_)
  have xs : boxAt W1 w.heap.size [.slice pm s.modes.length cm, .slice pd dl.length cd, .slice pr rl.length cr] := by rw [hW1]; exact boxAt.new_atN _ _ _ rfl rfl
  have hg1 : Gr w W1 := by rw [hW1]; exact Gr.alloc _ _
  clear hW1
  (with_reducible refine (HHV.out W1 hg1).mono ?_); rintro e w2 ⟨⟨hv, rfl⟩, hg2⟩
  have XS := Lib.hid (xs.later hg2)
  have HG2 := Lib.hid (hg1.trans hg2)
  clear xs hg1 hg2 HHV
  cases hv with
  | true =>
    go_wp2_with fail
    go_at_call 21
    (with_reducible refine (HWK.out w2 HG2.out).mono ?_); rintro e w3 ⟨rfl, hg3⟩
    go_wp2_with fail
    go_ret
    exact ⟨rfl, HG2.out.trans hg3⟩
  | false =>
    have xs := XS.out
    have c_s0 := xs.cell 0 _ rfl
    have c_s1 := xs.cell 1 _ rfl
    have c_s2 := xs.cell 2 _ rfl
    have m_s0 := xs.mark 0 _ rfl
    have m_s1 := xs.mark 1 _ rfl
    have m_s2 := xs.mark 2 _ rfl
    have l_s := xs.lt (Nat.succ_pos _)
    go_wp2_with fail
    go_at_call 22
    (with_reducible refine (HLK.out w2 HG2.out).mono ?_); rintro e w3 ⟨hlk, hg3⟩
    obtain ⟨pl, nl, cl, ok, rfl, hok⟩ : ∃ (pl : Option Addr) (nl cl : Nat) (ok : Bool), e = .returned (.tuple #[.slice pl nl cl, .bool ok]) ∧ ((ok = false ∧ ¬ Linked s) ∨ (ok = true ∧ Linked s ∧ nl = s.defs.length ∧ RowsY w3 (.slice pl nl cl) (linksN s))) := by
      rcases hlk with ⟨rfl, hn⟩ | ⟨hL, v, rfl, hv⟩
      · exact ⟨_, _, _, _, rfl, .inl ⟨rfl, hn⟩⟩
      · obtain ⟨p, c, rfl⟩ : ∃ p c, v = .slice p (linksN s).length c := by
          obtain ⟨vs, _, h, _⟩ := hv.sl
          exact h.len
        exact ⟨_, _, _, _, rfl, .inr ⟨rfl, hL, linksN_len s, hv⟩⟩
    have HOK := Lib.hid hok
    have HG3 := Lib.hid (HG2.out.trans hg3)
    have XS3 := Lib.hid (XS.out.later hg3)
    clear c_s0 c_s1 c_s2 m_s0 m_s1 m_s2 l_s
    clear xs hlk hok hg3 XS HLK HG2
    have xs := XS3.out
    have c_s0 := xs.cell 0 _ rfl
    have c_s1 := xs.cell 1 _ rfl
    have c_s2 := xs.cell 2 _ rfl
    have m_s0 := xs.mark 0 _ rfl
    have m_s1 := xs.mark 1 _ rfl
    have m_s2 := xs.mark 2 _ rfl
    have l_s := xs.lt (Nat.succ_pos _)
    go_wp2_with fail
    go_at_call 12
    (with_reducible refine (HRS.out w3 HG3.out).mono ?_); rintro e w4 ⟨hres, hg4⟩
    have HG4 := Lib.hid (HG3.out.trans hg4)
    have XS4 := Lib.hid (XS3.out.later hg4)
    have HL34 := Lib.hid hg4
    obtain ⟨p0, p1, p2, p3, n0, k0, n1, k1, n2, k2, n3, k3, ev, c, rfl, hcode, hwhat⟩ := HWH.out w3 w4 e HG4.out hres
    have HCD := Lib.hid hcode
    have HWT := Lib.hid hwhat
    clear c_s0 c_s1 c_s2 m_s0 m_s1 m_s2 l_s
    clear xs HRS XS3 HG3 hres hg4 hcode hwhat HWH
    go_wp2_with fail
    go_at_call 23
    refine name_calls (fun W5 hW5 => ?_)
    have hg5 : Gr w4 W5 := by rw [hW5]; exact Gr.alloc _ _
    clear hW5
    (with_reducible refine (HCD.out W5 hg5).mono ?_); rintro e w6 ⟨rfl, hg6⟩
    have HG6 := Lib.hid (HG4.out.trans (hg5.trans hg6))
    have HL36 := Lib.hid (HL34.out.trans (hg5.trans hg6))
    have HL46 := Lib.hid (hg5.trans hg6)
    have XS6 := Lib.hid (XS4.out.later (hg5.trans hg6))
    clear hg5 hg6 XS4 HL34 HCD HG4
    have hok := HOK.out
    rcases hok with ⟨rfl, hnl⟩ | ⟨rfl, hL, hnl, hrw⟩
    · have hc : c = 15 ∨ c = 6 := by
        rcases HWT.out with h | ⟨_, h, _⟩ | ⟨_, h, _⟩
        · exact h
        · exact absurd h hnl
        · exact absurd h hnl
      clear hnl HWT
      rcases hc with rfl | rfl
      all_goals
        go_wp2_with fail
        go_at_call 21
        (with_reducible refine (HWK.out w6 HG6.out).mono ?_); rintro e w7 ⟨rfl, hg7⟩
        go_wp2_with fail
        go_ret
        exact ⟨rfl, HG6.out.trans hg7⟩
    · have hnd2 : nl ≤ 1048576 := by rw [hnl]; exact HDL.out
      have hnI : (nl : Int) ≤ 1048576 := by omega
      have HNL := Lib.hid hnl
      have HNB := Lib.hid hnd2
      have HLK := Lib.hid hL
      have HUL := Lib.hid (show (linksN s).length = nl from (linksN_len s).trans hnl.symm)
      have HRY := Lib.hid (hrw.later HL36.out)
      have hw1 : IntKind.i64.wrap ((nl : Int) - 1) = (nl : Int) - 1 := IntWalk.i64_in _ (by omega)
      clear hnd2 hL hnl hrw
      go_wp2_with fail
      go_loopw [8, 9] (fun fv iv wr => ∃ (k : Nat) (z f : Int), k ≤ nl ∧ fv = .int .i64 f ∧ iv = .int .i64 z ∧ Hid (z + 1 = (k : Int)) ∧ Hid (Gr w6 wr) ∧ Hid (∀ y, k ≤ y → y < nl → Cyc (linksN s) y → 0 ≤ f ∧ f ≤ (y : Int)) ∧ Hid (f = -1 ∨ ∃ y : Nat, f = (y : Int) ∧ k ≤ y ∧ y < nl ∧ Cyc (linksN s) y)) (fun _ iv _ => (intOf iv + 1).toNat)
      case atStart => exact ⟨nl, _, -1, Nat.le_refl _, rfl, rfl, Lib.hid (by omega), Lib.hid (Gr.refl _), Lib.hid (fun y h1 h2 => by omega), Lib.hid (.inl rfl)⟩
      case round =>
        clear hw1
        obtain ⟨k, z, f, hk, rfl, rfl, HZ, HG, HA, HB⟩ := hrel
        cases k with
        | zero =>
          have hz := HZ.out
          obtain rfl : z = -1 := by omega
          clear hz HZ hk
          have hwt := HWT.out
          clear HWT
          rcases hwt with (rfl | rfl) | ⟨rfl, _, fr, P, hfr, hcy, hlo, hP, hT⟩ | ⟨rfl, _, hno⟩
          · clear HA HB
            go_wp2_with fail
            go_at_call 21
            (with_reducible refine (HWK.out wr (HG6.out.trans HG.out)).mono ?_); rintro e w7 ⟨rfl, hg7⟩
            go_wp2_with fail
            go_ret
            exact ⟨rfl, (HG6.out.trans HG.out).trans hg7⟩
          · clear HA HB
            go_wp2_with fail
            go_at_call 21
            (with_reducible refine (HWK.out wr (HG6.out.trans HG.out)).mono ?_); rintro e w7 ⟨rfl, hg7⟩
            go_wp2_with fail
            go_ret
            exact ⟨rfl, (HG6.out.trans HG.out).trans hg7⟩
          · have hfe : f = (fr : Int) := by
              have hfl : fr < nl := by rw [HNL.out]; exact hfr
              have h1 := HA.out fr (Nat.zero_le _) hfl hcy
              rcases HB.out with h | ⟨y, h2, _, _, h3⟩
              · omega
              · have : ¬ y < fr := fun h => hlo y h h3
                omega
            subst hfe
            have hf0 : ¬ (fr : Int) < 0 := by omega
            have HWE := Lib.hid (HWY.out wr (HG6.out.trans HG.out) HLK.out (.slice pl nl cl) (HRY.out.later HG.out) ev fr P hP (fun W hG => hT W ((HL46.out.trans HG.out).trans hG)))
            have xs := XS6.out.later HG.out
            have c_s0 := xs.cell 0 _ rfl
            have c_s1 := xs.cell 1 _ rfl
            have c_s2 := xs.cell 2 _ rfl
            have m_s0 := xs.mark 0 _ rfl
            have m_s1 := xs.mark 1 _ rfl
            have m_s2 := xs.mark 2 _ rfl
            have l_s := xs.lt (Nat.succ_pos _)
            clear HA HB hfr hcy hlo hP hT HWY
            go_wp2_with fail
            go_at_call 26
            (with_reducible refine HWE.out.mono ?_); rintro e w7 ⟨rfl, hg7⟩
            have HG7 := Lib.hid ((HG6.out.trans HG.out).trans hg7)
            clear hg7
            go_wp2_with fail
            go_at_call 21
            (with_reducible refine (HWK.out w7 HG7.out).mono ?_); rintro e w8 ⟨rfl, hg8⟩
            go_wp2_with fail
            go_ret
            exact ⟨rfl, HG7.out.trans hg8⟩
          · have hfe : f = -1 := by
              rcases HB.out with h | ⟨y, _, _, h2, h3⟩
              · exact h
              · exact absurd h3 (hno y (by rw [← HNL.out]; exact h2))
            subst hfe
            clear HA HB hno
            go_wp2_with fail
            go_at_call 21
            (with_reducible refine (HWK.out wr (HG6.out.trans HG.out)).mono ?_); rintro e w7 ⟨rfl, hg7⟩
            go_wp2_with fail
            go_ret
            exact ⟨rfl, (HG6.out.trans HG.out).trans hg7⟩
        | succ j =>
          have hz := HZ.out
          obtain rfl : z = (j : Int) := by omega
          have hj0 : ¬ (j : Int) < 0 := by omega
          have hjn : j < nl := by omega
          have HJN := Lib.hid hjn
          have HRC := Lib.hid (reaches_any (linksN s) nl j (.slice pl nl cl) wr (HRY.out.later HG.out) HUL.out HNB.out hjn (fun i r h => linksN_in HLK.out h) (fun i r h => linksN_row HRU.out h))
          have hwj : IntKind.i64.wrap ((j : Int) - 1) = (j : Int) - 1 := IntWalk.i64_in _ (by omega)
          clear hz HZ hk hjn
          go_wp2_with fail
          go_at_call 25
          (with_reducible refine HRC.out.mono ?_); rintro e w7 ⟨v7, O, rfl, hO, hmem, hg7⟩
          obtain ⟨p7, c7, rfl⟩ := hO.len
          have HHS := Lib.hid (has_any6 O _ (j : Int) w7 hO)
          rw [any_inN] at HHS
          obtain ⟨no, hno⟩ : ∃ n, O.length = n := ⟨_, rfl⟩
          rw [hno] at HHS
          obtain ⟨q, hq⟩ : ∃ q, inN O j = q := ⟨_, rfl⟩
          have HQ := Lib.hid (show q = true ↔ Cyc (linksN s) j by
            rw [← hq]
            unfold inN
            rw [decide_eq_true_eq]
            exact hmem j)
          rw [hq] at HHS
          have HG7 := Lib.hid (HG.out.trans hg7)
          rw [hno]
          clear hno hO hmem hq hg7 HRC HG
          go_wp2_with fail
          go_at_call 24
          (with_reducible refine HHS.out.mono ?_); rintro e w8 ⟨rfl, hg8⟩
          have HG8 := Lib.hid (HG7.out.trans hg8)
          clear hg8 HG7 HHS
          cases q with
          | true =>
            have HCY := Lib.hid (HQ.out.1 rfl)
            go_wp2_with fail
            go_roundw
            case rel => exact ⟨j, _, _, by have := HJN.out; omega, rfl, rfl, Lib.hid (by omega), HG8, Lib.hid (fun y h1 h2 h3 => by omega), Lib.hid (.inr ⟨j, rfl, Nat.le_refl _, HJN.out, HCY.out⟩)⟩
            case measure => simp [intOf]
          | false =>
            have HCY := Lib.hid (show ¬ Cyc (linksN s) j from fun h => by have := HQ.out.2 h; cases this)
            go_wp2_with fail
            go_roundw
            case rel => exact ⟨j, _, _, by have := HJN.out; omega, rfl, rfl, Lib.hid (by omega), HG8, Lib.hid (fun y h1 h2 h3 => by
              rcases Nat.eq_or_lt_of_le h1 with e | h1
              · subst e; exact absurd h3 HCY.out
              · exact HA.out y h1 h2 h3), Lib.hid (HB.out.imp id (fun ⟨y, h1, h2, h3, h4⟩ => ⟨y, h1, by omega, h3, h4⟩))⟩
            case measure => simp [intOf]


end Go.Proofs.YtkkopdmemjncdaaGreatDoor
