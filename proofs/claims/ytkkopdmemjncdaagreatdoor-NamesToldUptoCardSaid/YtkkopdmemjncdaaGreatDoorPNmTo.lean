/- bolterlaw6.NamesTold answers true. Printed by gen_nmto.py. No condition but the errors' variables and a bound of the argument's bulk. -/
import Derived.Test.YtkkopdmemjncdaaGreatDoorPNmTr
namespace Go.Proofs.YtkkopdmemjncdaaGreatDoor
open Go Go.RowKit

theorem cnt_flat {α : Type} (l : List α) (f : α → List Nt) (x : Nt) (k : Nat) (a : α) (h : l[k]? = some a) : cntN ((l.take (k + 1)).flatMap f) x = cntN ((l.take k).flatMap f) x + cntN (f a) x := by
  rw [List.take_add_one, h, List.flatMap_append, cntN_app]
  simp
theorem cnt_map {α : Type} (l : List α) (f : α → Nt) (x : Nt) (k : Nat) (a : α) (h : l[k]? = some a) : cntN ((l.take (k + 1)).map f) x = cntN ((l.take k).map f) x + oneN (decide ((f a).2 = x.2) && decide ((f a).1 = x.1)) := by
  rw [List.take_add_one, h, List.map_append, cntN_app]
  congr 1
  show cntN [f a] x = _
  rw [cntN_cons]
  unfold oneN
  rfl
theorem cnt_flat_le {α : Type} (l : List α) (f : α → List Nt) (x : Nt) (k : Nat) : cntN ((l.take k).flatMap f) x ≤ cntN (l.flatMap f) x := by
  conv => rhs; rw [← List.take_append_drop k l, List.flatMap_append, cntN_app]
  omega
theorem cnt_map_le {α : Type} (l : List α) (f : α → Nt) (x : Nt) (k : Nat) : cntN ((l.take k).map f) x ≤ cntN (l.map f) x := by
  conv => rhs; rw [← List.take_append_drop k l, List.map_append, cntN_app]
  omega
theorem len_flat {α : Type} (f : α → List Nt) (g : α → Nat) : ∀ l : List α, (∀ a ∈ l, (f a).length ≤ g a) → (l.flatMap f).length ≤ (l.map g).sum
  | [], _ => by simp
  | a :: l, h => by
    rw [List.flatMap_cons, List.length_append, List.map_cons, List.sum_cons]
    have h1 := h a (by simp)
    have h2 := len_flat f g l (fun b hb => h b (by simp [hb]))
    omega
theorem sum_twice {α : Type} (g : α → Nat) : ∀ l : List α, (l.map fun a => 2 * g a).sum = 2 * (l.map g).sum
  | [] => rfl
  | a :: l => by rw [List.map_cons, List.sum_cons, List.map_cons, List.sum_cons, sum_twice g l]; omega
theorem wtE_pos (e : Ex) : 1 ≤ wtE e := by cases e; rw [wtE]; omega
theorem things_len {s : Sc} (h : wtS s ≤ 1048576) : (things s).length ≤ 2097152 := by
  unfold things modeN
  rw [List.length_append, List.length_append, List.length_map]
  unfold wtS at h
  have h1 := len_flat thingsD (fun d => 2 * wtE d.ex) s.defs (fun d _ => by
    unfold thingsD
    have := refs_wt d.ex
    have := wtE_pos d.ex
    rw [List.length_cons]; omega)
  have h2 := len_flat thingsR wtR s.rules (fun r _ => by
    unfold thingsR wtR
    have := refs_wt r.head
    have := refs_wt r.trail
    simp only [List.length_append, List.length_map]; omega)
  rw [sum_twice (fun d : Df => wtE d.ex)] at h1
  omega
theorem cnt_things (s : Sc) (x : Nt) : cntN (things s) x = cntN (s.modes.map fun m => (m.name, m.pos)) x + (cntN (s.defs.flatMap thingsD) x + cntN (s.rules.flatMap thingsR) x) := by
  unfold things
  rw [cntN_app, cntN_app]; rfl
theorem cnt_D (d : Df) (x : Nt) : cntN (thingsD d) x = oneN (decide (d.pos = x.2) && decide (d.name = x.1)) + cntN (refsE d.ex) x := by
  unfold thingsD
  rw [cntN_cons]; unfold oneN; rfl
theorem cnt_R (r : Rl) (x : Nt) : cntN (thingsR r) x = cntN (refsE r.head) x + (cntN (refsE r.trail) x + (cntN (r.modes.map usN) x + cntN (r.acts.map fun a => usN a.mode) x)) := by
  unfold thingsR
  rw [cntN_app, cntN_app, cntN_app]
theorem pathP_len (U : List (List Nat)) (far : List Int) (fr : Nat) : ∀ n i, (pathP U far fr n i).length ≤ n
  | 0, i => by rw [pathP]; simp
  | n + 1, i => by
    rw [pathP]
    split
    · simp
    · split
      · simp
      · rename_i k _ _
        have := pathP_len U far fr n k
        rw [List.length_cons]; omega
theorem RlIn.formE {w : World} {r : Rl} {cs : List Value} (h : RlIn w r cs) : ∃ (po : Int) (al : Bool) (pum : Option Addr) (num cum : Nat) (op ps : Int) (s1 : BitVec 256) (tx : ByteArray) (mn mx : Int) (p1 : Option Addr) (n1 c1 : Nat) (ht : Bool) (op2 ps2 : Int) (s2 : BitVec 256) (tx2 : ByteArray) (mn2 mx2 : Int) (p2 : Option Addr) (n2 c2 : Nat) (lb : ByteArray) (pua : Option Addr) (nua cua : Nat), cs = [.int .i64 po, .bool al, .slice pum num cum, .int .i64 op, .int .i64 ps, .int .u64 (wd s1 0), .int .u64 (wd s1 1), .int .u64 (wd s1 2), .int .u64 (wd s1 3), .string tx, .int .i64 mn, .int .i64 mx, .slice p1 n1 c1, .bool ht, .int .i64 op2, .int .i64 ps2, .int .u64 (wd s2 0), .int .u64 (wd s2 1), .int .u64 (wd s2 2), .int .u64 (wd s2 3), .string tx2, .int .i64 mn2, .int .i64 mx2, .slice p2 n2 c2, .string lb, .slice pua nua cua] ∧
    ExIn w r.head [.int .i64 op, .int .i64 ps, .int .u64 (wd s1 0), .int .u64 (wd s1 1), .int .u64 (wd s1 2), .int .u64 (wd s1 3), .string tx, .int .i64 mn, .int .i64 mx, .slice p1 n1 c1] ∧ ExIn w r.trail [.int .i64 op2, .int .i64 ps2, .int .u64 (wd s2 0), .int .u64 (wd s2 1), .int .u64 (wd s2 2), .int .u64 (wd s2 3), .string tx2, .int .i64 mn2, .int .i64 mx2, .slice p2 n2 c2] ∧ r.modes.length = num ∧ r.acts.length = nua ∧ Sl w (.slice pum r.modes.length cum) 2 r.modes.length (r.modes.flatMap usC) ∧ Sl w (.slice pua r.acts.length cua) 3 r.acts.length (r.acts.flatMap acC) ∧ (∀ u ∈ r.modes, UsOk u) ∧ (∀ a ∈ r.acts, AcOk a) ∧ num * 24 ≤ 140737488351232 ∧ nua * 32 ≤ 140737488351232 := by
  cases h with
  | mk vm va ec tc he ht hm hmn hmb hmo ha han hab hao hl hp =>
    obtain ⟨op, ps, s1, tx, mn, mx, p1, n1, c1, rfl⟩ := he.formN
    obtain ⟨op2, ps2, s2, tx2, mn2, mx2, p2, n2, c2, rfl⟩ := ht.formN
    obtain ⟨pum, cum, rfl⟩ := hm.len
    obtain ⟨pua, cua, rfl⟩ := ha.len
    exact ⟨_, _, pum, _, cum, op, ps, s1, tx, mn, mx, p1, n1, c1, _, op2, ps2, s2, tx2, mn2, mx2, p2, n2, c2, _, pua, _, cua, rfl, he, ht, rfl, rfl, hm, ha, hmo, hao, hmb, hab⟩
theorem wt_defs {s : Sc} (h : wtS s ≤ 1048576) : ∀ d ∈ s.defs, wtE d.ex ≤ 1048576 := fun d hd => by
  have h2 := sum_mem (fun d : Df => wtE d.ex) s.defs d hd
  unfold wtS at h
  omega
theorem wt_rules {s : Sc} (h : wtS s ≤ 1048576) : ∀ r ∈ s.rules, wtE r.head ≤ 1048576 ∧ wtE r.trail ≤ 1048576 := fun r hr => by
  have h2 := sum_mem wtR s.rules r hr
  unfold wtS at h
  have h3 : wtR r = r.modes.length + (wtE r.head + (wtE r.trail + r.acts.length)) := rfl
  constructor <;> omega

set_option maxRecDepth 100000 in
set_option maxHeartbeats 16000000 in
theorem namesTold_any (s : Sc) (w : World) (es : Nat → Addr) (hF : FaultsIn w es) (vm vd vr : Value) (hs : ScIn w s vm vd vr) (hwt : wtS s ≤ 1048576) : Calls Tryz.prog 6 #[scV vm vd vr] w fun e w' => e = .returned (.bool true) ∧ Gr w w' := by
  have HHV := Lib.hid (fun W (hG : Gr w W) => heavy6_any s vm vd vr W (hs.later hG))
  have HWK := Lib.hid (fun W (hG : Gr w W) => wakes6_any W es (hF.later hG))
  have HRS := Lib.hid (fun W (hG : Gr w W) => resolve_any s W vm vd vr (esN es 15) (esN es 6) (esN es 7) (hs.later hG) (faults_glo (hF.later hG)).1 (faults_glo (hF.later hG)).2.1 (faults_glo (hF.later hG)).2.2 ⟨_, _, rfl⟩ ⟨_, _, rfl⟩ ⟨_, _, rfl⟩ (refs_wtS hwt))
  have HF := Lib.hid hF
  have HTL := Lib.hid (things_len hwt)
  have HWD := Lib.hid (wt_defs hwt)
  have HWR := Lib.hid (wt_rules hwt)
  obtain ⟨dl, rl, hd, hr, hm, hmo, hmn, hmb, hds, hdi, hdn, hdb, hrs, hri, hrn, hrb⟩ := hs
  obtain ⟨pm, cm, evm⟩ := hm.len
  obtain ⟨pd, cd, evd⟩ := hds.len
  obtain ⟨pr, cr, evr⟩ := hrs.len
  obtain ⟨ns, hns⟩ : ∃ n, s.modes.length = n := ⟨_, rfl⟩
  obtain ⟨nd, hnd⟩ : ∃ n, dl.length = n := ⟨_, rfl⟩
  obtain ⟨nr, hnr⟩ : ∃ n, rl.length = n := ⟨_, rfl⟩
  have HNS := Lib.hid hns
  have HND := Lib.hid hnd
  have HNR := Lib.hid hnr
  rw [hns] at evm hm
  rw [hnd] at evd hds
  rw [hnr] at evr hrs
  have HMS := Lib.hid hm
  have HD := Lib.hid hds
  have HDI := Lib.hid hdi
  have HHD := Lib.hid hd
  have HR := Lib.hid hrs
  have HRI := Lib.hid hri
  have HHR := Lib.hid hr
  subst evm evd evr
  unfold scV at HHV HRS ⊢
  clear hns hnd hnr hd hr hm hmo hmn hmb hds hdi hdn hdb hrs hri hrn hrb hF hwt
  go_enter Tryz.func6, Tryz.ntmps6
  go_wp2_with fail
  go_at_call 9
  refine name_calls (fun W1 hW1 => ?_)
  have xs : boxAt W1 w.heap.size [.slice pm ns cm, .slice pd nd cd, .slice pr nr cr] := by rw [hW1]; exact boxAt.new_atN _ _ _ rfl rfl
  have hg1 : Gr w W1 := by rw [hW1]; exact Gr.alloc _ _
  clear hW1
  (with_reducible refine (HHV.out W1 hg1).mono ?_); rintro e w2 ⟨⟨hv, rfl⟩, hg2⟩
  have XS := Lib.hid (xs.later hg2)
  have HG2 := Lib.hid (hg1.trans hg2)
  clear xs hg1 hg2 HHV
  cases hv with
  | true =>
    go_wp2_with fail
    go_at_call 21
    (with_reducible refine (HWK.out w2 HG2.out).mono ?_); rintro e w3 ⟨rfl, hg3⟩
    go_wp2_with fail
    go_ret
    exact ⟨rfl, HG2.out.trans hg3⟩
  | false =>
    have xs := XS.out
    have c_s0 := xs.cell 0 _ rfl
    have c_s1 := xs.cell 1 _ rfl
    have c_s2 := xs.cell 2 _ rfl
    have m_s0 := xs.mark 0 _ rfl
    have m_s1 := xs.mark 1 _ rfl
    have m_s2 := xs.mark 2 _ rfl
    have l_s := xs.lt (Nat.succ_pos _)
    go_wp2_with fail
    go_at_call 12
    (with_reducible refine (HRS.out w2 HG2.out).mono ?_); rintro e w3 ⟨hres, hg3⟩
    have HG3 := Lib.hid (HG2.out.trans hg3)
    have XS3 := Lib.hid (XS.out.later hg3)
    clear c_s0 c_s1 c_s2 m_s0 m_s1 m_s2 l_s
    clear xs HRS hg3 XS HG2
    rcases hres with ⟨_, rfl⟩ | ⟨x, v, hsp, hwo, hv, rfl⟩ | ⟨i, far2, b2, nv2, hsp2, _, hi, hc, hf, hp, hb, _, ho, rfl⟩ | ⟨B, v0, v1, v2, v3, vs1, vs3, hsp, hno, hl, hB, h1, h3, hr, h2, ha, rfl⟩
    · unfold nmsZ esN
      go_wp2_with fail
      go_at_call 28
      refine name_calls (fun W4 hW4 => ?_)
      have HG4 := Lib.hid (HG3.out.trans (show Gr w3 W4 by rw [hW4]; exact Gr.alloc _ _))
      clear hW4
      have HT := Lib.hid (tell_arg (HF.out.later HG4.out))
      try unfold esN at HT
      (with_reducible refine HT.out.mono ?_); rintro e w5 ⟨rfl, hg5⟩
      have HG5 := Lib.hid (HG4.out.trans hg5)
      clear HT HG4 hg5
      go_upto_region 5 with fail
      refine name_world (fun W6 hW6 => ?_)
      have xf : boxAt W6 w5.heap.size [.int .i64 15, .int .i64 0, .int .i64 0, .int .i64 0, .slice none 0 0] := by rw [hW6]; exact boxAt.new_atN _ _ _ rfl rfl
      have HG6 := Lib.hid (HG5.out.trans (show Gr w5 W6 by rw [hW6]; exact Gr.alloc _ _))
      clear hW6
      have c_f0 := xf.cell 0 _ rfl
      have c_f1 := xf.cell 1 _ rfl
      have c_f2 := xf.cell 2 _ rfl
      have c_f3 := xf.cell 3 _ rfl
      have c_f4 := xf.cell 4 _ rfl
      have m_f0 := xf.mark 0 _ rfl
      have m_f1 := xf.mark 1 _ rfl
      have m_f2 := xf.mark 2 _ rfl
      have m_f3 := xf.mark 3 _ rfl
      have m_f4 := xf.mark 4 _ rfl
      have l_f := xf.lt (Nat.succ_pos _)
      go_wp2_with fail
      go_at_call 21
      (with_reducible refine (HWK.out W6 HG6.out).mono ?_); rintro e w7 ⟨rfl, hg7⟩
      go_wp2_with fail
      go_ret
      exact ⟨rfl, HG6.out.trans hg7⟩
    rotate_left
    · obtain ⟨n, hpl⟩ : ∃ n, pathP (linksS s) far2 i (s.defs.length + 1) i = n := ⟨_, rfl⟩
      have HLP := Lib.hid (show n.length ≤ 1048576 from by
        have h1 := pathP_len (linksS s) far2 i (s.defs.length + 1) i
        have h2 := (spec_lens hsp2).2.1
        rw [hpl] at h1
        omega)
      rw [hpl] at ho hp
      clear hi hc hf hpl hp
      unfold nmsZ
      go_wp2_with fail
      go_at_call 28
      refine name_calls (fun W4 hW4 => ?_)
      have HG4 := Lib.hid (HG3.out.trans (show Gr w3 W4 by rw [hW4]; exact Gr.alloc _ _))
      have HT := Lib.hid (tell_cyc (HF.out.later HG4.out) (hb.later (show Gr w3 W4 by rw [hW4]; exact Gr.alloc _ _)) (nmD s) n ⟨_, owns_later ho (show Gr w3 W4 by rw [hW4]; exact Gr.alloc _ _)⟩ HLP.out)
      clear hW4
      try unfold esN at HT
      (with_reducible refine HT.out.mono ?_); rintro e w5 ⟨nv, rfl, hon, hg5⟩
      obtain ⟨pn, cn, rfl⟩ := (Sl.of_owns hon).len
      clear hon
      have HG5 := Lib.hid (HG4.out.trans hg5)
      clear HT HG4 hg5
      go_upto_region 5 with fail
      refine name_world (fun W6 hW6 => ?_)
      have xf : boxAt W6 w5.heap.size [.int .i64 7, .int .i64 0, .int .i64 0, .int .i64 0, .slice pn n.length cn] := by rw [hW6]; exact boxAt.new_atN _ _ _ rfl rfl
      have HG6 := Lib.hid (HG5.out.trans (show Gr w5 W6 by rw [hW6]; exact Gr.alloc _ _))
      clear hW6
      have c_f0 := xf.cell 0 _ rfl
      have c_f1 := xf.cell 1 _ rfl
      have c_f2 := xf.cell 2 _ rfl
      have c_f3 := xf.cell 3 _ rfl
      have c_f4 := xf.cell 4 _ rfl
      have m_f0 := xf.mark 0 _ rfl
      have m_f1 := xf.mark 1 _ rfl
      have m_f2 := xf.mark 2 _ rfl
      have m_f3 := xf.mark 3 _ rfl
      have m_f4 := xf.mark 4 _ rfl
      have l_f := xf.lt (Nat.succ_pos _)
      go_wp2_with fail
      go_at_call 21
      (with_reducible refine (HWK.out W6 HG6.out).mono ?_); rintro e w7 ⟨rfl, hg7⟩
      go_wp2_with fail
      go_ret
      exact ⟨rfl, HG6.out.trans hg7⟩
    · have hnm := NmIn.of h1 h3 hr h2
      obtain ⟨p0, c0, rfl⟩ := hnm.m.len
      obtain ⟨p1, c1, rfl⟩ : ∃ p c, v1 = .slice p (namesN s).active.length c := by
        obtain ⟨vs, _, h, _⟩ := hnm.a.sl
        exact h.len
      obtain ⟨p2, c2, rfl⟩ := hnm.o.len
      obtain ⟨p3, c3, rfl⟩ : ∃ p c, v3 = .slice p (actsR s).length c := by
        obtain ⟨vs, _, h, _⟩ := hnm.c.sl
        exact h.len
      obtain ⟨n0, hn0⟩ : ∃ n, (modesN s).length = n := ⟨_, rfl⟩
      obtain ⟨n1, hn1⟩ : ∃ n, (namesN s).active.length = n := ⟨_, rfl⟩
      obtain ⟨n2, hn2⟩ : ∃ n, (namesN s).order.length = n := ⟨_, rfl⟩
      obtain ⟨n3, hn3⟩ : ∃ n, (actsR s).length = n := ⟨_, rfl⟩
      rw [hn0, hn1, hn2, hn3]
      clear h1 h3 hr h2 ha hB hl hno hsp hnm hn0 hn1 hn2 hn3
      go_wp2_with fail
      go_at_call 28
      refine name_calls (fun W4 hW4 => ?_)
      have HG4 := Lib.hid (HG3.out.trans (show Gr w3 W4 by rw [hW4]; exact Gr.alloc _ _))
      clear hW4
      have HT := Lib.hid (tell_nil W4)
      try unfold esN at HT
      (with_reducible refine HT.out.mono ?_); rintro e w5 ⟨rfl, hg5⟩
      have HG5 := Lib.hid (HG4.out.trans hg5)
      clear HT HG4 hg5
      go_upto_region 5 with fail
      refine name_world (fun W6 hW6 => ?_)
      have xf : boxAt W6 w5.heap.size [.int .i64 0, .int .i64 0, .int .i64 0, .int .i64 0, .slice none 0 0] := by rw [hW6]; exact boxAt.new_atN _ _ _ rfl rfl
      have HG6 := Lib.hid (HG5.out.trans (show Gr w5 W6 by rw [hW6]; exact Gr.alloc _ _))
      clear hW6
      have c_f0 := xf.cell 0 _ rfl
      have c_f1 := xf.cell 1 _ rfl
      have c_f2 := xf.cell 2 _ rfl
      have c_f3 := xf.cell 3 _ rfl
      have c_f4 := xf.cell 4 _ rfl
      have m_f0 := xf.mark 0 _ rfl
      have m_f1 := xf.mark 1 _ rfl
      have m_f2 := xf.mark 2 _ rfl
      have m_f3 := xf.mark 3 _ rfl
      have m_f4 := xf.mark 4 _ rfl
      have l_f := xf.lt (Nat.succ_pos _)
      go_wp2_with fail
      go_at_call 21
      (with_reducible refine (HWK.out W6 HG6.out).mono ?_); rintro e w7 ⟨rfl, hg7⟩
      go_wp2_with fail
      go_ret
      exact ⟨rfl, HG6.out.trans hg7⟩
    have hsp' := hsp
    have HTG := Lib.hid (notes_things (worst_mem hwo))
    have hpl := notes_placed hsp (worst_mem hwo)
    unfold placedB at hpl
    have hpl := of_decide_eq_true hpl
    have HSP := Lib.hid (spec_lens hsp)
    obtain ⟨nam, pl⟩ := x
    dsimp only at hpl
    have HB4 := Lib.hid hv
    obtain ⟨b1, b2, nv, rfl, _⟩ := hv
    clear hsp hsp' hwo
    unfold nmsZ
    go_wp2_with fail
    go_at_call 28
    refine name_calls (fun W4 hW4 => ?_)
    have HG4 := Lib.hid (HG3.out.trans (show Gr w3 W4 by rw [hW4]; exact Gr.alloc _ _))
    have HT := Lib.hid (tell_bad (HF.out.later HG4.out) (HB4.out.keep (fun k hk _ => Below.block (show Gr w3 W4 by rw [hW4]; exact Gr.alloc _ _) k hk)))
    have XS4 := Lib.hid (XS3.out.later (show Gr w3 W4 by rw [hW4]; exact Gr.alloc _ _))
    clear hW4
    (with_reducible refine HT.out.mono ?_); rintro e w5 ⟨nv2, rfl, hon, hg5⟩
    have HG5 := Lib.hid (HG4.out.trans hg5)
    have XS5 := Lib.hid (XS4.out.later hg5)
    have hso := Sl.of_owns hon
    clear HT HG4 hg5 XS3 XS4 hon HB4
    obtain ⟨pn, cn, rfl⟩ := hso.len
    go_upto_region 5 with fail
    refine name_world (fun W6 hW6 => ?_)
    have xf : boxAt W6 w5.heap.size [.int .i64 6, .int .i64 0, .int .i64 0, .int .i64 pl, .slice pn 1 cn] := by rw [hW6]; exact boxAt.new_atN _ _ _ rfl rfl
    have hg6 : Gr w5 W6 := by rw [hW6]; exact Gr.alloc _ _
    have HG6 := Lib.hid (HG5.out.trans hg6)
    have XF := Lib.hid xf
    have XS6 := Lib.hid (XS5.out.later hg6)
    have hso6 : Sl W6 (.slice pn [nam].length cn) 1 [nam].length ([nam].map .string) := hso.later hg6
    obtain ⟨bn, on, rfl, hbn, hcn⟩ := txt_at hso6 (k := 0) (x := nam) rfl
    have HBN := Lib.hid hbn
    have HCN := Lib.hid hcn
    obtain ⟨fb, hfb⟩ : ∃ b, w5.heap.size = b := ⟨_, rfl⟩
    obtain ⟨sb, hsb2⟩ : ∃ b, w.heap.size = b := ⟨_, rfl⟩
    rw [hfb] at XF
    rw [hsb2] at XS6
    simp only [hfb, hsb2]
    clear hW6 xf hg6 HG3 HG5 XS5 hso hso6 hbn hcn hfb hsb2
    have pl0 : ¬ pl < 0 := by omega
    have pl1 : ¬ (65536 : Int) < pl := by omega
    have xf := XF.out
    have c_f0 := xf.cell 0 _ rfl
    have c_f1 := xf.cell 1 _ rfl
    have c_f2 := xf.cell 2 _ rfl
    have c_f3 := xf.cell 3 _ rfl
    have c_f4 := xf.cell 4 _ rfl
    have m_f0 := xf.mark 0 _ rfl
    have m_f1 := xf.mark 1 _ rfl
    have m_f2 := xf.mark 2 _ rfl
    have m_f3 := xf.mark 3 _ rfl
    have m_f4 := xf.mark 4 _ rfl
    have l_f := xf.lt (Nat.succ_pos _)
    go_upto_region 7 with fail
    go_cut [65] from 23 to 65 (fun v wx => v = .bool false ∧ W6 = wx)
    case first =>
      go_wp2_with fail
      go_meet
      case rel => exact ⟨rfl, rfl⟩
    case rest =>
    obtain ⟨rfl, rfl⟩ := hcut
    clear c_f0 c_f1 c_f2 c_f3 c_f4 m_f0 m_f1 m_f2 m_f3 m_f4 l_f
    clear xf
    go_wp2_with fail
    have HCT := Lib.hid (cnt_things s (nam, pl))
    have HLE := Lib.hid (cntN_le (things s) (nam, pl))
    have HPO := Lib.hid (cntN_pos HTG.out)
    obtain ⟨cT, hcT⟩ : ∃ c, cntN (things s) (nam, pl) = c := ⟨_, rfl⟩
    obtain ⟨cM, hcM⟩ : ∃ c, cntN (s.modes.map fun m => (m.name, m.pos)) (nam, pl) = c := ⟨_, rfl⟩
    obtain ⟨cD, hcD⟩ : ∃ c, cntN (s.defs.flatMap thingsD) (nam, pl) = c := ⟨_, rfl⟩
    obtain ⟨cR, hcR⟩ : ∃ c, cntN (s.rules.flatMap thingsR) (nam, pl) = c := ⟨_, rfl⟩
    have HCM := Lib.hid hcM
    have HCD := Lib.hid hcD
    have HCR := Lib.hid hcR
    rw [hcT] at HCT HLE HPO
    rw [hcM, hcD, hcR] at HCT
    have HTB := Lib.hid (show cM + (cD + cR) ≤ 2097152 from by have h1 := HCT.out; have h2 := HLE.out; have h3 := HTL.out; omega)
    clear hcT hcM hcD hcR
    go_loopw [6, 7] (fun n i wr => ∃ (k m : Nat), k ≤ ns ∧ m ≤ 2097152 ∧ n = .int .i64 (m : Int) ∧ i = .int .i64 (k : Int) ∧ Hid (Gr W6 wr) ∧ Hid (m = cntN ((s.modes.take k).map fun m => (m.name, m.pos)) (nam, pl))) (fun _ i _ => ns - (intOf i).toNat)
    case atStart => exact ⟨0, 0, Nat.zero_le _, by omega, rfl, rfl, Lib.hid (Gr.refl _), Lib.hid rfl⟩
    case round =>
      obtain ⟨k, m, hk, hm, rfl, rfl, HG, HM⟩ := hrel
      have xs := XS6.out.later HG.out
      have c_s0 := xs.cell 0 _ rfl
      have c_s1 := xs.cell 1 _ rfl
      have c_s2 := xs.cell 2 _ rfl
      have m_s0 := xs.mark 0 _ rfl
      have m_s1 := xs.mark 1 _ rfl
      have m_s2 := xs.mark 2 _ rfl
      have l_s := xs.lt (Nat.succ_pos _)
      rcases Nat.lt_or_ge k ns with hkn | hkn
      · have hkI : (k : Int) < (ns : Int) := by omega
        have HKN := Lib.hid hkn
        have hns16 : (ns : Int) ≤ 16 := by have h1 := HSP.out.1; have := HNS.out; omega
        obtain ⟨md, hx⟩ : ∃ x, s.modes[k]? = some x := ⟨_, List.getElem?_eq_getElem (by rw [HNS.out]; exact hkn)⟩
        have hS := HMS.out
        rw [← HNS.out] at hS
        obtain ⟨b8, o8, hp8, hb8, hc8⟩ := mode_at hS hx
        subst hp8
        have hg := HG6.out.trans HG.out
        have k0 := hg.cell (hc8 0 _ rfl)
        have k2 := hg.cell (hc8 2 _ rfl)
        simp only [Nat.add_zero] at k0
        have hbr := Nat.lt_of_lt_of_le hb8 hg.size
        have xf := XF.out.later HG.out
        have kn := HG.out.cell HCN.out
        have hbn := Nat.lt_of_lt_of_le HBN.out HG.out.size
        simp only [Nat.add_zero] at kn
        have HST := Lib.hid (cnt_map s.modes (fun m => (m.name, m.pos)) (nam, pl) k md hx)
        obtain ⟨mn, mo, mp⟩ := md
        have HEI := Lib.hid (eqI mp pl)
        have HET := Lib.hid (eqT mn nam)
        have hlen := cnt_map_le s.modes (fun m => (m.name, m.pos)) (nam, pl) (k + 1)
        rw [HCM.out] at hlen
        dsimp only at HST
        obtain ⟨c1, hc1⟩ : ∃ c, oneN (decide (mp = pl) && decide (mn = nam)) = c := ⟨_, rfl⟩
        rw [hc1] at HST
        have HC1 := Lib.hid hc1
        have hm2 : m + c1 ≤ 2097152 := by
          have h1 := HST.out
          have h2 := HM.out
          have h3 := HTB.out
          omega
        have hw : IntKind.i64.wrap ((m : Int) + (c1 : Int)) = (m : Int) + (c1 : Int) := IntWalk.i64_in _ (by omega)
        have HM2 := Lib.hid (show m + c1 = cntN ((s.modes.take (k + 1)).map fun m => (m.name, m.pos)) (nam, pl) by rw [HST.out, ← HM.out])
        clear hlen hc1 hx hk hkn hS hc8 hb8 hg
        go_upto_region 13 with fail
        refine r13_any wr sb fb b8 o8 bn on k m c1 ns cm cn _ _ nam mn pl mp xs xf k0 k2 kn hbr hbn hkI hns16 hm2 HC1.out _ _ _ _ _ _ _ _ _ _ _ _ _ _ _ _ _ _ _ _ _ _ _ _ _ _ _ _ _ _ _ _ _ _ _ _ _ _ _ _ _ _ _ _ _ _ _ _ _ _ _ _ _ _ _ _ _ _ _ _ _ _ _ _ _ _ _ _ _ _ _ _ _ _ _ _ _ _ _ _ _ _ _ _ _ _ _ _ _ _ _ _ _ _ _ _ _ _ _ _ _ _ _ _ _ _ _ _ _ _ _ _ _ _ _ _ _ _ _ _ _ _ _ _ _ _ _ _ _ _ _ _ _ _ _ _ _ _ _ _ _ _ _ _ _ _ _ _ _ _ _ _ _ _ _ _ _ _ _ _ _ _ _ _ _ _ _ _ _ _ _ _ _ _ _ _ _ _ _ _ _ _ _ _ _ _ _ _ _ _ _ _ _ _ _ _ _ _ _ _ _ _ _ _ _ _ _ _ _ _ _ _ _ _ _ _ _ _ _ _ _ _ _ _ _ _ _ _ _ _ _ _ _ _ _ _ _ _ _ _ _ _ _ _ _ ?_
        intros
        rename_i hG
        have HGQ := Lib.hid (HG.out.trans hG)
        clear c_s0 c_s1 c_s2 m_s0 m_s1 m_s2 l_s
        clear hG xf xs k0 k2 kn
        go_wp2_with fail
        go_roundw
        case rel => exact ⟨k + 1, m + c1, HKN.out, hm2, by go_num, by go_num, HGQ, HM2⟩
        case measure => have := HKN.out; simp [intOf]; omega
      · have hkI : ¬ (k : Int) < (ns : Int) := by omega
        have HM0 := Lib.hid (show m = cM by
          rw [HM.out, ← HCM.out, List.take_of_length_le (by rw [HNS.out]; omega)])
        clear hk hkn
        go_wp2_with fail
        clear c_s0 c_s1 c_s2 m_s0 m_s1 m_s2 l_s
        clear xs
        go_loopw [6, 8] (fun n i wr => ∃ (k m : Nat), k ≤ nd ∧ m ≤ 2097152 ∧ n = .int .i64 (m : Int) ∧ i = .int .i64 (k : Int) ∧ Hid (Gr W6 wr) ∧ Hid (m = cM + cntN ((s.defs.take k).flatMap thingsD) (nam, pl))) (fun _ i _ => nd - (intOf i).toNat)
        case atStart => exact ⟨0, m, Nat.zero_le _, hm, rfl, rfl, HG, Lib.hid HM0.out⟩
        case round =>
          clear HG HM
          obtain ⟨k, m, hk, hm, rfl, rfl, HG, HM⟩ := hrel
          have xs := XS6.out.later HG.out
          have c_s0 := xs.cell 0 _ rfl
          have c_s1 := xs.cell 1 _ rfl
          have c_s2 := xs.cell 2 _ rfl
          have m_s0 := xs.mark 0 _ rfl
          have m_s1 := xs.mark 1 _ rfl
          have m_s2 := xs.mark 2 _ rfl
          have l_s := xs.lt (Nat.succ_pos _)
          rcases Nat.lt_or_ge k nd with hkn | hkn
          · have hkI : (k : Int) < (nd : Int) := by omega
            have HKN := Lib.hid hkn
            have hnd2 : (nd : Int) ≤ 200 := by have h1 := HSP.out.2.1; rw [← HHD.out, List.length_map, HND.out] at h1; omega
            obtain ⟨⟨d, cs⟩, hx⟩ : ∃ x, dl[k]? = some x := ⟨_, List.getElem?_eq_getElem (by rw [HND.out]; exact hkn)⟩
            have hg := HG6.out.trans HG.out
            have hD := HD.out
            obtain ⟨b8, o8, hp8, hb8, hc⟩ := elem_at hD (fun x hx => (HDI.out x hx).len) HND.out hx
            have hok := HDI.out _ (List.mem_of_getElem? hx)
            have hsd : s.defs[k]? = some d := by rw [← HHD.out, List.getElem?_map, hx]; rfl
            dsimp only at hok hc
            have HWE := Lib.hid (HWD.out d (List.mem_of_getElem? hsd))
            cases hok with
            | mk ec hee hnn hpp =>
            have HRF := Lib.hid (fun W (hG : Gr w W) => refs6_any nam pl _ d.ex (Nat.le_refl _) ec W (hee.later hG) HWE.out)
            obtain ⟨op, ps, s1, tx, mnx, mx, p1, n1, c1x, rfl⟩ := hee.formN
            subst hp8
            have hbr := Nat.lt_of_lt_of_le hb8 hg.size
            have k0 := hg.cell (hc 0 _ rfl)
            simp only [Nat.add_zero] at k0
            have k1 := hg.cell (hc 1 _ rfl)
            have k2 : wr.cell? ⟨b8, o8 + k * 12 + 2, none⟩ = some (.int .i64 op) := hg.cell (hc 2 _ rfl)
            have k3 : wr.cell? ⟨b8, o8 + k * 12 + 3, none⟩ = some (.int .i64 ps) := hg.cell (hc 3 _ rfl)
            have k4 : wr.cell? ⟨b8, o8 + k * 12 + 4, none⟩ = some (.int .u64 (wd s1 0)) := hg.cell (hc 4 _ rfl)
            have k5 : wr.cell? ⟨b8, o8 + k * 12 + 5, none⟩ = some (.int .u64 (wd s1 1)) := hg.cell (hc 5 _ rfl)
            have k6 : wr.cell? ⟨b8, o8 + k * 12 + 6, none⟩ = some (.int .u64 (wd s1 2)) := hg.cell (hc 6 _ rfl)
            have k7 : wr.cell? ⟨b8, o8 + k * 12 + 7, none⟩ = some (.int .u64 (wd s1 3)) := hg.cell (hc 7 _ rfl)
            have k8 : wr.cell? ⟨b8, o8 + k * 12 + 8, none⟩ = some (.string tx) := hg.cell (hc 8 _ rfl)
            have k9 : wr.cell? ⟨b8, o8 + k * 12 + 9, none⟩ = some (.int .i64 mnx) := hg.cell (hc 9 _ rfl)
            have k10 : wr.cell? ⟨b8, o8 + k * 12 + 10, none⟩ = some (.int .i64 mx) := hg.cell (hc 10 _ rfl)
            have k11 : wr.cell? ⟨b8, o8 + k * 12 + 11, none⟩ = some (.slice p1 n1 c1x) := hg.cell (hc 11 _ rfl)
            have xf := XF.out.later HG.out
            have kn := HG.out.cell HCN.out
            have hbn := Nat.lt_of_lt_of_le HBN.out HG.out.size
            simp only [Nat.add_zero] at kn
            have HST := Lib.hid (cnt_flat s.defs thingsD (nam, pl) k d hsd)
            rw [cnt_D] at HST
            have hlen := cnt_flat_le s.defs thingsD (nam, pl) (k + 1)
            rw [HCD.out] at hlen
            obtain ⟨mn, mp, ex⟩ := d
            have HEI := Lib.hid (eqI mp pl)
            have HET := Lib.hid (eqT mn nam)
            dsimp only at HST HRF k0 k1
            obtain ⟨c1, hc1⟩ : ∃ c, oneN (decide (mp = pl) && decide (mn = nam)) = c := ⟨_, rfl⟩
            obtain ⟨c2, hc2⟩ : ∃ c, cntN (refsE ex) (nam, pl) = c := ⟨_, rfl⟩
            rw [hc1, hc2] at HST
            rw [hc2] at HRF
            unfold exCells at HRF
            try dsimp only at HRF
            have HC1 := Lib.hid hc1
            have hm2 : m + c1 + c2 ≤ 2097152 := by
              have h1 := HST.out
              have h2 := HM.out
              have h3 := HTB.out
              omega
            have hw : IntKind.i64.wrap ((m : Int) + (c1 : Int)) = (m : Int) + (c1 : Int) := IntWalk.i64_in _ (by omega)
            have hw2 : IntKind.i64.wrap ((m : Int) + (c1 : Int) + (c2 : Int)) = (m : Int) + (c1 : Int) + (c2 : Int) := IntWalk.i64_in _ (by omega)
            have HM2 := Lib.hid (show m + c1 + c2 = cM + cntN ((s.defs.take (k + 1)).flatMap thingsD) (nam, pl) by rw [HST.out, HM.out]; omega)
            have HGW := Lib.hid hg
            clear hlen hc1 hc2 hx hk hkn hD hc hb8 hg hsd hee hnn hpp
            go_upto_region 17 with fail
            refine r17_any wr sb fb b8 o8 bn on k m c1 c2 nd cd cn _ _ nam mn pl mp op ps s1 tx mnx mx p1 n1 c1x xs xf k0 k1 k2 k3 k4 k5 k6 k7 k8 k9 k10 k11 kn hbr hbn hkI hnd2 hm2 HC1.out (fun W hG => HRF.out W (HGW.out.trans hG)) _ _ _ _ _ _ _ _ _ _ _ _ _ _ _ _ _ _ _ _ _ _ _ _ _ _ _ _ _ _ _ _ _ _ _ _ _ _ _ _ _ _ _ _ _ _ _ _ _ _ _ _ _ _ _ _ _ _ _ _ _ _ _ _ _ _ _ _ _ _ _ _ _ _ _ _ _ _ _ _ _ _ _ _ _ _ _ _ _ _ _ _ _ _ _ _ _ _ _ _ _ _ _ _ _ _ _ _ _ _ _ _ _ _ _ _ _ _ _ _ _ _ _ _ _ _ _ _ _ _ _ _ _ _ _ _ _ _ _ _ _ _ _ _ _ _ _ _ _ _ _ _ _ _ _ _ _ _ _ _ _ _ _ _ _ _ _ _ _ _ _ _ _ _ _ _ _ _ _ _ _ _ _ _ _ _ _ _ _ _ _ _ _ _ _ _ _ _ _ _ _ _ _ _ _ _ _ _ _ _ _ _ _ _ _ _ _ _ _ _ _ _ _ _ _ _ _ _ _ _ _ _ _ _ _ _ _ _ _ _ _ _ _ _ _ ?_
            intros
            rename_i hG
            have HGQ := Lib.hid (HG.out.trans hG)
            clear c_s0 c_s1 c_s2 m_s0 m_s1 m_s2 l_s
            clear hG xf xs k0 k1 k2 k3 k4 k5 k6 k7 k8 k9 k10 k11 kn
            go_wp2_with fail
            go_roundw
            case rel => exact ⟨k + 1, m + c1 + c2, HKN.out, hm2, by go_num, by go_num, HGQ, HM2⟩
            case measure => have := HKN.out; simp [intOf]; omega
          · have hkI : ¬ (k : Int) < (nd : Int) := by omega
            have HMD := Lib.hid (show m = cM + cD by
              rw [HM.out, ← HCD.out, List.take_of_length_le (by rw [← HHD.out, List.length_map, HND.out]; omega)])
            clear hk hkn
            go_wp2_with fail
            clear c_s0 c_s1 c_s2 m_s0 m_s1 m_s2 l_s
            clear xs
            go_loopw [6, 9] (fun n i wr => ∃ (k m : Nat), k ≤ nr ∧ m ≤ 2097152 ∧ n = .int .i64 (m : Int) ∧ i = .int .i64 (k : Int) ∧ Hid (Gr W6 wr) ∧ Hid (m = cM + cD + cntN ((s.rules.take k).flatMap thingsR) (nam, pl))) (fun _ i _ => nr - (intOf i).toNat)
            case atStart => exact ⟨0, m, Nat.zero_le _, hm, rfl, rfl, HG, Lib.hid HMD.out⟩
            case round =>
              clear HG HM HMD
              obtain ⟨k, m, hk, hm, rfl, rfl, HG, HM⟩ := hrel
              have xs := XS6.out.later HG.out
              have c_s0 := xs.cell 0 _ rfl
              have c_s1 := xs.cell 1 _ rfl
              have c_s2 := xs.cell 2 _ rfl
              have m_s0 := xs.mark 0 _ rfl
              have m_s1 := xs.mark 1 _ rfl
              have m_s2 := xs.mark 2 _ rfl
              have l_s := xs.lt (Nat.succ_pos _)
              rcases Nat.lt_or_ge k nr with hkn | hkn
              · have hkI : (k : Int) < (nr : Int) := by omega
                have HKN := Lib.hid hkn
                have hnr2 : (nr : Int) ≤ 200 := by have h1 := HSP.out.2.2; rw [← HHR.out, List.length_map, HNR.out] at h1; omega
                obtain ⟨⟨r, cs⟩, hx⟩ : ∃ x, rl[k]? = some x := ⟨_, List.getElem?_eq_getElem (by rw [HNR.out]; exact hkn)⟩
                have hg := HG6.out.trans HG.out
                have hD := HR.out
                obtain ⟨b8, o8, hp8, hb8, hc⟩ := elem_at hD (fun x hx => (HRI.out x hx).len) HNR.out hx
                have hok := HRI.out _ (List.mem_of_getElem? hx)
                have hsr : s.rules[k]? = some r := by rw [← HHR.out, List.getElem?_map, hx]; rfl
                dsimp only at hok hc
                have HWE := Lib.hid (HWR.out r (List.mem_of_getElem? hsr))
                obtain ⟨po, al, pum, num, cum, op, ps, s1, tx, mn, mx, p1x, n1, c1x, ht, op2, ps2, s2, tx2, mn2, mx2, p2x, n2, c2x, lb, pua, nua, cua, hcs, hE1, hE2, hmm, hma, hsm, hsa, hmo, hao, hmb, hab⟩ := hok.formE
                have HRF1 := Lib.hid (fun W (hG : Gr w W) => refs6_any nam pl _ r.head (Nat.le_refl _) _ W (hE1.later hG) HWE.out.1)
                have HRF2 := Lib.hid (fun W (hG : Gr w W) => refs6_any nam pl _ r.trail (Nat.le_refl _) _ W (hE2.later hG) HWE.out.2)
                subst hcs
                subst hp8
                have HCELL := Lib.hid (fun t u (h : ([.int .i64 po, .bool al, .slice pum num cum, .int .i64 op, .int .i64 ps, .int .u64 (wd s1 0), .int .u64 (wd s1 1), .int .u64 (wd s1 2), .int .u64 (wd s1 3), .string tx, .int .i64 mn, .int .i64 mx, .slice p1x n1 c1x, .bool ht, .int .i64 op2, .int .i64 ps2, .int .u64 (wd s2 0), .int .u64 (wd s2 1), .int .u64 (wd s2 2), .int .u64 (wd s2 3), .string tx2, .int .i64 mn2, .int .i64 mx2, .slice p2x n2 c2x, .string lb, .slice pua nua cua] : List Value)[t]? = some u) => hg.cell (hc t u h))
                have hbr := Nat.lt_of_lt_of_le hb8 hg.size
                have HMM := Lib.hid hmm
                have HMA := Lib.hid hma
                have HUM := Lib.hid hsm
                have HUA := Lib.hid hsa
                have hmb2 : (num : Int) ≤ 9223372036854775806 := by omega
                have hab2 : (nua : Int) ≤ 9223372036854775806 := by omega
                have HST0 := Lib.hid (cnt_flat s.rules thingsR (nam, pl) k r hsr)
                rw [cnt_R] at HST0
                have hlen0 := cnt_flat_le s.rules thingsR (nam, pl) (k + 1)
                rw [HCR.out] at hlen0
                obtain ⟨h1c, hh1⟩ : ∃ c, cntN (refsE r.head) (nam, pl) = c := ⟨_, rfl⟩
                obtain ⟨h2c, hh2⟩ : ∃ c, cntN (refsE r.trail) (nam, pl) = c := ⟨_, rfl⟩
                obtain ⟨cu, hcu⟩ : ∃ c, cntN (r.modes.map usN) (nam, pl) = c := ⟨_, rfl⟩
                obtain ⟨ca, hca⟩ : ∃ c, cntN (r.acts.map fun a => usN a.mode) (nam, pl) = c := ⟨_, rfl⟩
                have HCU := Lib.hid hcu
                have HCA := Lib.hid hca
                rw [hh1] at HRF1
                rw [hh2] at HRF2
                rw [hh1, hh2, hcu, hca] at HST0
                have HBB := Lib.hid (show m + h1c + h2c + cu + ca ≤ 2097152 by
                  have h1 := HST0.out
                  have h2 := HM.out
                  have h3 := HTB.out
                  omega)
                have HME0 := Lib.hid (show m + h1c + h2c + cu + ca = cM + cD + cntN ((s.rules.take (k + 1)).flatMap thingsR) (nam, pl) by rw [HST0.out, HM.out]; omega)
                have hb12 : m + h1c + h2c ≤ 2097152 := by have := HBB.out; omega
                have hw : IntKind.i64.wrap ((m : Int) + (h1c : Int)) = (m : Int) + (h1c : Int) := IntWalk.i64_in _ (by omega)
                have hw2 : IntKind.i64.wrap ((m : Int) + (h1c : Int) + (h2c : Int)) = (m : Int) + (h1c : Int) + (h2c : Int) := IntWalk.i64_in _ (by omega)
                have HGW := Lib.hid hg
                have HGA := Lib.hid HG.out
                clear hlen0 hh1 hh2 hcu hca hx hok hk hkn hc hD hb8 hg hmm hma hsm hsa hmo hao hmb hab hsr hE1 hE2 HST0 HM HG
                go_upto_region 22 with (first | ((with_reducible refine wpList_plain ?_ (fun _ hK => ?_)); (focus rfl); refine wp_load_at 71 (.tmp 154) rfl b8 (o8 + k * 26) rfl [.int .i64 po, .bool al, .slice pum num cum, .int .i64 op, .int .i64 ps, .int .u64 (wd s1 0), .int .u64 (wd s1 1), .int .u64 (wd s1 2), .int .u64 (wd s1 3), .string tx, .int .i64 mn, .int .i64 mx, .slice p1x n1 c1x, .bool ht, .int .i64 op2, .int .i64 ps2, .int .u64 (wd s2 0), .int .u64 (wd s2 1), .int .u64 (wd s2 2), .int .u64 (wd s2 3), .string tx2, .int .i64 mn2, .int .i64 mx2, .slice p2x n2 c2x, .string lb, .slice pua nua cua] _ HCELL.out Tryz.underlying71 rfl (by kernel_rfl) (hK _ _ ?_)) | ((with_reducible refine wpList_plain ?_ (fun _ hK => ?_)); (focus rfl); refine wp_store_row 71 (.tmp 10) (.tmp 155) rfl wr.heap.size #[.int .i64 po, .bool al, .slice pum num cum, .int .i64 op, .int .i64 ps, .int .u64 (wd s1 0), .int .u64 (wd s1 1), .int .u64 (wd s1 2), .int .u64 (wd s1 3), .string tx, .int .i64 mn, .int .i64 mx, .slice p1x n1 c1x, .bool ht, .int .i64 op2, .int .i64 ps2, .int .u64 (wd s2 0), .int .u64 (wd s2 1), .int .u64 (wd s2 2), .int .u64 (wd s2 3), .string tx2, .int .i64 mn2, .int .i64 mx2, .slice p2x n2 c2x, .string lb, .slice pua nua cua] rfl rfl 71 _ (heap_alloc_new wr _) (by kernel_rfl) rfl (all_ones _ rfl) (hK _ _ ?_); clear hK; refine name_wpList (fun xc_w hxc => ?_); obtain ⟨xc, xc_g, xc_s⟩ := new_row (cs := [.int .i64 po, .bool al, .slice pum num cum, .int .i64 op, .int .i64 ps, .int .u64 (wd s1 0), .int .u64 (wd s1 1), .int .u64 (wd s1 2), .int .u64 (wd s1 3), .string tx, .int .i64 mn, .int .i64 mx, .slice p1x n1 c1x, .bool ht, .int .i64 op2, .int .i64 ps2, .int .u64 (wd s2 0), .int .u64 (wd s2 1), .int .u64 (wd s2 2), .int .u64 (wd s2 3), .string tx2, .int .i64 mn2, .int .i64 mx2, .slice p2x n2 c2x, .string lb, .slice pua nua cua]) hxc; clear hxc; have xc_h := boxAt.row xc))
                have HXC := Lib.hid xc
                obtain ⟨rb, hrb⟩ : ∃ b, wr.heap.size = b := ⟨_, rfl⟩
                rw [hrb] at HXC
                simp only [hrb]
                have HGX := Lib.hid (HGW.out.trans xc_g)
                have HGXS := Lib.hid (HGA.out.trans xc_g)
                clear c_s0 c_s1 c_s2 m_s0 m_s1 m_s2 l_s
                clear xc_h xc_s xc_g hrb xs HCELL hbr xc
                try dsimp only [Act.put]
                have xr := HXC.out
                have xf := XF.out.later HGXS.out
                have kn := HGXS.out.cell HCN.out
                have hbn := Nat.lt_of_lt_of_le HBN.out HGXS.out.size
                simp only [Nat.add_zero] at kn
                go_cut [6] from 156 to 176 (fun v wx => v = .int .i64 ((m + h1c + h2c : Nat) : Int) ∧ Gr xc_w wx)
                case first =>
                  refine r22_any xc_w rb fb m h1c h2c nam pl bn on cn hb12 xr xf kn hbn (fun W hG => HRF1.out W (HGX.out.trans hG)) (fun W hG => HRF2.out W (HGX.out.trans hG)) _ _ _ _ _ _ _ _ _ _ _ _ _ _ _ _ _ _ _ _ _ _ _ _ _ _ _ _ _ _ _ _ _ _ _ _ _ _ _ _ _ _ _ _ _ _ _ _ _ _ _ _ _ _ _ _ _ _ _ _ _ _ _ _ _ _ _ _ _ _ _ _ _ _ _ _ _ _ _ _ _ _ _ _ _ _ _ _ _ _ _ _ _ _ _ _ _ _ _ _ _ _ _ _ _ _ _ _ _ _ _ _ _ _ _ _ _ _ _ _ _ _ _ _ _ _ _ _ _ _ _ _ _ _ _ _ _ _ _ _ _ _ _ _ _ _ _ _ _ _ _ _ _ _ _ _ _ _ _ _ _ _ _ _ _ _ _ _ _ _ _ _ _ _ _ _ _ _ _ _ _ _ _ _ _ _ _ _ _ _ _ _ _ _ _ _ _ _ _ _ _ _ _ _ _ _ _ _ _ _ _ _ _ _ _ _ _ _ _ _ _ _ _ _ _ _ _ _ _ _ _ _ _ _ _ _ _ _ _ _ _ _ _ _ _ _ _ ?_
                  intros
                  rename_i hG
                  go_wp2_with fail
                  go_meet
                  case rel => exact ⟨by go_num, hG⟩
                case rest =>
                obtain ⟨rfl, hgc⟩ := hcut
                have HGC := Lib.hid hgc
                clear hgc xr xf kn hbn HRF1 HRF2 hw hw2
                have xr := HXC.out.later HGC.out
                have y2 := xr.cell 2 _ rfl
                have yl := xr.lt (Nat.succ_pos _)
                go_wp2_with fail
                clear xr y2 yl
                obtain ⟨mm0, hmm0⟩ : ∃ x, m + h1c + h2c = x := ⟨_, rfl⟩
                rw [hmm0] at HBB HME0 hb12 ⊢
                clear hmm0
                go_loopw [6, 11] (fun n i wr => ∃ (j m : Nat), j ≤ num ∧ m ≤ 2097152 ∧ n = .int .i64 (m : Int) ∧ i = .int .i64 (j : Int) ∧ Hid (Gr xc_w wr) ∧ Hid (m = mm0 + cntN ((r.modes.take j).map usN) (nam, pl))) (fun _ i _ => num - (intOf i).toNat)
                case atStart => exact ⟨0, _, Nat.zero_le _, hb12, rfl, rfl, HGC, Lib.hid (by simp [cntN])⟩
                case round =>
                  clear HGC
                  obtain ⟨j, m, hj, hm, rfl, rfl, HGJ, HMJ⟩ := hrel
                  have xr := HXC.out.later HGJ.out
                  have y2 := xr.cell 2 _ rfl
                  have yl := xr.lt (Nat.succ_pos _)
                  rcases Nat.lt_or_ge j num with hjn | hjn
                  · have hjI : (j : Int) < (num : Int) := by omega
                    have HJN := Lib.hid hjn
                    obtain ⟨⟨mn8, mp⟩, hx⟩ : ∃ x, r.modes[j]? = some x := ⟨_, List.getElem?_eq_getElem (by rw [HMM.out]; exact hjn)⟩
                    have hD := HUM.out
                    obtain ⟨b4, o4, hp4, hb4, hc4⟩ := use_at hD hx
                    subst hp4
                    have hg := HGX.out.trans HGJ.out
                    have a1 := hg.cell (hc4 0 _ rfl)
                    have a2 := hg.cell (hc4 1 _ rfl)
                    try simp only [Nat.add_zero] at a1
                    have hbu := Nat.lt_of_lt_of_le hb4 hg.size
                    have HG6J := Lib.hid (HGXS.out.trans HGJ.out)
                    have xf := XF.out.later HG6J.out
                    have kn := HG6J.out.cell HCN.out
                    have hbn := Nat.lt_of_lt_of_le HBN.out HG6J.out.size
                    simp only [Nat.add_zero] at kn
                    have HST := Lib.hid (cnt_map r.modes usN (nam, pl) j _ hx)
                    have hlen := cnt_map_le r.modes usN (nam, pl) (j + 1)
                    rw [HCU.out] at hlen
                    unfold usN at HST
                    dsimp only at HST
                    have HEI := Lib.hid (eqI mp pl)
                    have HET := Lib.hid (eqT mn8 nam)
                    obtain ⟨c1, hc1⟩ : ∃ c, oneN (decide (mp = pl) && decide (mn8 = nam)) = c := ⟨_, rfl⟩
                    rw [hc1] at HST
                    have HC1 := Lib.hid hc1
                    have hm2 : m + c1 ≤ 2097152 := by
                      have h1 := HST.out
                      have h2 := HMJ.out
                      have h3 := HBB.out
                      unfold usN at h2 hlen
                      omega
                    have hw : IntKind.i64.wrap ((m : Int) + (c1 : Int)) = (m : Int) + (c1 : Int) := IntWalk.i64_in _ (by omega)
                    have HM2 := Lib.hid (show m + c1 = mm0 + cntN ((r.modes.take (j + 1)).map usN) (nam, pl) by
                      have h1 := HST.out
                      have h2 := HMJ.out
                      unfold usN at h2 ⊢
                      omega)
                    clear hlen hc1 hx hj hjn hD hc4 hb4 hg
                    go_upto_region 26 with fail
                    refine r26_any wr rb fb b4 o4 bn on j m c1 num cum cn nam mn8 pl mp y2 yl xf a1 a2 kn hbu hbn hjI hmb2 hm2 HC1.out _ _ _ _ _ _ _ _ _ _ _ _ _ _ _ _ _ _ _ _ _ _ _ _ _ _ _ _ _ _ _ _ _ _ _ _ _ _ _ _ _ _ _ _ _ _ _ _ _ _ _ _ _ _ _ _ _ _ _ _ _ _ _ _ _ _ _ _ _ _ _ _ _ _ _ _ _ _ _ _ _ _ _ _ _ _ _ _ _ _ _ _ _ _ _ _ _ _ _ _ _ _ _ _ _ _ _ _ _ _ _ _ _ _ _ _ _ _ _ _ _ _ _ _ _ _ _ _ _ _ _ _ _ _ _ _ _ _ _ _ _ _ _ _ _ _ _ _ _ _ _ _ _ _ _ _ _ _ _ _ _ _ _ _ _ _ _ _ _ _ _ _ _ _ _ _ _ _ _ _ _ _ _ _ _ _ _ _ _ _ _ _ _ _ _ _ _ _ _ _ _ _ _ _ _ _ _ _ _ _ _ _ _ _ _ _ _ _ _ _ _ _ _ _ _ _ _ _ _ _ _ _ _ _ _ _ _ _ _ _ _ _ _ _ _ ?_
                    intros
                    rename_i hG
                    have HGQ := Lib.hid (HGJ.out.trans hG)
                    clear hG xf xr y2 yl a1 a2 kn
                    go_wp2_with fail
                    go_roundw
                    case rel => exact ⟨j + 1, m + c1, HJN.out, hm2, by go_num, by go_num, HGQ, HM2⟩
                    case measure => have := HJN.out; simp [intOf]; omega
                  · have hjI : ¬ (j : Int) < (num : Int) := by omega
                    have HME := Lib.hid (show m = mm0 + cu by
                      rw [HMJ.out, ← HCU.out, List.take_of_length_le (by rw [HMM.out]; omega)])
                    clear hj hjn
                    have y25 := xr.cell 25 _ rfl
                    go_wp2_with fail
                    clear xr y2 yl y25
                    go_loopw [6, 12] (fun n i wr => ∃ (j m : Nat), j ≤ nua ∧ m ≤ 2097152 ∧ n = .int .i64 (m : Int) ∧ i = .int .i64 (j : Int) ∧ Hid (Gr xc_w wr) ∧ Hid (m = mm0 + cu + cntN ((r.acts.take j).map (fun a => usN a.mode)) (nam, pl))) (fun _ i _ => nua - (intOf i).toNat)
                    case atStart => exact ⟨0, _, Nat.zero_le _, hm, rfl, rfl, HGJ, Lib.hid (by rw [HME.out]; simp [cntN])⟩
                    case round =>
                      clear HGJ HMJ HME
                      obtain ⟨j, m, hj, hm, rfl, rfl, HGJ, HMJ⟩ := hrel
                      have xr := HXC.out.later HGJ.out
                      have y25 := xr.cell 25 _ rfl
                      have yl := xr.lt (Nat.succ_pos _)
                      rcases Nat.lt_or_ge j nua with hjn | hjn
                      · have hjI : (j : Int) < (nua : Int) := by omega
                        have HJN := Lib.hid hjn
                        obtain ⟨⟨doo, mn8, mp⟩, hx⟩ : ∃ x, r.acts[j]? = some x := ⟨_, List.getElem?_eq_getElem (by rw [HMA.out]; exact hjn)⟩
                        have hD := HUA.out
                        obtain ⟨b4, o4, hp4, hb4, hc4⟩ := act_at hD hx
                        subst hp4
                        have hg := HGX.out.trans HGJ.out
                        have a1 := hg.cell (hc4 1 _ rfl)
                        have a2 := hg.cell (hc4 2 _ rfl)
                        try simp only [Nat.add_zero] at a1
                        have hbu := Nat.lt_of_lt_of_le hb4 hg.size
                        have HG6J := Lib.hid (HGXS.out.trans HGJ.out)
                        have xf := XF.out.later HG6J.out
                        have kn := HG6J.out.cell HCN.out
                        have hbn := Nat.lt_of_lt_of_le HBN.out HG6J.out.size
                        simp only [Nat.add_zero] at kn
                        have HST := Lib.hid (cnt_map r.acts (fun a => usN a.mode) (nam, pl) j _ hx)
                        have hlen := cnt_map_le r.acts (fun a => usN a.mode) (nam, pl) (j + 1)
                        rw [HCA.out] at hlen
                        unfold usN at HST
                        dsimp only at HST
                        have HEI := Lib.hid (eqI mp pl)
                        have HET := Lib.hid (eqT mn8 nam)
                        obtain ⟨c1, hc1⟩ : ∃ c, oneN (decide (mp = pl) && decide (mn8 = nam)) = c := ⟨_, rfl⟩
                        rw [hc1] at HST
                        have HC1 := Lib.hid hc1
                        have hm2 : m + c1 ≤ 2097152 := by
                          have h1 := HST.out
                          have h2 := HMJ.out
                          have h3 := HBB.out
                          unfold usN at h2 hlen
                          omega
                        have hw : IntKind.i64.wrap ((m : Int) + (c1 : Int)) = (m : Int) + (c1 : Int) := IntWalk.i64_in _ (by omega)
                        have HM2 := Lib.hid (show m + c1 = mm0 + cu + cntN ((r.acts.take (j + 1)).map (fun a => usN a.mode)) (nam, pl) by
                          have h1 := HST.out
                          have h2 := HMJ.out
                          unfold usN at h2 ⊢
                          omega)
                        clear hlen hc1 hx hj hjn hD hc4 hb4 hg
                        go_upto_region 30 with fail
                        refine r30_any wr rb fb b4 o4 bn on j m c1 nua cua cn nam mn8 pl mp y25 yl xf a1 a2 kn hbu hbn hjI hab2 hm2 HC1.out _ _ _ _ _ _ _ _ _ _ _ _ _ _ _ _ _ _ _ _ _ _ _ _ _ _ _ _ _ _ _ _ _ _ _ _ _ _ _ _ _ _ _ _ _ _ _ _ _ _ _ _ _ _ _ _ _ _ _ _ _ _ _ _ _ _ _ _ _ _ _ _ _ _ _ _ _ _ _ _ _ _ _ _ _ _ _ _ _ _ _ _ _ _ _ _ _ _ _ _ _ _ _ _ _ _ _ _ _ _ _ _ _ _ _ _ _ _ _ _ _ _ _ _ _ _ _ _ _ _ _ _ _ _ _ _ _ _ _ _ _ _ _ _ _ _ _ _ _ _ _ _ _ _ _ _ _ _ _ _ _ _ _ _ _ _ _ _ _ _ _ _ _ _ _ _ _ _ _ _ _ _ _ _ _ _ _ _ _ _ _ _ _ _ _ _ _ _ _ _ _ _ _ _ _ _ _ _ _ _ _ _ _ _ _ _ _ _ _ _ _ _ _ _ _ _ _ _ _ _ _ _ _ _ _ _ _ _ _ _ _ _ _ _ _ ?_
                        intros
                        rename_i hG
                        have HGQ := Lib.hid (HGJ.out.trans hG)
                        clear hG xf xr y25 yl a1 a2 kn
                        go_wp2_with fail
                        go_roundw
                        case rel => exact ⟨j + 1, m + c1, HJN.out, hm2, by go_num, by go_num, HGQ, HM2⟩
                        case measure => have := HJN.out; simp [intOf]; omega
                      · have hjI : ¬ (j : Int) < (nua : Int) := by omega
                        have HME := Lib.hid (show m = mm0 + cu + ca by
                          rw [HMJ.out, ← HCA.out, List.take_of_length_le (by rw [HMA.out]; omega)])
                        clear hj hjn
                        go_wp2_with fail
                        clear xr y25 yl
                        have HGQ := Lib.hid (HGXS.out.trans HGJ.out)
                        go_roundw
                        case rel => exact ⟨k + 1, m, HKN.out, hm, by go_num, by go_num, HGQ, Lib.hid (by rw [HME.out]; exact HME0.out)⟩
                        case measure => have := HKN.out; simp [intOf]; omega
              · have hkI : ¬ (k : Int) < (nr : Int) := by omega
                have hm0 : (0 : Int) < (m : Int) := by
                  have h1 := HM.out
                  rw [List.take_of_length_le (by rw [← HHR.out, List.length_map, HNR.out]; omega), HCR.out] at h1
                  have h2 := HCT.out
                  have h3 := HPO.out
                  omega
                clear hk hkn
                go_wp2_with fail
                go_at_call 21
                (with_reducible refine (HWK.out wr (HG6.out.trans HG.out)).mono ?_); rintro e w9 ⟨rfl, hg9⟩
                go_wp2_with fail
                go_ret
                exact ⟨rfl, (HG6.out.trans HG.out).trans hg9⟩
end Go.Proofs.YtkkopdmemjncdaaGreatDoor
