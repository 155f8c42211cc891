/- Texts of mine, put together: NmV. No condition but what each says. -/
import Derived.Test.YtkkopdmemjncdaaGreatDoorPNmC
namespace Go.Proofs.YtkkopdmemjncdaaGreatDoor
open Go Go.RowKit Go.Maps
set_option maxRecDepth 100000 in
set_option maxHeartbeats 4000000 in
theorem active1_any (w : World) (fb qf qm mm nM : Nat) (c0 c1 c2 c4 c5 bv : Value) (kk m : Int) (f : ByteArray → Option Int) (hf : boxAt w qf [.pointer (some ⟨fb, 0, none⟩)]) (hq : boxAt w qm [.int .i64 m]) (hb : boxAt w fb [c0, c1, c2, .map (some mm), c4, c5, bv, .int .i64 kk]) (hm : MapF w mm nM f)
  (u : Us) (hsz : u.name.size ≤ maxLen) :
  Calls Tryz.prog 88 #[.agg #[.string u.name, .int .i64 u.pos], .pointer (some ⟨qf, 0, none⟩), .pointer (some ⟨qm, 0, none⟩)] w fun e w' => e = .returned (.bool (decide ((f u.name).getD 0 = m))) ∧ Gr w w' := by
 obtain ⟨nm, po⟩ := u
 dsimp only at hsz ⊢
 have HSZ := Lib.hid hsz
 have HM := Lib.hid hm
 obtain ⟨c, hc⟩ : ∃ c, (f nm).getD 0 = c := ⟨_, rfl⟩
 have HC := Lib.hid hc
 rw [hc]
 have xq := hf
 have xm := hq
 have xf := hb
 clear hm hsz hc hf hq hb
 go_enter Tryz.func88, Tryz.ntmps88
 go_wp2_with fail
 refine name_world (fun W hW => ?_)
 have xe : boxAt W w.heap.size [.string nm, .int .i64 po] := by rw [hW]; exact boxAt.new_atN _ _ _ rfl rfl
 have hgW : Gr w W := by rw [hW]; exact Gr.alloc _ _
 have HGW := Lib.hid hgW
 have HM1 := Lib.hid (HM.out.later hgW)
 replace xq := xq.later hgW
 replace xm := xm.later hgW
 replace xf := xf.later hgW
 clear hW hgW
 obtain ⟨c_e0, c_e1, m_e0, m_e1, l_e⟩ := unb2 xe
 have c_q0 := xq.cell 0 _ rfl
 have m_q0 := xq.mark 0 _ rfl
 have l_q := xq.lt (Nat.succ_pos _)
 have c_m0 := xm.cell 0 _ rfl
 have m_m0 := xm.mark 0 _ rfl
 have l_m := xm.lt (Nat.succ_pos _)
 obtain ⟨c_f0, c_f1, c_f2, c_f3, c_f4, c_f5, c_f6, c_f7, m_f0, m_f1, m_f2, m_f3, m_f4, m_f5, m_f6, m_f7, l_f⟩ := unb8 xf
 refine wp_region_G (.take 0 (.take 1 (.take 2 (.take 3 (.take 4 (.take 5 (.take 7 (.run 6 false (.take 8 (.run 9 true .nil)))))))))) (by kernel_rfl) (by kernel_rfl) ?_
 simp only [pickOps, nthOp]
 intro wq hG
 repeat (first | (refine wpG_skip_take ?_ ?_; (focus rfl); try simp only [Act.put, List.setIfInBounds_toArray, List.set_cons_zero, List.set_cons_succ]) | (refine wpG_skip_run ?_ ?_; (focus rfl); try simp only [Act.put, List.setIfInBounds_toArray, List.set_cons_zero, List.set_cons_succ]) | (refine wpG_run ?_ (fun K hK => ?_); (focus rfl); have hrun := (HM1.out.later hG).look1 HSZ.out HC.out; go_simp; clear hrun; (try dsimp only); refine hK.out _ _ hG ?_; clear hK K; try simp only [Act.put, List.setIfInBounds_toArray, List.set_cons_zero, List.set_cons_succ]) | (refine wpG_take ?_ ?_; (focus rfl); apply Exists.intro; refine ⟨fun w' hw' => ?_, ?_⟩; (focus (have hc := Gr.cells hw'; go_simp; (try rfl); done)); try simp only [Act.put, List.setIfInBounds_toArray, List.set_cons_zero, List.set_cons_succ]))
 all_goals
  refine wpG_last ?_ (fun K hK => ?_); (focus rfl)
  have hc := hG.cells
  have hm := hG.marks
  go_simp
  refine hK.out _ _ ?_
  try simp only [Act.put, List.setIfInBounds_toArray, List.set_cons_zero, List.set_cons_succ]
  clear hK K hc hm
  refine wpG_done ?_
  have HG2 := Lib.hid (HGW.out.trans hG)
  clear hG
  go_wp2_with fail
  go_ret
  exact ⟨ret_bool (by first | rfl | simp), HG2.out⟩
set_option maxRecDepth 100000 in
set_option maxHeartbeats 2000000 in
theorem
    indexF_act1 (l : List Us) (p : Option Addr) (c : Nat) (w : World) (fb qf qm mm nM : Nat) (c0 c1 c2 c4 c5 bv : Value) (kk m : Int) (f : ByteArray → Option Int) (hf : boxAt w qf [.pointer (some ⟨fb, 0, none⟩)]) (hq : boxAt w qm [.int .i64 m]) (hb : boxAt w fb [c0, c1, c2, .map (some mm), c4, c5, bv, .int .i64 kk]) (hm : MapF w mm nM f)
  (h : Sl w (.slice p l.length c) 2 l.length (l.flatMap usC)) (ho : ∀ u ∈ l, UsOk u) :
  Calls Tryz.prog 113 #[.slice p l.length c, .func (.func 88) #[] #[.pointer (some ⟨qf, 0, none⟩), .pointer (some ⟨qm, 0, none⟩)]] w fun e w' => (∃ k : Int, e = .returned (.int .i64 k) ∧ decide (0 ≤ k) = l.any fun u => decide ((f u.name).getD 0 = m)) ∧ Gr w w' := by
 have hmx := h.2.1
 unfold maxLen at hmx
 have H := Lib.hid h
 have HO := Lib.hid (fun (x : Us) (hx : x ∈ l) (w' : World) (hG : Gr w w') => active1_any w' fb qf qm mm nM c0 c1 c2 c4 c5 bv kk m f (hf.later hG) (hq.later hG) (hb.later hG) (hm.later hG) x (ho x hx).1)
 obtain ⟨n, hn⟩ : ∃ n, l.length = n := ⟨_, rfl⟩
 have HN := Lib.hid hn
 rw [hn] at H hmx ⊢
 clear h ho hn hf hq hb hm
 go_enter Tryz.func113, Tryz.ntmps113
 go_wp2_with fail
 go_loopw [8] (fun i wr => ∃ k : Nat, k ≤ n ∧ i = .int .i64 (k : Int) ∧ Gr w wr ∧ Hid ((l.take k).any (fun u => decide ((f u.name).getD 0 = m)) = false)) (fun i _ => n - (intOf i).toNat)
 case atStart => exact ⟨0, Nat.zero_le _, rfl, Gr.refl _, Lib.hid rfl⟩
 case round =>
  obtain ⟨k, hk, rfl, hg, HA⟩ := hrel
  cases hx : l[k]? with
  |
   none =>
   have hkl : ¬ (k : Int) < (n : Int) := by
    rcases Nat.lt_or_ge k l.length with h | h
    · rw [List.getElem?_eq_getElem h] at hx; cases hx
    · have := HN.out; omega
   have HA2 := Lib.hid (show l.any (fun u => decide ((f u.name).getD 0 = m)) = false by have := HA.out; rw [List.take_of_length_le (by have := HN.out; omega)] at this; exact this)
   clear hx hk HA
   go_wp2_with fail
   go_ret
   exact ⟨⟨-1, rfl, by rw [HA2.out]; rfl⟩, hg⟩
  |
   some x =>
   have hkl : k < l.length := (List.getElem?_eq_some_iff.1 hx).1
   have hkn : k < n := by rw [← HN.out]; exact hkl
   obtain ⟨b, off, rfl, hb, hc⟩ := use_at (HN.out.symm ▸ H.out) hx
   have HL := Lib.hid (HO.out x (List.mem_of_getElem? hx))
   obtain ⟨nm, po⟩ := x
   have k0 : wr.cell? ⟨b, off + k * 2, none⟩ = some (.string nm) := hg.cell (hc 0 _ rfl)
   have k1 : wr.cell? ⟨b, off + k * 2 + 1, none⟩ = some (.int .i64 po) := hg.cell (hc 1 _ rfl)
   have hbr := Nat.lt_of_lt_of_le hb hg.size
   have HX := Lib.hid hx
   have HKN := Lib.hid hkn
   have hkI : (k : Int) < (n : Int) := by omega
   dsimp only at HL
   clear hx hk hkl hkn hc
   cases hb2 : decide ((f nm).getD 0 = m)
   all_goals
    rw [hb2] at HL
    have YES := Lib.hid (fun h : decide ((f nm).getD 0 = m) = false => Lib.hid (show (l.take (k + 1)).any (fun u => decide ((f u.name).getD 0 = m)) = false by rw [List.take_add_one, HX.out]; simp only [Option.toList_some, List.any_append, HA.out, List.any_cons, List.any_nil, h, Bool.or_self]))
    have NO := Lib.hid (fun h : decide ((f nm).getD 0 = m) = true => Lib.hid (show l.any (fun u => decide ((f u.name).getD 0 = m)) = true from List.any_eq_true.2 ⟨_, List.mem_of_getElem? HX.out, h⟩))
    have HB2 := Lib.hid hb2
    clear hb2
    go_wp2_with fail
    go_at_call 88
    (with_reducible refine (HL.out wr hg).mono ?_); rintro e w1 ⟨rfl, hb1⟩
    have hg1 := hg.trans hb1
    clear hb1
    go_wp2_with fail
   ·
    go_roundw
    case rel => exact ⟨k + 1, HKN.out, by go_num, hg1, YES.out HB2.out⟩
    case measure => have := HKN.out; simp [intOf]; omega
   ·
    go_ret
    exact ⟨⟨k, rfl, by rw [(NO.out HB2.out).out]; simp⟩, hg1⟩
set_option maxRecDepth 100000 in
theorem containsF_act1 (l : List Us) (p : Option Addr) (c : Nat) (w : World) (fb qf qm mm nM : Nat) (c0 c1 c2 c4 c5 bv : Value) (kk m : Int) (f : ByteArray → Option Int) (hf : boxAt w qf [.pointer (some ⟨fb, 0, none⟩)]) (hq : boxAt w qm [.int .i64 m]) (hb : boxAt w fb [c0, c1, c2, .map (some mm), c4, c5, bv, .int .i64 kk]) (hm : MapF w mm nM f)
  (h : Sl w (.slice p l.length c) 2 l.length (l.flatMap usC)) (ho : ∀ u ∈ l, UsOk u) :
  Calls Tryz.prog 87 #[.slice p l.length c, .func (.func 88) #[] #[.pointer (some ⟨qf, 0, none⟩), .pointer (some ⟨qm, 0, none⟩)]] w fun e w' => e = .returned (.bool (l.any fun u => decide ((f u.name).getD 0 = m))) ∧ Gr w w' := by
 have HI := Lib.hid (indexF_act1 l p c w fb qf qm mm nM c0 c1 c2 c4 c5 bv kk m f hf hq hb hm h ho)
 clear h ho hf hq hb hm
 go_enter Tryz.func87, Tryz.ntmps87
 go_wp2_with fail
 go_at_call 113
 refine HI.out.mono ?_; rintro e w1 ⟨⟨k, rfl, hk⟩, hg⟩
 have HK := Lib.hid hk
 clear hk
 go_wp2_with fail
 go_ret
 exact ⟨ret_bool HK.out, hg⟩
def actTo (s : Sc) (m : Nat) (own : Bool) (k : Nat) : List Nat := (List.range k).filter fun i => match s.rules[i]? with
 | some r => activeB s m own r
 | none => false
theorem actTo_snoc {s : Sc} {m : Nat} {own : Bool} {k : Nat} {r : Rl} (h : s.rules[k]? = some r) : actTo s m own (k + 1) = actTo s m own k ++ (if activeB s m own r = true then [k] else []) := by
 unfold actTo
 rw [List.range_succ, List.filter_append, List.filter_cons]
 simp only [h]
 cases activeB s m own r <;> rfl
theorem actTo_le (s : Sc) (m : Nat) (own : Bool) (k : Nat) : (actTo s m own k).length ≤ k := by
 unfold actTo
 refine Nat.le_trans (List.length_filter_le ..) ?_
 rw [List.length_range]; exact Nat.le_refl _
theorem any_getD {s : Sc} (h : Right s) {r : Rl} (hr : r ∈ s.rules) (m : Nat) : (r.modes.any fun u => decide ((numF (modesN s) u.name).getD 0 = (m : Int))) = r.modes.any fun u => decide (noOf (modesN s) u.name = m) := by
 have : ∀ u ∈ r.modes, decide ((numF (modesN s) u.name).getD 0 = (m : Int)) = decide (noOf (modesN s) u.name = m) := fun u hu => by
  have hm : u.name ∈ modesN s := h.uses r hr (usN u) (by unfold useR; exact List.mem_append_left _ (List.mem_map.2 ⟨u, hu, rfl⟩))
  unfold numF
  rw [if_pos (memN_iff.2 hm)]
  exact decide_eq_decide.2 (by show ((noOf (modesN s) u.name : Nat) : Int) = (m : Int) ↔ _; omega)
 generalize r.modes = l at this
 induction l with
 | nil => rfl
 | cons u l ih => rw [List.any_cons, List.any_cons, this u (by simp), ih (fun x hx => this x (List.mem_cons_of_mem _ hx))]
set_option maxRecDepth 100000 in
set_option maxHeartbeats 8000000 in
theorem
    active_any (s : Sc) (w0 w : World) (fb mm nM : Nat) (vm vd vr c4 c5 bv : Value) (kk : Int) (hs : ScIn w0 s vm vd vr) (hG0 : Gr w0 w) (hb : boxAt w fb [vm, vd, vr, .map (some mm), c4, c5, bv, .int .i64 kk]) (hm : MapF w mm nM (numF (modesN s))) (hR : Right s) (hrl : s.rules.length ≤ 1048576) (m : Nat) (own : Bool) :
  Calls Tryz.prog 45 #[.pointer (some ⟨fb, 0, none⟩), .int .i64 (m : Int), .bool own] w fun e w' => ∃ v', e = .returned v' ∧ w'.ownsRow w.heap.size 3 1 v' (activeN s m own).length ((activeN s m own).map natV) ∧ Gr w w' := by
 obtain ⟨i1, ki, ky0, ky1, ky2⟩ := info_parts info_intN
 have HAN := Lib.hid (show activeN s m own = actTo s m own s.rules.length from rfl)
 obtain ⟨dl, rl, hd, hr, hm', hmo, hmn, hmb, hds, hdi, hdn, hdb, hrs, hri, hrn, hrb⟩ := hs
 obtain ⟨pr, cr, evr⟩ := hrs.len
 have hrl2 : rl.length ≤ 1048576 := by rw [← hr, List.length_map] at hrl; exact hrl
 have hrlen : s.rules.length = rl.length := by rw [← hr, List.length_map]
 obtain ⟨nr, hnr⟩ : ∃ n, rl.length = n := ⟨_, rfl⟩
 rw [hnr] at evr hrl2 hrs hrlen
 rw [hrlen] at HAN
 have HR := Lib.hid hrs
 have HRI := Lib.hid hri
 have HHR := Lib.hid hr
 have HNR := Lib.hid hnr
 have HM := Lib.hid hm
 have HB := Lib.hid hb
 have HRT := Lib.hid hR
 have HG := Lib.hid hG0
 have HRB := Lib.hid hrl2
 have hnI : (nr : Int) ≤ 1048576 := by omega
 subst evr
 have xf := hb
 clear hd hr hm' hmo hmn hmb hds hdi hdn hdb hrs hri hrn hrb hrl hrl2 hnr hm hR hG0 hb hrlen
 rw [HAN.out]
 go_enter Tryz.func45, Tryz.ntmps45
 obtain ⟨c_f0, c_f1, c_f2, c_f3, c_f4, c_f5, c_f6, c_f7, m_f0, m_f1, m_f2, m_f3, m_f4, m_f5, m_f6, m_f7, l_f⟩ := unb8 xf
 go_upto_block 0 with fail
 refine name_world (fun W hW => ?_)
 have xq : boxAt W w.heap.size [.pointer (some ⟨fb, 0, none⟩)] := by rw [hW]; exact (boxAt.new_atN _ _ _ rfl rfl).later (Gr.alloc _ _)
 have xm : boxAt W (w.heap.size + 1) [.int .i64 (m : Int)] := by rw [hW]; exact boxAt.new_atN _ _ _ rfl (by simp)
 have hgW : Gr w W := by rw [hW]; exact (Gr.alloc _ _).trans (Gr.alloc _ _)
 have XQ := Lib.hid xq
 have XM := Lib.hid xm
 have HGW := Lib.hid hgW
 obtain ⟨qf, hqf⟩ : ∃ q, w.heap.size = q := ⟨_, rfl⟩
 obtain ⟨qm, hqm⟩ : ∃ q, qf + 1 = q := ⟨_, rfl⟩
 rw [hqf] at XQ XM
 rw [hqm] at XM
 simp only [hqf, hqm]
 have HQF := Lib.hid hqf
 clear c_f0 c_f1 c_f2 c_f3 c_f4 c_f5 c_f6 c_f7 m_f0 m_f1 m_f2 m_f3 m_f4 m_f5 m_f6 m_f7 l_f
 clear hW hgW hqf hqm xq xm xf
 go_wp2_with fail
 go_loopw [7, 17] (fun lv i wr => ∃ k : Nat, k ≤ nr ∧ i = .int .i64 (k : Int) ∧ Hid (wr.ownsRow W.heap.size 3 1 lv (actTo s m own k).length ((actTo s m own k).map natV)) ∧ Hid (Gr W wr)) (fun _ i _ => nr - (intOf i).toNat)
 case atStart => exact ⟨0, Nat.zero_le _, rfl, Lib.hid (World.ownsRow_nil _ _ _ _), Lib.hid (Gr.refl _)⟩
 case round =>
  obtain ⟨k, hk, rfl, HOW, HGR⟩ := hrel
  obtain ⟨pl, cl, rfl⟩ := (Sl.of_owns HOW.out).len
  rcases Nat.lt_or_ge k nr with hkn | hkn
  ·
   have hkI : (k : Int) < (nr : Int) := by omega
   have HKN := Lib.hid hkn
   obtain ⟨⟨r, cs⟩, hx⟩ : ∃ x, rl[k]? = some x := ⟨_, List.getElem?_eq_getElem (by rw [HNR.out]; exact hkn)⟩
   have hg : Gr w0 wr := (HG.out.trans HGW.out).trans HGR.out
   have hD := HR.out
   obtain ⟨b2, off, hpm, hbl, hc⟩ := elem_at hD (fun x hx => (HRI.out x hx).len) HNR.out hx
   have hok := HRI.out _ (List.mem_of_getElem? hx)
   have hsr : s.rules[k]? = some r := by rw [← HHR.out, List.getElem?_map, hx]; rfl
   dsimp only at hok hc
   obtain ⟨po, al, pum, num, cum, op, ps, s1, tx, mn, mx, p1, n1, c1, ht, op2, ps2, s2, tx2, mn2, mx2, p2, n2, c2, lb, pua, nua, cua, hcs, hmm, hma, hsm, hsa, hmo, hao, hmb, hab⟩ := hok.formX
   have HAL := Lib.hid (show r.all = al from by
    cases hok with
    | mk vm va ec tc he ht hm hmn hmb hmo ha han hab hao hl hp => simp at hcs; exact hcs.2.1)
   subst hcs
   subst hpm
   have HCELL := Lib.hid (fun t u (h : ([.int .i64 po, .bool al, .slice pum num cum, .int .i64 op, .int .i64 ps, .int .u64 (wd s1 0), .int .u64 (wd s1 1), .int .u64 (wd s1 2), .int .u64 (wd s1 3), .string tx, .int .i64 mn, .int .i64 mx, .slice p1 n1 c1, .bool ht, .int .i64 op2, .int .i64 ps2, .int .u64 (wd s2 0), .int .u64 (wd s2 1), .int .u64 (wd s2 2), .int .u64 (wd s2 3), .string tx2, .int .i64 mn2, .int .i64 mx2, .slice p2 n2 c2, .string lb, .slice pua nua cua] : List Value)[t]? = some u) => hg.cell (hc t u h))
   have hbr := Nat.lt_of_lt_of_le hbl hg.size
   have HST := Lib.hid (actTo_snoc (m := m) (own := own) hsr)
   have HCF := Lib.hid (fun (W2 : World) (hG2 : Gr wr W2) => containsF_act1 r.modes pum cum W2 fb qf qm mm nM _ _ _ _ _ _ _ (m : Int) (numF (modesN s)) (XQ.out.later (HGR.out.trans hG2)) (XM.out.later (HGR.out.trans hG2)) (HB.out.later (HGW.out.trans (HGR.out.trans hG2))) (HM.out.later (HGW.out.trans (HGR.out.trans hG2))) (hsm.later (hg.trans hG2)) hmo)
   rw [any_getD HRT.out (List.mem_of_getElem? hsr), hmm] at HCF
   obtain ⟨nb, hnb⟩ : ∃ b, (r.modes.any fun u => decide (noOf (modesN s) u.name = m)) = b := ⟨_, rfl⟩
   rw [hnb] at HCF
   have HAB := Lib.hid (show activeB s m own r = (al || (nb || (decide (num = 0) && !own))) from by
    unfold activeB
    rw [HAL.out, hnb]
    congr 3
    rw [← hmm]
    exact decide_eq_decide.2 List.length_eq_zero_iff.symm)
   have hmb2 : (num : Int) ≤ 9223372036854775807 := by omega
   obtain ⟨ml, hml⟩ : ∃ l, (actTo s m own k).length = l := ⟨_, rfl⟩
   have hmlk := actTo_le s m own k
   rw [hml] at HOW hmlk ⊢
   have HML := Lib.hid hml
   have HMK := Lib.hid hmlk
   obtain ⟨XS, hXS⟩ : ∃ X : List Value, (actTo s m own k).map natV = X := ⟨_, rfl⟩
   rw [hXS] at HOW
   have HXS := Lib.hid hXS
   clear hx hok hk hkn hc hD hbl hg hmm hma hsm hsa hmo hao hmb hab hsr hnb hml hmlk hXS
   have xq := XQ.out.later HGR.out
   go_wp2_with (first | ((with_reducible refine wpList_plain ?_ (fun _ hK => ?_)); (focus rfl); refine wp_load_at 71 (.tmp 20) rfl b2 (off + k * 26) rfl [.int .i64 po, .bool al, .slice pum num cum, .int .i64 op, .int .i64 ps, .int .u64 (wd s1 0), .int .u64 (wd s1 1), .int .u64 (wd s1 2), .int .u64 (wd s1 3), .string tx, .int .i64 mn, .int .i64 mx, .slice p1 n1 c1, .bool ht, .int .i64 op2, .int .i64 ps2, .int .u64 (wd s2 0), .int .u64 (wd s2 1), .int .u64 (wd s2 2), .int .u64 (wd s2 3), .string tx2, .int .i64 mn2, .int .i64 mx2, .slice p2 n2 c2, .string lb, .slice pua nua cua] _ HCELL.out Tryz.underlying71 rfl (by kernel_rfl) (hK _ _ ?_)) | ((with_reducible refine wpList_plain ?_ (fun _ hK => ?_)); (focus rfl); refine wp_store_row 71 (.tmp 9) (.tmp 21) rfl wr.heap.size #[.int .i64 po, .bool al, .slice pum num cum, .int .i64 op, .int .i64 ps, .int .u64 (wd s1 0), .int .u64 (wd s1 1), .int .u64 (wd s1 2), .int .u64 (wd s1 3), .string tx, .int .i64 mn, .int .i64 mx, .slice p1 n1 c1, .bool ht, .int .i64 op2, .int .i64 ps2, .int .u64 (wd s2 0), .int .u64 (wd s2 1), .int .u64 (wd s2 2), .int .u64 (wd s2 3), .string tx2, .int .i64 mn2, .int .i64 mx2, .slice p2 n2 c2, .string lb, .slice pua nua cua] rfl rfl 71 _ (heap_alloc_new wr _) (by kernel_rfl) rfl (all_ones _ rfl) (hK _ _ ?_); clear hK; refine name_wpList (fun xc_w hxc => ?_); obtain ⟨xc, xc_g, xc_s⟩ := new_row (cs := [.int .i64 po, .bool al, .slice pum num cum, .int .i64 op, .int .i64 ps, .int .u64 (wd s1 0), .int .u64 (wd s1 1), .int .u64 (wd s1 2), .int .u64 (wd s1 3), .string tx, .int .i64 mn, .int .i64 mx, .slice p1 n1 c1, .bool ht, .int .i64 op2, .int .i64 ps2, .int .u64 (wd s2 0), .int .u64 (wd s2 1), .int .u64 (wd s2 2), .int .u64 (wd s2 3), .string tx2, .int .i64 mn2, .int .i64 mx2, .slice p2 n2 c2, .string lb, .slice pua nua cua]) hxc; clear hxc; have xc_h := boxAt.row xc; have y1 := xc.cell 1 _ rfl; have y2 := xc.cell 2 _ rfl; have yl := xc.lt (Nat.succ_pos _)))
   go_at_call 87
   (with_reducible refine (HCF.out _ xc_g).mono ?_); rintro e w3 ⟨rfl, hg3⟩
   have xc3 := xc.later hg3
   have HG3 := Lib.hid (xc_g.trans hg3)
   clear y1 y2 yl xc_h xc_s xc_g hg3 xc xq
   have y1 := xc3.cell 1 _ rfl
   have y2 := xc3.cell 2 _ rfl
   have yl := xc3.lt (Nat.succ_pos _)
   have HOW3 := Lib.hid (owns_later HOW.out HG3.out)
   cases al with
   |
    true =>
    have HIF := Lib.hid (show actTo s m own (k + 1) = actTo s m own k ++ [k] by rw [HST.out, HAB.out]; rfl)
    go_wp2_with (at_builtin; refine wpList_append_own_at _ rfl (.tmp 41) (.tmp 43) 32 rfl W.heap.size 3 i1 (.int .i64 0) 1 8 Tryz.underlying32 ki ky0 ky1 ky2 rfl (by decide) _ ml XS rfl (HOW3.out.alloc _) ⟨w3.heap.size, 0, none⟩ 1 1 [.int .i64 (k : Int)] rfl rfl (new_cells _ _ _) (by intro u hu; simp at hu; subst hu; rfl) (by have := HMK.out; have := HKN.out; have := HRB.out; unfold maxLen; omega) (by have := HMK.out; have := HKN.out; have := HRB.out; omega) (Nat.le_trans (Nat.le_trans HGR.out.size HG3.out.size) (Gr.alloc _ _).size) ?_; intro v' w4 hown4 hg4 _ hloc; obtain ⟨p4, c4', rfl⟩ := (Sl.of_owns hown4).len; have HOW4 := Lib.hid hown4; have HG4 := Lib.hid hg4; clear hown4 hg4 hloc)
    go_roundw
    case rel => exact ⟨k + 1, HKN.out, by go_num, Lib.hid (by rw [HIF.out, List.length_append, List.map_append, HML.out, HXS.out]; exact HOW4.out), Lib.hid (Gr.grown ((HGR.out.trans HG3.out).trans (Gr.alloc _ _)) HG4.out (fun g hg => (World.ownsRow.lt HOW3.out g hg).1))⟩
    case measure => have := HKN.out; simp [intOf]; omega
   | false =>
   cases nb with
   |
    true =>
    have HIF := Lib.hid (show actTo s m own (k + 1) = actTo s m own k ++ [k] by rw [HST.out, HAB.out]; rfl)
    go_wp2_with (at_builtin; refine wpList_append_own_at _ rfl (.tmp 41) (.tmp 43) 32 rfl W.heap.size 3 i1 (.int .i64 0) 1 8 Tryz.underlying32 ki ky0 ky1 ky2 rfl (by decide) _ ml XS rfl (HOW3.out.alloc _) ⟨w3.heap.size, 0, none⟩ 1 1 [.int .i64 (k : Int)] rfl rfl (new_cells _ _ _) (by intro u hu; simp at hu; subst hu; rfl) (by have := HMK.out; have := HKN.out; have := HRB.out; unfold maxLen; omega) (by have := HMK.out; have := HKN.out; have := HRB.out; omega) (Nat.le_trans (Nat.le_trans HGR.out.size HG3.out.size) (Gr.alloc _ _).size) ?_; intro v' w4 hown4 hg4 _ hloc; obtain ⟨p4, c4', rfl⟩ := (Sl.of_owns hown4).len; have HOW4 := Lib.hid hown4; have HG4 := Lib.hid hg4; clear hown4 hg4 hloc)
    go_roundw
    case rel => exact ⟨k + 1, HKN.out, by go_num, Lib.hid (by rw [HIF.out, List.length_append, List.map_append, HML.out, HXS.out]; exact HOW4.out), Lib.hid (Gr.grown ((HGR.out.trans HG3.out).trans (Gr.alloc _ _)) HG4.out (fun g hg => (World.ownsRow.lt HOW3.out g hg).1))⟩
    case measure => have := HKN.out; simp [intOf]; omega
   | false =>
   by_cases hz : num = 0
   ·
    have hzI : ((num : Int) == 0) = true := by rw [hz]; rfl
    cases own with
    |
     true =>
     have HIF := Lib.hid (show actTo s m true (k + 1) = actTo s m true k by rw [HST.out, HAB.out, decide_eq_true hz]; simp)
     clear hz
     go_wp2_with fail
     go_roundw
     case rel => exact ⟨k + 1, HKN.out, by go_num, Lib.hid (by rw [HIF.out, HML.out, HXS.out]; exact HOW3.out), Lib.hid (HGR.out.trans HG3.out)⟩
     case measure => have := HKN.out; simp [intOf]; omega
    |
     false =>
     have HIF := Lib.hid (show actTo s m false (k + 1) = actTo s m false k ++ [k] by rw [HST.out, HAB.out, decide_eq_true hz]; rfl)
     clear hz
     go_wp2_with (at_builtin; refine wpList_append_own_at _ rfl (.tmp 41) (.tmp 43) 32 rfl W.heap.size 3 i1 (.int .i64 0) 1 8 Tryz.underlying32 ki ky0 ky1 ky2 rfl (by decide) _ ml XS rfl (HOW3.out.alloc _) ⟨w3.heap.size, 0, none⟩ 1 1 [.int .i64 (k : Int)] rfl rfl (new_cells _ _ _) (by intro u hu; simp at hu; subst hu; rfl) (by have := HMK.out; have := HKN.out; have := HRB.out; unfold maxLen; omega) (by have := HMK.out; have := HKN.out; have := HRB.out; omega) (Nat.le_trans (Nat.le_trans HGR.out.size HG3.out.size) (Gr.alloc _ _).size) ?_; intro v' w4 hown4 hg4 _ hloc; obtain ⟨p4, c4', rfl⟩ := (Sl.of_owns hown4).len; have HOW4 := Lib.hid hown4; have HG4 := Lib.hid hg4; clear hown4 hg4 hloc)
     go_roundw
     case rel => exact ⟨k + 1, HKN.out, by go_num, Lib.hid (by rw [HIF.out, List.length_append, List.map_append, HML.out, HXS.out]; exact HOW4.out), Lib.hid (Gr.grown ((HGR.out.trans HG3.out).trans (Gr.alloc _ _)) HG4.out (fun g hg => (World.ownsRow.lt HOW3.out g hg).1))⟩
     case measure => have := HKN.out; simp [intOf]; omega
   ·
    have hzI : ((num : Int) == 0) = false := by rw [beq_eq_false_iff_ne]; omega
    have HIF := Lib.hid (show actTo s m own (k + 1) = actTo s m own k by rw [HST.out, HAB.out, decide_eq_false hz]; simp)
    clear hz
    go_wp2_with fail
    go_roundw
    case rel => exact ⟨k + 1, HKN.out, by go_num, Lib.hid (by rw [HIF.out, HML.out, HXS.out]; exact HOW3.out), Lib.hid (HGR.out.trans HG3.out)⟩
    case measure => have := HKN.out; simp [intOf]; omega
  ·
   have hkI : ¬ (k : Int) < (nr : Int) := by omega
   have hke : k = nr := by omega
   have HKE := Lib.hid hke
   clear hk hkn hke
   go_wp2_with fail
   go_ret
   exact ⟨_, rfl, by rw [← HKE.out]; exact own_mono HOW.out HGW.out.size, HGW.out.trans HGR.out⟩
end Go.Proofs.YtkkopdmemjncdaaGreatDoor
