/- bolterlaw6.NamesOrder answers true. Printed by gen_nmor.py. No condition but the errors' variables and a bound of the argument's bulk. -/
import Derived.Test.YtkkopdmemjncdaaGreatDoorPHm
namespace Go.Proofs.YtkkopdmemjncdaaGreatDoor
open Go Go.RowKit

theorem len_sum6 {α : Type} (f : α → Nat) (hf : ∀ a, 1 ≤ f a) : ∀ l : List α, l.length ≤ (l.map f).sum
  | [] => Nat.le_refl _
  | a :: l => by
    rw [List.length_cons, List.map_cons, List.sum_cons]
    have h1 := hf a
    have h2 := len_sum6 f hf l
    omega
theorem wtE_one (e : Ex) : 1 ≤ wtE e := by cases e; rw [wtE]; omega
theorem defs_wt (s : Sc) : s.defs.length ≤ wtS s := by
  have h := len_sum6 (fun d : Df => wtE d.ex) (fun d => wtE_one d.ex) s.defs
  unfold wtS
  omega
def inN (r : List Nat) (z : Nat) : Bool := decide (z ∈ r)
theorem any_inN (r : List Nat) (z : Nat) : (r.any fun y => decide ((y : Int) = (z : Int))) = inN r z := by
  unfold inN
  rw [Bool.eq_iff_iff, List.any_eq_true, decide_eq_true_eq]
  exact ⟨fun ⟨y, hy, h⟩ => by
    have := of_decide_eq_true h
    have e : y = z := by omega
    exact e ▸ hy, fun h => ⟨z, h, decide_eq_true rfl⟩⟩
theorem inN_true {r : List Nat} {z : Nat} (h : z ∈ r) : inN r z = true := decide_eq_true h
theorem inN_false {r : List Nat} {z : Nat} (h : z ∉ r) : inN r z = false := decide_eq_false h
/-- The first so many of a row. -/
theorem Sl.pre {w : World} {p : Option Addr} {n c i : Nat} {l : List Nat} (h : Sl w (.slice p n c) 1 n (l.map natV)) (hi : i ≤ n) : Sl w (.slice p i c) 1 i ((l.take i).map natV) := by
  obtain ⟨h1, h2, h3⟩ := h
  rw [List.length_map] at h1
  refine ⟨by rw [List.length_map, List.length_take]; omega, by omega, ?_⟩
  rcases h3 with ⟨_, h0⟩ | ⟨b, off, cap, hv, hb, hc⟩
  · have hz : i = 0 := by omega
    subst hz
    exact .inl ⟨⟨_, _, rfl⟩, rfl⟩
  · injection hv with e1 e2 e3
    subst e1 e3
    refine .inr ⟨b, off, c, rfl, fun h => hb (by omega), fun j u hj => hc j u ?_⟩
    rw [List.map_take] at hj
    by_cases hji : j < i
    · rw [List.getElem?_take_of_lt hji] at hj; exact hj
    · rw [List.getElem?_eq_none (by rw [List.length_take, List.length_map]; omega)] at hj; cases hj
theorem has_pre {w : World} {p : Option Addr} {n c i : Nat} {l : List Nat} (h : Sl w (.slice p n c) 1 n (l.map natV)) (hl : l.length = n) (hi : i ≤ n) (z : Nat) (W : World) (hG : Gr w W) : Calls Tryz.prog 24 #[.slice p i c, .int .i64 (z : Int)] W fun e w' => e = .returned (.bool (inN (l.take i) z)) ∧ Gr W w' := by
  have h1 := (h.pre hi).later hG
  have e : (l.take i).length = i := by rw [List.length_take]; omega
  have h2 : Sl W (.slice p i c) 1 (l.take i).length ((l.take i).map natV) := by rw [e]; exact h1
  refine (has_any6 (l.take i) (.slice p i c) (z : Int) W h2).mono ?_
  rintro e w' ⟨rfl, hb⟩
  rw [any_inN]
  exact ⟨rfl, hb⟩
/-- Whether it could stand there, as far as so many of those that it uses tell. -/
def freeTo (T r : List Nat) (y j : Nat) : Bool := !inN T y && (r.take j).all (inN T)
theorem freeTo_zero (T r : List Nat) (y : Nat) : freeTo T r y 0 = !inN T y := by unfold freeTo; simp
theorem freeTo_succ {T r : List Nat} {y j u : Nat} (h : r[j]? = some u) : freeTo T r y (j + 1) = (freeTo T r y j && inN T u) := by
  unfold freeTo
  rw [List.take_add_one, h]
  simp only [Option.toList_some, List.all_append, List.all_cons, List.all_nil, Bool.and_true, Bool.and_assoc]
theorem freeTo_all {U : List (List Nat)} {T r : List Nat} {y : Nat} (h : U[y]? = some r) : freeTo T r y r.length = freeN U T y := by
  unfold freeTo freeN inN
  rw [h, List.take_length]
  simp
theorem ret_b {a b : Bool} (h : a = b) : Ending.returned (.bool a) = .returned (.bool b) := by rw [h]
theorem linked_of {s : Sc} (h : Right s) : Linked s := ⟨h.defs, fun d hd x hx => by
  obtain ⟨y, hy, rfl⟩ := usesN_mem hx
  exact h.drefs d hd y hy⟩
theorem orderS (s : Sc) (n : Nat) : orderN (linksS s) n [] = orderN (linksN s) n [] := orderN_srt _ _ _
theorem own_cap {w : World} {B e n c : Nat} {p : Option Addr} {xs : List Value} (h : w.ownsRow B e 1 (.slice p n c) n xs) : n ≤ c := by
  obtain ⟨_, h2⟩ := h
  rcases h2 with ⟨hv, h0⟩ | ⟨g, cap, cur, hv, _, _, h3, _⟩
  · omega
  · injection hv with _ _ e3
    omega
/-- What the order tells of each place. -/
theorem order_at {s : Sc} (hl : (orderN (linksS s) s.defs.length []).length = s.defs.length) {i : Nat} (hi : i < s.defs.length) : ∃ x r, (namesN s).order[i]? = some x ∧ x < s.defs.length ∧ (linksN s)[x]? = some r ∧ inN ((namesN s).order.take i) x = false ∧ (∀ u ∈ r, inN ((namesN s).order.take i) u = true) ∧ ∀ y, y < x → freeN (linksN s) ((namesN s).order.take i) y = false := by
  have e : (namesN s).order = orderN (linksN s) s.defs.length [] := rfl
  rw [orderS, ← e] at hl
  have ho : Ordered (linksN s) (namesN s).order := by rw [e]; exact orderN_ordered _ _ _ (ordered_nil _)
  have hx := List.getElem?_eq_getElem (l := (namesN s).order) (i := i) (by omega)
  obtain ⟨h1, h2, h3⟩ := ho i _ hx
  rw [linksN_len] at h1
  have hr := List.getElem?_eq_getElem (l := linksN s) (i := (namesN s).order[i]'(by omega)) (by rw [linksN_len]; exact h1)
  unfold freeN at h2
  rw [hr, Bool.and_eq_true, decide_eq_true_eq, List.all_eq_true] at h2
  exact ⟨_, _, hx, h1, hr, inN_false h2.1, fun u hu => h2.2 u hu, h3⟩

set_option maxRecDepth 100000 in
set_option maxHeartbeats 16000000 in
theorem namesOrder_any (s : Sc) (w : World) (es : Nat → Addr) (hF : FaultsIn w es) (vm vd vr : Value) (hs : ScIn w s vm vd vr) (hwt : wtS s ≤ 1048576) : Calls Tryz.prog 7 #[scV vm vd vr] w fun e w' => e = .returned (.bool true) ∧ Gr w w' := by
  have hdl := Nat.le_trans (defs_wt s) hwt
  have HHV := Lib.hid (fun W (hG : Gr w W) => heavy6_any s vm vd vr W (hs.later hG))
  have HWK := Lib.hid (fun W (hG : Gr w W) => wakes6_any W es (hF.later hG))
  have HLK := Lib.hid (fun W (hG : Gr w W) => links_any s W vm vd vr (hs.later hG) hdl (refs_wtS hwt))
  have HRS := Lib.hid (fun W (hG : Gr w W) => resolve_any s W vm vd vr (esN es 15) (esN es 6) (esN es 7) (hs.later hG) (faults_glo (hF.later hG)).1 (faults_glo (hF.later hG)).2.1 (faults_glo (hF.later hG)).2.2 ⟨_, _, rfl⟩ ⟨_, _, rfl⟩ ⟨_, _, rfl⟩ (refs_wtS hwt))
  obtain ⟨dl, rl, hd, hr, hm, hmo, hmn, hmb, hds, hdi, hdn, hdb, hrs, hri, hrn, hrb⟩ := hs
  obtain ⟨pm, cm, rfl⟩ := hm.len
  obtain ⟨pd, cd, rfl⟩ := hds.len
  obtain ⟨pr, cr, rfl⟩ := hrs.len
  unfold scV at HHV HRS HLK ⊢
  clear hd hr hm hmo hmn hmb hds hdi hdn hdb hrs hri hrn hrb hF hwt hdl
  go_enter Tryz.func7, Tryz.ntmps7
  go_wp2_with fail
  go_at_call 9
  refine name_calls (fun W1 hW1 => ?_)
  have xs : boxAt W1 w.heap.size [.slice pm s.modes.length cm, .slice pd dl.length cd, .slice pr rl.length cr] := by rw [hW1]; exact boxAt.new_atN _ _ _ rfl rfl
  have hg1 : Gr w W1 := by rw [hW1]; exact Gr.alloc _ _
  clear hW1
  (with_reducible refine (HHV.out W1 hg1).mono ?_); rintro e w2 ⟨⟨hv, rfl⟩, hg2⟩
  have XS := Lib.hid (xs.later hg2)
  have HG2 := Lib.hid (hg1.trans hg2)
  clear xs hg1 hg2 HHV
  cases hv with
  | true =>
    go_wp2_with fail
    go_at_call 21
    (with_reducible refine (HWK.out w2 HG2.out).mono ?_); rintro e w3 ⟨rfl, hg3⟩
    go_wp2_with fail
    go_ret
    exact ⟨rfl, HG2.out.trans hg3⟩
  | false =>
    have xs := XS.out
    have c_s0 := xs.cell 0 _ rfl
    have c_s1 := xs.cell 1 _ rfl
    have c_s2 := xs.cell 2 _ rfl
    have m_s0 := xs.mark 0 _ rfl
    have m_s1 := xs.mark 1 _ rfl
    have m_s2 := xs.mark 2 _ rfl
    have l_s := xs.lt (Nat.succ_pos _)
    go_wp2_with fail
    go_at_call 22
    (with_reducible refine (HLK.out w2 HG2.out).mono ?_); rintro e w3 ⟨hlk, hg3⟩
    obtain ⟨v, ok, rfl, hok⟩ : ∃ v ok, e = .returned (.tuple #[v, .bool ok]) ∧ (Linked s → ok = true ∧ RowsN w3 v (linksN s)) := by
      rcases hlk with ⟨rfl, hn⟩ | ⟨_, v, rfl, hv⟩
      · exact ⟨_, _, rfl, fun h => absurd h hn⟩
      · exact ⟨_, _, rfl, fun _ => ⟨rfl, hv.rows⟩⟩
    have HOK := Lib.hid hok
    have HG3 := Lib.hid (HG2.out.trans hg3)
    have XS3 := Lib.hid (XS.out.later hg3)
    clear c_s0 c_s1 c_s2 m_s0 m_s1 m_s2 l_s
    clear xs hlk hok hg3 XS HLK HG2
    have xs := XS3.out
    have c_s0 := xs.cell 0 _ rfl
    have c_s1 := xs.cell 1 _ rfl
    have c_s2 := xs.cell 2 _ rfl
    have m_s0 := xs.mark 0 _ rfl
    have m_s1 := xs.mark 1 _ rfl
    have m_s2 := xs.mark 2 _ rfl
    have l_s := xs.lt (Nat.succ_pos _)
    go_wp2_with fail
    go_at_call 12
    (with_reducible refine (HRS.out w3 HG3.out).mono ?_); rintro e w4 ⟨hres, hg4⟩
    have HG4 := Lib.hid (HG3.out.trans hg4)
    have HOK4 := Lib.hid (fun h => ((HOK.out h).imp id (fun r => r.later hg4)))
    clear c_s0 c_s1 c_s2 m_s0 m_s1 m_s2 l_s
    clear xs HRS hg4 XS3 HOK HG3
    rcases hres with ⟨_, rfl⟩ | ⟨x, v8, _, _, hv, rfl⟩ | ⟨i, far2, b2, nv2, _, _, hi, hc, hf, hp, _, _, _, rfl⟩ | ⟨B, v0, v1, v2, v3, vs1, vs3, hsp, hno, hl, hB, h1, h3, hr, h2, ha, rfl⟩
    · unfold esN
      unfold nmsZ
      go_upto_region 5 with fail
      refine name_world (fun W4 hW4 => ?_)
      have xn : boxAt W4 w4.heap.size [.slice none 0 0, .slice none 0 0, .slice none 0 0, .slice none 0 0] := by rw [hW4]; exact boxAt.new_atN _ _ _ rfl rfl
      have HG5 := Lib.hid (HG4.out.trans (show Gr w4 W4 by rw [hW4]; exact Gr.alloc _ _))
      clear hW4
      have c_n0 := xn.cell 0 _ rfl
      have c_n1 := xn.cell 1 _ rfl
      have c_n2 := xn.cell 2 _ rfl
      have c_n3 := xn.cell 3 _ rfl
      have m_n0 := xn.mark 0 _ rfl
      have m_n1 := xn.mark 1 _ rfl
      have m_n2 := xn.mark 2 _ rfl
      have m_n3 := xn.mark 3 _ rfl
      have l_n := xn.lt (Nat.succ_pos _)
      go_wp2_with fail
      go_at_call 21
      (with_reducible refine (HWK.out W4 HG5.out).mono ?_); rintro e w5 ⟨rfl, hg5⟩
      go_wp2_with fail
      go_ret
      exact ⟨rfl, HG5.out.trans hg5⟩
    · obtain ⟨b1, b2, nv, rfl, _⟩ := hv
      unfold nmsZ
      go_upto_region 5 with fail
      refine name_world (fun W4 hW4 => ?_)
      have xn : boxAt W4 w4.heap.size [.slice none 0 0, .slice none 0 0, .slice none 0 0, .slice none 0 0] := by rw [hW4]; exact boxAt.new_atN _ _ _ rfl rfl
      have HG5 := Lib.hid (HG4.out.trans (show Gr w4 W4 by rw [hW4]; exact Gr.alloc _ _))
      clear hW4
      have c_n0 := xn.cell 0 _ rfl
      have c_n1 := xn.cell 1 _ rfl
      have c_n2 := xn.cell 2 _ rfl
      have c_n3 := xn.cell 3 _ rfl
      have m_n0 := xn.mark 0 _ rfl
      have m_n1 := xn.mark 1 _ rfl
      have m_n2 := xn.mark 2 _ rfl
      have m_n3 := xn.mark 3 _ rfl
      have l_n := xn.lt (Nat.succ_pos _)
      go_wp2_with fail
      go_at_call 21
      (with_reducible refine (HWK.out W4 HG5.out).mono ?_); rintro e w5 ⟨rfl, hg5⟩
      go_wp2_with fail
      go_ret
      exact ⟨rfl, HG5.out.trans hg5⟩
    · clear hi hc hf hp
      unfold nmsZ
      go_upto_region 5 with fail
      refine name_world (fun W4 hW4 => ?_)
      have xn : boxAt W4 w4.heap.size [.slice none 0 0, .slice none 0 0, .slice none 0 0, .slice none 0 0] := by rw [hW4]; exact boxAt.new_atN _ _ _ rfl rfl
      have HG5 := Lib.hid (HG4.out.trans (show Gr w4 W4 by rw [hW4]; exact Gr.alloc _ _))
      clear hW4
      have c_n0 := xn.cell 0 _ rfl
      have c_n1 := xn.cell 1 _ rfl
      have c_n2 := xn.cell 2 _ rfl
      have c_n3 := xn.cell 3 _ rfl
      have m_n0 := xn.mark 0 _ rfl
      have m_n1 := xn.mark 1 _ rfl
      have m_n2 := xn.mark 2 _ rfl
      have m_n3 := xn.mark 3 _ rfl
      have l_n := xn.lt (Nat.succ_pos _)
      go_wp2_with fail
      go_at_call 21
      (with_reducible refine (HWK.out W4 HG5.out).mono ?_); rintro e w5 ⟨rfl, hg5⟩
      go_wp2_with fail
      go_ret
      exact ⟨rfl, HG5.out.trans hg5⟩
    have HLK := Lib.hid (linked_of (right_of hno))
    obtain ⟨rfl, hrw⟩ := HOK4.out HLK.out
    have hnm := NmIn.of h1 h3 hr h2
    have HSP := Lib.hid (spec_lens hsp)
    have HL := Lib.hid hl
    obtain ⟨p0, c0, rfl⟩ := hnm.m.len
    obtain ⟨p1, c1, rfl⟩ : ∃ p c, v1 = .slice p (namesN s).active.length c := by
      obtain ⟨vs, _, h, _⟩ := hnm.a.sl
      exact h.len
    obtain ⟨p2, c2, rfl⟩ := hnm.o.len
    obtain ⟨p3, c3, rfl⟩ : ∃ p c, v3 = .slice p (actsR s).length c := by
      obtain ⟨vs, _, h, _⟩ := hnm.c.sl
      exact h.len
    obtain ⟨pl, cl, rfl⟩ : ∃ p c, v = .slice p (linksN s).length c := by
      obtain ⟨vs, _, h, _⟩ := hrw.sl
      exact h.len
    obtain ⟨nd, hnd⟩ : ∃ n, s.defs.length = n := ⟨_, rfl⟩
    have hcap := own_cap h2
    have hno3 : (namesN s).order.length = nd := by rw [← hnd, ← hl, orderS]; rfl
    have hul : (linksN s).length = nd := by rw [linksN_len]; exact hnd
    rw [hno3] at hcap
    have HND := Lib.hid hnd
    have HNO := Lib.hid hno3
    have HUL := Lib.hid hul
    have hO := hnm.o
    rw [hno3] at hO
    rw [hul] at hrw
    have HO := Lib.hid hO
    have HRW := Lib.hid hrw
    have hnd2 : (nd : Int) ≤ 200 := by have := HSP.out.2.1; rw [hnd] at this; omega
    have hcI : (nd : Int) ≤ (c2 : Int) := by omega
    obtain ⟨n0, hn0⟩ : ∃ n, (modesN s).length = n := ⟨_, rfl⟩
    obtain ⟨n1, hn1⟩ : ∃ n, (namesN s).active.length = n := ⟨_, rfl⟩
    obtain ⟨n3, hn3⟩ : ∃ n, (actsR s).length = n := ⟨_, rfl⟩
    rw [hn0, hn1, hno3, hn3, hul]
    clear h1 h3 hr h2 ha hB hl hno hsp hnm hnd hno3 hul hO hrw hn0 hn1 hn3 HOK4
    go_upto_region 9 with fail
    refine name_world (fun W5 hW5 => ?_)
    have xn : boxAt W5 w4.heap.size [.slice p0 n0 c0, .slice p1 n1 c1, .slice p2 nd c2, .slice p3 n3 c3] := by rw [hW5]; exact boxAt.new_atN _ _ _ rfl rfl
    have hg5 : Gr w4 W5 := by rw [hW5]; exact Gr.alloc _ _
    have XN := Lib.hid xn
    have HG5 := Lib.hid (HG4.out.trans hg5)
    have HO5 := Lib.hid (HO.out.later hg5)
    have HR5 := Lib.hid (HRW.out.later hg5)
    obtain ⟨nb, hnb⟩ : ∃ b, w4.heap.size = b := ⟨_, rfl⟩
    rw [hnb] at XN
    simp only [hnb]
    clear hW5 xn hg5 hnb HO HRW HG4
    go_wp2_with fail
    go_loopw [7] (fun i wr => ∃ k : Nat, k ≤ nd ∧ i = .int .i64 (k : Int) ∧ Hid (Gr W5 wr)) (fun i _ => nd - (intOf i).toNat)
    case atStart => exact ⟨0, Nat.zero_le _, rfl, Lib.hid (Gr.refl _)⟩
    case round =>
      obtain ⟨k, hk, rfl, HG⟩ := hrel
      have xn := XN.out.later HG.out
      have c_n0 := xn.cell 0 _ rfl
      have c_n1 := xn.cell 1 _ rfl
      have c_n2 := xn.cell 2 _ rfl
      have c_n3 := xn.cell 3 _ rfl
      have m_n0 := xn.mark 0 _ rfl
      have m_n1 := xn.mark 1 _ rfl
      have m_n2 := xn.mark 2 _ rfl
      have m_n3 := xn.mark 3 _ rfl
      have l_n := xn.lt (Nat.succ_pos _)
      rcases Nat.lt_or_ge k nd with hkn | hkn
      · have hkI : (k : Int) < (nd : Int) := by omega
        have hkc : (k : Int) ≤ (c2 : Int) := by omega
        have HKN := Lib.hid hkn
        obtain ⟨x, rx, hx, hxn, hrx, hnx, hux, hfx⟩ := order_at HL.out (i := k) (by rw [HND.out]; exact hkn)
        rw [HND.out] at hxn
        have HHS := Lib.hid (fun (z : Nat) (W : World) (hG : Gr W5 W) => has_pre HO5.out HNO.out (i := k) (by omega) z W hG)
        obtain ⟨bo, oo, hpo, hbo, hco⟩ := num_at (w := W5) (p := p2) (n := nd) (c := c2) (r := (namesN s).order) (by rw [HNO.out]; exact HO5.out) hx
        subst hpo
        have ko := HG.out.cell hco
        have hbo2 := Nat.lt_of_lt_of_le hbo HG.out.size
        obtain ⟨T, hT⟩ : ∃ T, (namesN s).order.take k = T := ⟨_, rfl⟩
        rw [hT] at hnx hux hfx HHS
        have HNX := Lib.hid hnx
        have HUX := Lib.hid hux
        have HFX := Lib.hid hfx
        have HRX := Lib.hid hrx
        have HXN := Lib.hid hxn
        have hx0 : ¬ (x : Int) < 0 := by omega
        have hxI : (x : Int) < (nd : Int) := by omega
        have hxJ : ¬ (nd : Int) ≤ (x : Int) := by omega
        clear hk hkn hx hxn hrx hnx hux hfx hT hco hbo
        obtain ⟨bl, ol, ux, hpl, hbl, hcl, hsl⟩ := HR5.out.row HRX.out
        subst hpl
        obtain ⟨mx, hmx⟩ : ∃ m, rx.length = m := ⟨_, rfl⟩
        rw [hmx] at hsl
        obtain ⟨pu, cu, rfl⟩ := hsl.len
        have HMX := Lib.hid hmx
        have HSL := Lib.hid hsl
        have HCL := Lib.hid hcl
        have HBL := Lib.hid hbl
        have hmI : (mx : Int) ≤ 9223372036854775807 := by have := hsl.2.1; unfold maxLen at this; omega
        clear hsl hmx hcl hbl
        go_wp2_with fail
        go_at_call 24
        (with_reducible refine (HHS.out x wr HG.out).mono ?_); rintro e w6 ⟨rfl, hg6⟩
        rw [HNX.out]
        have HG6 := Lib.hid (HG.out.trans hg6)
        go_wp2_with fail
        clear c_n0 c_n1 c_n2 c_n3 m_n0 m_n1 m_n2 m_n3 l_n
        clear xn ko hbo2 hg6
        go_loopw [9] (fun i wy => ∃ j : Nat, j ≤ mx ∧ i = .int .i64 (j : Int) ∧ Hid (Gr W5 wy)) (fun i _ => mx - (intOf i).toNat)
        case atStart => exact ⟨0, Nat.zero_le _, rfl, HG6⟩
        case round =>
          clear HG6 HG
          obtain ⟨j, hj, rfl, HGJ⟩ := hrel
          have kl := HGJ.out.cell HCL.out
          have hbl := Nat.lt_of_lt_of_le HBL.out HGJ.out.size
          rcases Nat.lt_or_ge j mx with hjn | hjn
          · have hjI : (j : Int) < (mx : Int) := by omega
            have HJN := Lib.hid hjn
            obtain ⟨u, hu⟩ : ∃ u, rx[j]? = some u := ⟨_, List.getElem?_eq_getElem (by rw [HMX.out]; exact hjn)⟩
            obtain ⟨bu, ou, hpu, hbu0, hcu⟩ := num_at (w := W5) (p := pu) (n := mx) (c := cu) (r := rx) (by rw [HMX.out]; exact HSL.out) hu
            subst hpu
            have ku := HGJ.out.cell hcu
            have hbu := Nat.lt_of_lt_of_le hbu0 HGJ.out.size
            have HU := Lib.hid (HUX.out u (List.mem_of_getElem? hu))
            have xn := XN.out.later HGJ.out
            have c_n0 := xn.cell 0 _ rfl
            have c_n1 := xn.cell 1 _ rfl
            have c_n2 := xn.cell 2 _ rfl
            have c_n3 := xn.cell 3 _ rfl
            have m_n0 := xn.mark 0 _ rfl
            have m_n1 := xn.mark 1 _ rfl
            have m_n2 := xn.mark 2 _ rfl
            have m_n3 := xn.mark 3 _ rfl
            have l_n := xn.lt (Nat.succ_pos _)
            clear hj hjn hu hcu hbu0
            go_upto_region 18 with fail
            refine wp_region_G (.take 0 (.take 1 (.take 2 (.take 3 (.take 4 (.take 5 (.take 6 (.take 7 (.take 8 (.take 9 (.take 10 (.run 11 false (.take 12 .nil))))))))))))) (by kernel_rfl) (by kernel_rfl) ?_
            simp only [pickOps, nthOp]
            intro wq hG
            repeat (first | (refine wpG_skip_take ?_ ?_; (focus rfl); try simp only [Act.put, List.setIfInBounds_toArray, List.set_cons_zero, List.set_cons_succ]) | (refine wpG_skip_run ?_ ?_; (focus rfl); try simp only [Act.put, List.setIfInBounds_toArray, List.set_cons_zero, List.set_cons_succ]) | (refine wpG_take ?_ ?_; (focus rfl); apply Exists.intro; refine ⟨fun w' hw' => ?_, ?_⟩; (focus (have hc := Gr.cells hw'; go_simp; (try rfl); done)); try simp only [Act.put, List.setIfInBounds_toArray, List.set_cons_zero, List.set_cons_succ]) | (refine wpG_run ?_ (fun K hK => ?_); (focus rfl); go_simp; (first | (go_at_call 24; (with_reducible refine (HHS.out u _ (HGJ.out.trans hG)).mono ?_); rintro e w7 ⟨rfl, hb⟩; rw [HU.out])); (try dsimp only); replace hG := hG.trans hb; refine hK.out _ _ hG ?_; clear hK K hb; try simp only [Act.put, List.setIfInBounds_toArray, List.set_cons_zero, List.set_cons_succ]))
            all_goals
              refine wpG_done ?_
              have HGQ := Lib.hid (HGJ.out.trans hG)
              clear c_n0 c_n1 c_n2 c_n3 m_n0 m_n1 m_n2 m_n3 l_n
              clear hG xn ku kl hbl hbu
              go_step
              go_wp2_with fail
              go_roundw
              case rel => exact ⟨j + 1, HJN.out, by go_num, HGQ⟩
              case measure => have := HJN.out; simp [intOf]; omega
          · have hjI : ¬ (j : Int) < (mx : Int) := by omega
            clear hj hjn
            go_wp2_with fail
            clear kl hbl
            go_loopw [10] (fun i wy => ∃ y : Nat, y ≤ x ∧ i = .int .i64 (y : Int) ∧ Hid (Gr W5 wy)) (fun i _ => x - (intOf i).toNat)
            case atStart => exact ⟨0, Nat.zero_le _, rfl, HGJ⟩
            case round =>
              clear HGJ
              obtain ⟨y, hy, rfl, HGY⟩ := hrel
              rcases Nat.lt_or_ge y x with hyx | hyx
              · have hyI : (y : Int) < (x : Int) := by omega
                have HYX := Lib.hid hyx
                have HFY := Lib.hid (HFX.out y hyx)
                have hy0 : ¬ (y : Int) < 0 := by omega
                have hyn : (y : Int) < (nd : Int) := by have := HXN.out; omega
                obtain ⟨ry, hry⟩ : ∃ r, (linksN s)[y]? = some r := ⟨_, List.getElem?_eq_getElem (by rw [HUL.out]; have := HXN.out; omega)⟩
                have HRY := Lib.hid hry
                obtain ⟨b', o', uy, hp', hbl', hcl', hsl'⟩ := HR5.out.row hry
                injection hp' with hp'
                injection hp' with hp1 hp2
                subst hp1 hp2
                obtain ⟨my, hmy⟩ : ∃ m, ry.length = m := ⟨_, rfl⟩
                rw [hmy] at hsl'
                obtain ⟨pv, cv, rfl⟩ := hsl'.len
                have HMY := Lib.hid hmy
                have HSY := Lib.hid hsl'
                have HCY := Lib.hid hcl'
                have hmyI : (my : Int) ≤ 9223372036854775807 := by have := hsl'.2.1; unfold maxLen at this; omega
                obtain ⟨q, hq⟩ : ∃ q, inN T y = q := ⟨_, rfl⟩
                have HFT := Lib.hid (show (!q) = freeTo T ry y 0 by rw [freeTo_zero, hq])
                have HHY := Lib.hid (HHS.out y wr HGY.out)
                rw [hq] at HHY
                have xn := XN.out.later HGY.out
                have c_n0 := xn.cell 0 _ rfl
                have c_n1 := xn.cell 1 _ rfl
                have c_n2 := xn.cell 2 _ rfl
                have c_n3 := xn.cell 3 _ rfl
                have m_n0 := xn.mark 0 _ rfl
                have m_n1 := xn.mark 1 _ rfl
                have m_n2 := xn.mark 2 _ rfl
                have m_n3 := xn.mark 3 _ rfl
                have l_n := xn.lt (Nat.succ_pos _)
                clear hy hyx hry hsl' hmy hcl' hq hbl'
                go_wp2_with fail
                go_at_call 24
                (with_reducible refine HHY.out.mono ?_); rintro e w6 ⟨rfl, hg6⟩
                have HG6 := Lib.hid (HGY.out.trans hg6)
                go_wp2_with fail
                clear c_n0 c_n1 c_n2 c_n3 m_n0 m_n1 m_n2 m_n3 l_n
                clear xn hg6
                go_loopw [11, 12] (fun f i wz => ∃ (j : Nat) (q : Bool), j ≤ my ∧ f = .bool q ∧ i = .int .i64 (j : Int) ∧ Hid (Gr W5 wz) ∧ Hid (q = freeTo T ry y j)) (fun _ i _ => my - (intOf i).toNat)
                case atStart => exact ⟨0, _, Nat.zero_le _, rfl, rfl, HG6, HFT⟩
                case round =>
                  clear HG6 HFT HGY HHY
                  obtain ⟨j, q2, hj, rfl, rfl, HGJ, HQ⟩ := hrel
                  have kl := HGJ.out.cell HCY.out
                  have hbl := Nat.lt_of_lt_of_le HBL.out HGJ.out.size
                  rcases Nat.lt_or_ge j my with hjn | hjn
                  · have hjI2 : (j : Int) < (my : Int) := by omega
                    have HJN := Lib.hid hjn
                    obtain ⟨u, hu⟩ : ∃ u, ry[j]? = some u := ⟨_, List.getElem?_eq_getElem (by rw [HMY.out]; exact hjn)⟩
                    have HFS := Lib.hid (freeTo_succ (T := T) (y := y) hu)
                    obtain ⟨bu, ou, hpu, hbu0, hcu⟩ := num_at (w := W5) (p := pv) (n := my) (c := cv) (r := ry) (by rw [HMY.out]; exact HSY.out) hu
                    subst hpu
                    have ku := HGJ.out.cell hcu
                    have hbu := Nat.lt_of_lt_of_le hbu0 HGJ.out.size
                    obtain ⟨z, hz⟩ : ∃ z, inN T u = z := ⟨_, rfl⟩
                    rw [hz] at HFS
                    have HHU := Lib.hid (fun (W : World) (hG : Gr W5 W) => HHS.out u W hG)
                    rw [hz] at HHU
                    have xn := XN.out.later HGJ.out
                    have c_n0 := xn.cell 0 _ rfl
                    have c_n1 := xn.cell 1 _ rfl
                    have c_n2 := xn.cell 2 _ rfl
                    have c_n3 := xn.cell 3 _ rfl
                    have m_n0 := xn.mark 0 _ rfl
                    have m_n1 := xn.mark 1 _ rfl
                    have m_n2 := xn.mark 2 _ rfl
                    have m_n3 := xn.mark 3 _ rfl
                    have l_n := xn.lt (Nat.succ_pos _)
                    clear hj hjn hu hcu hbu0 hz
                    go_upto_region 27 with fail
                    cases q2
                    · have HZ := Lib.hid (show false = freeTo T ry y (j + 1) by rw [HFS.out, ← HQ.out]; rfl)
                      refine wp_region_G (.take 0 (.take 1 (.take 2 (.take 3 (.take 4 (.take 5 (.take 6 (.take 7 (.take 8 (.take 9 (.take 10 (.take 11 (.take 12 (.run 13 false (.take 14 (.run 15 true .nil)))))))))))))))) (by kernel_rfl) (by kernel_rfl) ?_
                      simp only [pickOps, nthOp]
                      intro wq hG
                      repeat (first | (refine wpG_skip_take ?_ ?_; (focus rfl); try simp only [Act.put, List.setIfInBounds_toArray, List.set_cons_zero, List.set_cons_succ]) | (refine wpG_skip_run ?_ ?_; (focus rfl); try simp only [Act.put, List.setIfInBounds_toArray, List.set_cons_zero, List.set_cons_succ]) | (refine wpG_take ?_ ?_; (focus rfl); apply Exists.intro; refine ⟨fun w' hw' => ?_, ?_⟩; (focus (have hc := Gr.cells hw'; go_simp; (try rfl); done)); try simp only [Act.put, List.setIfInBounds_toArray, List.set_cons_zero, List.set_cons_succ]))
                      all_goals
                        refine wpG_last ?_ (fun K hK => ?_); (focus rfl)
                        have hc := hG.cells
                        have hm := hG.marks
                        go_simp
                        refine hK.out _ _ ?_
                        try simp only [Act.put, List.setIfInBounds_toArray, List.set_cons_zero, List.set_cons_succ]
                        clear hK K hc hm
                        refine wpG_done ?_
                        have HGQ := Lib.hid (HGJ.out.trans hG)
                        clear c_n0 c_n1 c_n2 c_n3 m_n0 m_n1 m_n2 m_n3 l_n
                        clear hG xn ku kl hbl hbu
                        go_wp2_with fail
                        go_roundw
                        case rel => exact ⟨j + 1, _, HJN.out, rfl, by go_num, HGQ, HZ⟩
                        case measure => have := HJN.out; simp [intOf]; omega
                    · have HZ := Lib.hid (show z = freeTo T ry y (j + 1) by rw [HFS.out, ← HQ.out, Bool.true_and])
                      refine wp_region_G (.take 0 (.take 1 (.take 2 (.take 3 (.take 4 (.take 5 (.take 6 (.take 7 (.take 8 (.take 9 (.take 10 (.take 11 (.take 12 (.run 13 false (.take 14 (.run 15 true .nil)))))))))))))))) (by kernel_rfl) (by kernel_rfl) ?_
                      simp only [pickOps, nthOp]
                      intro wq hG
                      repeat (first | (refine wpG_skip_take ?_ ?_; (focus rfl); try simp only [Act.put, List.setIfInBounds_toArray, List.set_cons_zero, List.set_cons_succ]) | (refine wpG_skip_run ?_ ?_; (focus rfl); try simp only [Act.put, List.setIfInBounds_toArray, List.set_cons_zero, List.set_cons_succ]) | (refine wpG_take ?_ ?_; (focus rfl); apply Exists.intro; refine ⟨fun w' hw' => ?_, ?_⟩; (focus (have hc := Gr.cells hw'; go_simp; (try rfl); done)); try simp only [Act.put, List.setIfInBounds_toArray, List.set_cons_zero, List.set_cons_succ]) | (refine wpG_run ?_ (fun K hK => ?_); (focus rfl); go_simp; (first | (go_at_call 24; (with_reducible refine (HHU.out _ (HGJ.out.trans hG)).mono ?_); rintro e w7 ⟨rfl, hb⟩)); (try dsimp only); replace hG := hG.trans hb; refine hK.out _ _ hG ?_; clear hK K hb; try simp only [Act.put, List.setIfInBounds_toArray, List.set_cons_zero, List.set_cons_succ]))
                      all_goals
                        refine wpG_last ?_ (fun K hK => ?_); (focus rfl)
                        have hc := hG.cells
                        have hm := hG.marks
                        go_simp
                        refine hK.out _ _ ?_
                        try simp only [Act.put, List.setIfInBounds_toArray, List.set_cons_zero, List.set_cons_succ]
                        clear hK K hc hm
                        refine wpG_done ?_
                        have HGQ := Lib.hid (HGJ.out.trans hG)
                        clear c_n0 c_n1 c_n2 c_n3 m_n0 m_n1 m_n2 m_n3 l_n
                        clear hG xn ku kl hbl hbu
                        go_wp2_with fail
                        go_roundw
                        case rel => exact ⟨j + 1, _, HJN.out, rfl, by go_num, HGQ, HZ⟩
                        case measure => have := HJN.out; simp [intOf]; omega
                  · have hjI2 : ¬ (j : Int) < (my : Int) := by omega
                    have hje : my = j := by omega
                    subst hje
                    have hqf : q2 = false := by
                      rw [HQ.out, ← HMY.out, freeTo_all HRY.out]
                      exact HFY.out
                    subst hqf
                    clear hj hjn
                    go_wp2_with fail
                    clear kl hbl
                    go_roundw
                    case rel => exact ⟨y + 1, HYX.out, by go_num, HGJ⟩
                    case measure => have := HYX.out; simp [intOf]; omega
              · have hyI : ¬ (y : Int) < (x : Int) := by omega
                clear hy hyx
                go_wp2_with fail
                go_roundw
                case rel => exact ⟨k + 1, HKN.out, by go_num, HGY⟩
                case measure => have := HKN.out; simp [intOf]; omega
      · have hkI : ¬ (k : Int) < (nd : Int) := by omega
        clear hk hkn
        go_wp2_with fail
        go_at_call 21
        (with_reducible refine (HWK.out wr (HG5.out.trans HG.out)).mono ?_); rintro e w9 ⟨rfl, hg9⟩
        go_wp2_with fail
        go_ret
        exact ⟨rfl, (HG5.out.trans HG.out).trans hg9⟩


end Go.Proofs.YtkkopdmemjncdaaGreatDoor
