/- Texts of mine, put together: SpE. No condition but what each says. -/
import Derived.Test.YtkkopdmemjncdaaGreatDoorPSpD
import Derived.Test.YtkkopdmemjncdaaGreatDoorPGc
import Derived.Deep.DeepCutAuto
import Derived.Deep.CutBlock
namespace Go.Proofs.YtkkopdmemjncdaaGreatDoor
open Go Go.RowKit
theorem wpList_wanted {P : Program} {ops : Array Oper} {Q : Exit → Act → World → Prop} {a : Act} {w : World} {rest : List Oper} {o : Oper} (hw : Region.wanted o (yielded ops a.tmps) = true)
  (h : ∀ K : Act → World → Prop, (∀ a w, wpList P ops Q rest a w → K a w) → o.wp P a w K Q) : wpList P ops Q (o :: rest) a w := wpList_step fun K hK => by rw [if_pos hw]; exact h K hK
def chkRes (b : Bool) (er : Value) : Value := if b = true then .nilIface else er
def okM (m : Md) : Bool := namedB m.name && placedB m.pos
def okD (d : Df) : Bool := namedB d.name && (placedB d.pos && mayE 1 d.ex)
theorem all_snoc {α : Type} (f : α → Bool) (l : List α) (k : Nat) (a : α) (h : l[k]? = some a) : (l.take (k + 1)).all f = ((l.take k).all f && f a) := by
 rw [List.take_add_one, h]; simp
theorem RlIn.form {w : World} {r : Rl} {cs : List Value} (h : RlIn w r cs) : ∃ (po : Int) (al : Bool) (pum : Option Addr) (num cum : Nat) (op ps : Int) (s1 : BitVec 256) (tx : ByteArray) (mn mx : Int) (p1 : Option Addr) (n1 c1 : Nat) (ht : Bool) (op2 ps2 : Int) (s2 : BitVec 256) (tx2 : ByteArray) (mn2 mx2 : Int) (p2 : Option Addr) (n2 c2 : Nat) (lb : ByteArray) (pua : Option Addr) (nua cua : Nat), cs = [.int .i64 po, .bool al, .slice pum num cum, .int .i64 op, .int .i64 ps, .int .u64 (wd s1 0), .int .u64 (wd s1 1), .int .u64 (wd s1 2), .int .u64 (wd s1 3), .string tx, .int .i64 mn, .int .i64 mx, .slice p1 n1 c1, .bool ht, .int .i64 op2, .int .i64 ps2, .int .u64 (wd s2 0), .int .u64 (wd s2 1), .int .u64 (wd s2 2), .int .u64 (wd s2 3), .string tx2, .int .i64 mn2, .int .i64 mx2, .slice p2 n2 c2, .string lb, .slice pua nua cua] := by
 cases h with
 |
  mk vm va ec tc he ht hm hmn hmb hmo ha han hab hao hl hp =>
  obtain ⟨op, ps, s1, tx, mn, mx, p1, n1, c1, rfl⟩ := he.formN
  obtain ⟨op2, ps2, s2, tx2, mn2, mx2, p2, n2, c2, rfl⟩ := ht.formN
  obtain ⟨pum, cum, rfl⟩ := hm.len
  obtain ⟨pua, cua, rfl⟩ := ha.len
  exact ⟨_, _, pum, _, cum, op, ps, s1, tx, mn, mx, p1, n1, c1, _, op2, ps2, s2, tx2, mn2, mx2, p2, n2, c2, _, pua, _, cua, rfl⟩
set_option maxRecDepth 100000 in
set_option maxHeartbeats 8000000 in
theorem
    checkN_any (s : Sc) (vm vd vr er : Value) (w : World) (h : ScIn w s vm vd vr) (he : w.cell? ⟨0, 0, none⟩ = some er) :
  Calls Tryz.prog 41 #[scV vm vd vr] w fun e w' => e = .returned (chkRes (specC s) er) ∧ Gr w w' := by
 obtain ⟨dl, rl, hd, hr, hm, hmo, hmn, hmb, hds, hdi, hdn, hdb, hrs, hri, hrn, hrb⟩ := h
 have HE := Lib.hid he
 obtain ⟨pm, cm, rfl⟩ := hm.len
 obtain ⟨pd, cd, rfl⟩ := hds.len
 obtain ⟨pr, cr, rfl⟩ := hrs.len
 have HM := Lib.hid hm
 have HMO := Lib.hid hmo
 have HD := Lib.hid hds
 have HDI := Lib.hid hdi
 have HR := Lib.hid hrs
 have HRI := Lib.hid hri
 obtain ⟨nm', hnm⟩ : ∃ n, s.modes.length = n := ⟨_, rfl⟩
 obtain ⟨nd, hnd⟩ : ∃ n, dl.length = n := ⟨_, rfl⟩
 obtain ⟨nr, hnr⟩ : ∃ n, rl.length = n := ⟨_, rfl⟩
 have HC := Lib.hid (show specC s = (decide (nm' ≤ 16 ∧ nd ≤ 200 ∧ nr ≤ 200) && (s.modes.all okM && (dl.all (fun p => okD p.1) && rl.all (fun p => ruleC p.1)))) from by
  unfold specC
  rw [← hd, ← hr, List.length_map, List.length_map, hnm, hnd, hnr, List.all_map, List.all_map]; rfl)
 have HNM := Lib.hid hnm
 have HND := Lib.hid hnd
 have HNR := Lib.hid hnr
 rw [hnm] at hmb ⊢
 rw [hnd] at hdb ⊢
 rw [hnr] at hrb ⊢
 clear he hm hmo hmn hds hdi hdn hrs hri hrn hnm hnd hnr hd hr
 unfold scV
 obtain ⟨L0, hL0⟩ : ∃ b : Bool, (decide (nm' ≤ 16 ∧ nd ≤ 200 ∧ nr ≤ 200)) = b := ⟨_, rfl⟩
 have HL0 := Lib.hid hL0
 rw [hL0] at HC
 have HLE := Lib.hid (show (L0 = true → nm' ≤ 16 ∧ nd ≤ 200 ∧ nr ≤ 200) ∧ (L0 = false → 16 < nm' ∨ 200 < nd ∨ 200 < nr) from ⟨fun h => of_decide_eq_true (hL0.trans h), fun h => by
  have := of_decide_eq_false (hL0.trans h); omega⟩)
 clear hL0
 go_enter Tryz.func41, Tryz.ntmps41
 go_upto_region 1 with fail
 refine name_world (fun W hW => ?_)
 have xp : boxAt W w.heap.size [.slice pm nm' cm, .slice pd nd cd, .slice pr nr cr] := by rw [hW]; exact boxAt.new [.slice pm nm' cm, .slice pd nd cd, .slice pr nr cr] _ rfl
 have hgW : Gr w W := by rw [hW]; exact Gr.alloc _ _
 clear hW
 obtain ⟨c_p0, c_p1, c_p2, m_p0, m_p1, m_p2, l_p⟩ := unb3 xp
 go_cut [3] from 10 to 25 (fun v wx => v = .bool (!L0) ∧ W = wx)
 case first =>
  cases L0 with
  |
   true =>
   obtain ⟨q1, q2, q3⟩ := HLE.out.1 rfl
   have q1I : ¬ (16 : Int) < (nm' : Int) := by omega
   have q2I : ¬ (200 : Int) < (nd : Int) := by omega
   have q3I : ¬ (200 : Int) < (nr : Int) := by omega
   go_wp2_with fail
   go_meet
   case rel => exact ⟨rfl, rfl⟩
  |
   false =>
   by_cases q1I : (16 : Int) < (nm' : Int)
   ·
    go_wp2_with fail
    go_meet
    case rel => exact ⟨rfl, rfl⟩
   by_cases q2I : (200 : Int) < (nd : Int)
   ·
    go_wp2_with fail
    go_meet
    case rel => exact ⟨rfl, rfl⟩
   have q3I : (200 : Int) < (nr : Int) := by rcases HLE.out.2 rfl with h | h | h <;> omega
   go_wp2_with fail
   go_meet
   case rel => exact ⟨rfl, rfl⟩
 case rest =>
 obtain ⟨rfl, rfl⟩ := hcut
 have HG0 := Lib.hid (Gr.refl W)
 go_upto_block 0 with fail
 go_cut [3, 5] from 29 to 46 (fun v _ wx => v = .bool (!(L0 && s.modes.all okM)) ∧ Gr W wx)
 case first =>
  go_wp2_with fail
  go_loopw [3, 5, 29] (fun bv _ i wr => ∃ (k : Nat) (b : Bool), bv = .bool b ∧ k ≤ nm' ∧ i = .int .i64 (k : Int) ∧ Gr W wr ∧ Hid ((!b) = (L0 && (s.modes.take k).all okM))) (fun _ _ i _ => nm' - (intOf i).toNat)
  case atStart => exact ⟨0, _, rfl, Nat.zero_le _, rfl, HG0.out, Lib.hid (by simp)⟩
  case round =>
   obtain ⟨k, b, rfl, hk, rfl, hgr, HB⟩ := hrel
   rcases Nat.lt_or_ge k nm' with hkn | hkn
   ·
    have hkI : (k : Int) < (nm' : Int) := by omega
    have HKN := Lib.hid hkn
    obtain ⟨x, hx⟩ : ∃ x, s.modes[k]? = some x := ⟨_, List.getElem?_eq_getElem (by rw [HNM.out]; exact hkn)⟩
    have hg : Gr w wr := hgW.trans hgr
    obtain ⟨b2, off, hpm, hbl, hc⟩ := mode_at HM.out hx
    have hok := HMO.out x (List.mem_of_getElem? hx)
    obtain ⟨nm, ow, po⟩ := x
    subst hpm
    have k0 : wr.cell? ⟨b2, off + k * 3, none⟩ = some (.string nm) := hg.cell (hc 0 _ rfl)
    have k1 : wr.cell? ⟨b2, off + k * 3 + 1, none⟩ = some (.bool ow) := hg.cell (hc 1 _ rfl)
    have k2 : wr.cell? ⟨b2, off + k * 3 + 2, none⟩ = some (.int .i64 po) := hg.cell (hc 2 _ rfl)
    have hbr := Nat.lt_of_lt_of_le hbl hg.size
    have HX := Lib.hid hx
    have HA := Lib.hid (fun w' => namedS_any nm w' hok.1)
    have HP := Lib.hid (fun w' => placedS_any po w')
    clear hx hok hk hkn hc
    cases b with
    |
     true =>
     go_wp2_with fail
     go_roundw
     case rel => exact ⟨k + 1, true, rfl, HKN.out, by go_num, hgr.trans (Gr.alloc _ _), Lib.hid (by rw [all_snoc _ _ _ _ HX.out, ← Bool.and_assoc, ← HB.out]; simp)⟩
     case measure => have := HKN.out; simp [intOf]; omega
    |
     false =>
     go_wp2_with fail
     refine name_calls (fun W1 hW1 => ?_)
     have hb1 : Gr wr W1 := by rw [hW1]; exact Gr.alloc _ _
     have xb : boxAt W1 wr.heap.size [.string nm, .bool ow, .int .i64 po] := by rw [hW1]; exact boxAt.new [.string nm, .bool ow, .int .i64 po] _ rfl
     clear hW1
     obtain ⟨c_e0, c_e1, c_e2, m_e0, m_e1, m_e2, l_e⟩ := unb3 xb
     go_at_call 71
     (with_reducible refine (HA.out W1).mono ?_); rintro e w1 ⟨rfl, hw1⟩; subst hw1
     cases h1 : namedB nm with
     |
      false =>
      have H1 := Lib.hid h1
      clear h1
      go_wp2_with fail
      clear c_e0 c_e1 c_e2 m_e0 m_e1 m_e2 l_e
      go_roundw
      case rel => exact ⟨k + 1, true, rfl, HKN.out, by go_num, hgr.trans hb1, Lib.hid (by rw [all_snoc _ _ _ _ HX.out, ← Bool.and_assoc, ← HB.out]; simp [okM, H1.out])⟩
      case measure => have := HKN.out; simp [intOf]; omega
     |
      true =>
      have H1 := Lib.hid h1
      clear h1
      go_wp2_with fail
      go_at_call 72
      (with_reducible refine (HP.out _).mono ?_); rintro e w2 ⟨rfl, hw2⟩; subst hw2
      cases h2 : placedB po
      all_goals
       have H2 := Lib.hid h2
       clear h2
       go_wp2_with fail
       clear c_e0 c_e1 c_e2 m_e0 m_e1 m_e2 l_e
       go_roundw
       case rel => exact ⟨k + 1, _, rfl, HKN.out, by go_num, hgr.trans hb1, Lib.hid (by rw [all_snoc _ _ _ _ HX.out, ← Bool.and_assoc, ← HB.out]; simp [okM, H1.out, H2.out])⟩
       case measure => have := HKN.out; simp [intOf]; omega
   ·
    have hkl : ¬ (k : Int) < (nm' : Int) := by omega
    have HF := Lib.hid (show b = !(L0 && s.modes.all okM) by
     have := HB.out
     rw [List.take_of_length_le (by have := HNM.out; omega)] at this
     rw [← this, Bool.not_not])
    clear hk hkn HB
    go_wp2_with fail
    go_meet
    case rel => exact ⟨by rw [HF.out], hgr⟩
 case rest =>
 obtain ⟨rfl, hG1⟩ := hcut
 clear HG0
 have HG0 := Lib.hid hG1
 clear hG1
 have xp1 := xp.later HG0.out
 clear c_p0 c_p1 c_p2 m_p0 m_p1 m_p2 l_p
 obtain ⟨c_p0, c_p1, c_p2, m_p0, m_p1, m_p2, l_p⟩ := unb3 xp1
 go_upto_block 2 with fail
 go_cut [3, 7] from 50 to 73 (fun v _ wx => v = .bool (!((L0 && s.modes.all okM) && dl.all (fun p => okD p.1))) ∧ Gr W wx)
 case first =>
  go_wp2_with fail
  go_loopw [3, 7, 50] (fun bv _ i wr => ∃ (k : Nat) (b : Bool), bv = .bool b ∧ k ≤ nd ∧ i = .int .i64 (k : Int) ∧ Gr W wr ∧ Hid ((!b) = ((L0 && s.modes.all okM) && (dl.take k).all (fun p => okD p.1)))) (fun _ _ i _ => nd - (intOf i).toNat)
  case atStart => exact ⟨0, _, rfl, Nat.zero_le _, rfl, HG0.out, Lib.hid (by simp)⟩
  case round =>
   obtain ⟨k, b, rfl, hk, rfl, hgr, HB⟩ := hrel
   rcases Nat.lt_or_ge k nd with hkn | hkn
   ·
    have hkI : (k : Int) < (nd : Int) := by omega
    have HKN := Lib.hid hkn
    obtain ⟨⟨d, cs⟩, hx⟩ : ∃ x, dl[k]? = some x := ⟨_, List.getElem?_eq_getElem (by rw [HND.out]; exact hkn)⟩
    have hg : Gr w wr := hgW.trans hgr
    obtain ⟨b2, off, hpm, hbl, hc⟩ := elem_at HD.out (fun x hx => (HDI.out x hx).len) rfl hx
    have hok := HDI.out _ (List.mem_of_getElem? hx)
    dsimp only at hok hc
    cases hok with
    | mk ec hee hnn hpp =>
    obtain ⟨nm, po, ex⟩ := d
    dsimp only at hee hnn hpp hc
    obtain ⟨op, ps, s1, tx, mn, mx, p1, n1, c1, rfl⟩ := hee.formN
    subst hpm
    have k0 : wr.cell? ⟨b2, off + k * 12, none⟩ = some (.string nm) := hg.cell (hc 0 _ rfl)
    have k1 : wr.cell? ⟨b2, off + k * 12 + 1, none⟩ = some (.int .i64 po) := hg.cell (hc 1 _ rfl)
    have k2 : wr.cell? ⟨b2, off + k * 12 + 2, none⟩ = some (.int .i64 op) := hg.cell (hc 2 _ rfl)
    have k3 : wr.cell? ⟨b2, off + k * 12 + 3, none⟩ = some (.int .i64 ps) := hg.cell (hc 3 _ rfl)
    have k4 : wr.cell? ⟨b2, off + k * 12 + 4, none⟩ = some (.int .u64 (wd s1 0)) := hg.cell (hc 4 _ rfl)
    have k5 : wr.cell? ⟨b2, off + k * 12 + 5, none⟩ = some (.int .u64 (wd s1 1)) := hg.cell (hc 5 _ rfl)
    have k6 : wr.cell? ⟨b2, off + k * 12 + 6, none⟩ = some (.int .u64 (wd s1 2)) := hg.cell (hc 6 _ rfl)
    have k7 : wr.cell? ⟨b2, off + k * 12 + 7, none⟩ = some (.int .u64 (wd s1 3)) := hg.cell (hc 7 _ rfl)
    have k8 : wr.cell? ⟨b2, off + k * 12 + 8, none⟩ = some (.string tx) := hg.cell (hc 8 _ rfl)
    have k9 : wr.cell? ⟨b2, off + k * 12 + 9, none⟩ = some (.int .i64 mn) := hg.cell (hc 9 _ rfl)
    have k10 : wr.cell? ⟨b2, off + k * 12 + 10, none⟩ = some (.int .i64 mx) := hg.cell (hc 10 _ rfl)
    have k11 : wr.cell? ⟨b2, off + k * 12 + 11, none⟩ = some (.slice p1 n1 c1) := hg.cell (hc 11 _ rfl)
    have hbr := Nat.lt_of_lt_of_le hbl hg.size
    have HX := Lib.hid hx
    have HA := Lib.hid (fun w' => namedS_any nm w' hnn)
    have HP := Lib.hid (fun w' => placedS_any po w')
    have HY := Lib.hid (fun w' (hg' : Gr w w') => may_any _ ex (Nat.le_refl _) _ w' 1 (hee.later hg') (by omega))
    unfold exCells at HY
    try dsimp only at HY
    have e11 : ((1 : Nat) : Int) = 1 := rfl
    rw [e11] at HY
    clear hx hnn hpp hee hk hkn hc e11
    cases b with
    |
     true =>
     go_wp2_with fail
     go_roundw
     case rel => exact ⟨k + 1, true, rfl, HKN.out, by go_num, hgr.trans (Gr.alloc _ _), Lib.hid (by rw [all_snoc _ _ _ _ HX.out, ← Bool.and_assoc, ← HB.out]; simp)⟩
     case measure => have := HKN.out; simp [intOf]; omega
    |
     false
        =>
     go_wp2_with fail
     refine name_calls (fun W1 hW1 => ?_)
     have hb1 : Gr wr W1 := by rw [hW1]; exact Gr.alloc _ _
     have xb : boxAt W1 wr.heap.size [.string nm, .int .i64 po, .int .i64 op, .int .i64 ps, .int .u64 (wd s1 0), .int .u64 (wd s1 1), .int .u64 (wd s1 2), .int .u64 (wd s1 3), .string tx, .int .i64 mn, .int .i64 mx, .slice p1 n1 c1] := by rw [hW1]; exact boxAt.new [.string nm, .int .i64 po, .int .i64 op, .int .i64 ps, .int .u64 (wd s1 0), .int .u64 (wd s1 1), .int .u64 (wd s1 2), .int .u64 (wd s1 3), .string tx, .int .i64 mn, .int .i64 mx, .slice p1 n1 c1] _ rfl
     clear hW1
     obtain ⟨c_e0, c_e1, c_e2, c_e3, c_e4, c_e5, c_e6, c_e7, c_e8, c_e9, c_e10, c_e11, m_e0, m_e1, m_e2, m_e3, m_e4, m_e5, m_e6, m_e7, m_e8, m_e9, m_e10, m_e11, l_e⟩ := unb12 xb
     go_at_call 71
     (with_reducible refine (HA.out W1).mono ?_); rintro e w1 ⟨rfl, hw1⟩; subst hw1
     cases h1 : namedB nm with
     |
      false =>
      have H1 := Lib.hid h1
      clear h1
      go_wp2_with fail
      clear c_e0 c_e1 c_e2 c_e3 c_e4 c_e5 c_e6 c_e7 c_e8 c_e9 c_e10 c_e11 m_e0 m_e1 m_e2 m_e3 m_e4 m_e5 m_e6 m_e7 m_e8 m_e9 m_e10 m_e11 l_e
      go_roundw
      case rel => exact ⟨k + 1, true, rfl, HKN.out, by go_num, hgr.trans hb1, Lib.hid (by rw [all_snoc _ _ _ _ HX.out, ← Bool.and_assoc, ← HB.out]; simp [okD, H1.out])⟩
      case measure => have := HKN.out; simp [intOf]; omega
     |
      true =>
      have H1 := Lib.hid h1
      clear h1
      go_wp2_with fail
      go_at_call 72
      (with_reducible refine (HP.out _).mono ?_); rintro e w2 ⟨rfl, hw2⟩; subst hw2
      cases h2 : placedB po with
      |
       false =>
       have H2 := Lib.hid h2
       clear h2
       go_wp2_with fail
       clear c_e0 c_e1 c_e2 c_e3 c_e4 c_e5 c_e6 c_e7 c_e8 c_e9 c_e10 c_e11 m_e0 m_e1 m_e2 m_e3 m_e4 m_e5 m_e6 m_e7 m_e8 m_e9 m_e10 m_e11 l_e
       go_roundw
       case rel => exact ⟨k + 1, true, rfl, HKN.out, by go_num, hgr.trans hb1, Lib.hid (by rw [all_snoc _ _ _ _ HX.out, ← Bool.and_assoc, ← HB.out]; simp [okD, H1.out, H2.out])⟩
       case measure => have := HKN.out; simp [intOf]; omega
      |
       true =>
       have H2 := Lib.hid h2
       clear h2
       go_wp2_with fail
       go_at_call 73
       (with_reducible refine (HY.out _ (hg.trans hb1)).mono ?_); rintro e w3 ⟨rfl, hb3⟩
       clear c_e0 c_e1 c_e2 c_e3 c_e4 c_e5 c_e6 c_e7 c_e8 c_e9 c_e10 c_e11 m_e0 m_e1 m_e2 m_e3 m_e4 m_e5 m_e6 m_e7 m_e8 m_e9 m_e10 m_e11 l_e
       cases h3 : mayE 1 ex
       all_goals
        have H3 := Lib.hid h3
        clear h3
        go_wp2_with fail
        go_roundw
        case rel => exact ⟨k + 1, _, rfl, HKN.out, by go_num, (hgr.trans hb1).trans hb3, Lib.hid (by rw [all_snoc _ _ _ _ HX.out, ← Bool.and_assoc, ← HB.out]; simp [okD, H1.out, H2.out, H3.out])⟩
        case measure => have := HKN.out; simp [intOf]; omega
   ·
    have hkl : ¬ (k : Int) < (nd : Int) := by omega
    have HF := Lib.hid (show b = !((L0 && s.modes.all okM) && dl.all (fun p => okD p.1)) by
     have := HB.out
     rw [List.take_of_length_le (by have := HND.out; omega)] at this
     rw [← this, Bool.not_not])
    clear hk hkn HB
    go_wp2_with fail
    go_meet
    case rel => exact ⟨by rw [HF.out], hgr⟩
 case rest =>
 obtain ⟨rfl, hG1⟩ := hcut
 clear HG0
 have HG0 := Lib.hid hG1
 clear hG1
 have xp2 := xp.later HG0.out
 clear c_p0 c_p1 c_p2 m_p0 m_p1 m_p2 l_p
 obtain ⟨c_p0, c_p1, c_p2, m_p0, m_p1, m_p2, l_p⟩ := unb3 xp2
 go_upto_block 4 with fail
 go_cut [3, 9] from 77 to 87 (fun v _ wx => v = .bool (!(((L0 && s.modes.all okM) && dl.all (fun p => okD p.1)) && rl.all (fun p => ruleC p.1))) ∧ Gr W wx)
 case first =>
  go_wp2_with fail
  go_loopw [3, 9, 77] (fun bv _ i wr => ∃ (k : Nat) (b : Bool), bv = .bool b ∧ k ≤ nr ∧ i = .int .i64 (k : Int) ∧ Gr W wr ∧ Hid ((!b) = (((L0 && s.modes.all okM) && dl.all (fun p => okD p.1)) && (rl.take k).all (fun p => ruleC p.1)))) (fun _ _ i _ => nr - (intOf i).toNat)
  case atStart => exact ⟨0, _, rfl, Nat.zero_le _, rfl, HG0.out, Lib.hid (by simp)⟩
  case round =>
   obtain ⟨k, b, rfl, hk, rfl, hgr, HB⟩ := hrel
   rcases Nat.lt_or_ge k nr with hkn | hkn
   ·
    have hkI : (k : Int) < (nr : Int) := by omega
    have HKN := Lib.hid hkn
    obtain ⟨⟨r, cs⟩, hx⟩ : ∃ x, rl[k]? = some x := ⟨_, List.getElem?_eq_getElem (by rw [HNR.out]; exact hkn)⟩
    have hg : Gr w wr := hgW.trans hgr
    obtain ⟨b2, off, hpm, hbl, hc⟩ := elem_at HR.out (fun x hx => (HRI.out x hx).len) rfl hx
    have hok := HRI.out _ (List.mem_of_getElem? hx)
    dsimp only at hok hc
    have HY := Lib.hid (fun w' (hg' : Gr w w') => ruled_any r cs w' (hok.later hg'))
    obtain ⟨po, al, pum, num, cum, op, ps, s1, tx, mn, mx, p1, n1, c1, ht, op2, ps2, s2, tx2, mn2, mx2, p2, n2, c2, lb, pua, nua, cua, rfl⟩ := hok.form
    subst hpm
    have HCELL := Lib.hid (fun t u (h : ([.int .i64 po, .bool al, .slice pum num cum, .int .i64 op, .int .i64 ps, .int .u64 (wd s1 0), .int .u64 (wd s1 1), .int .u64 (wd s1 2), .int .u64 (wd s1 3), .string tx, .int .i64 mn, .int .i64 mx, .slice p1 n1 c1, .bool ht, .int .i64 op2, .int .i64 ps2, .int .u64 (wd s2 0), .int .u64 (wd s2 1), .int .u64 (wd s2 2), .int .u64 (wd s2 3), .string tx2, .int .i64 mn2, .int .i64 mx2, .slice p2 n2 c2, .string lb, .slice pua nua cua] : List Value)[t]? = some u) => hg.cell (hc t u h))
    have hbr := Nat.lt_of_lt_of_le hbl hg.size
    have HX := Lib.hid hx
    try dsimp only at HY
    clear hx hok hk hkn hc
    cases b with
    |
     true =>
     go_wp2_with (first | ((with_reducible refine wpList_plain ?_ (fun _ hK => ?_)); (focus rfl); refine wp_load_at 71 (.tmp 79) rfl b2 (off + k * 26) rfl [.int .i64 po, .bool al, .slice pum num cum, .int .i64 op, .int .i64 ps, .int .u64 (wd s1 0), .int .u64 (wd s1 1), .int .u64 (wd s1 2), .int .u64 (wd s1 3), .string tx, .int .i64 mn, .int .i64 mx, .slice p1 n1 c1, .bool ht, .int .i64 op2, .int .i64 ps2, .int .u64 (wd s2 0), .int .u64 (wd s2 1), .int .u64 (wd s2 2), .int .u64 (wd s2 3), .string tx2, .int .i64 mn2, .int .i64 mx2, .slice p2 n2 c2, .string lb, .slice pua nua cua] _ HCELL.out Tryz.underlying71 rfl (by kernel_rfl) (hK _ _ ?_)) | ((with_reducible refine wpList_plain ?_ (fun _ hK => ?_)); (focus rfl); refine wp_store_row 71 (.tmp 9) (.tmp 80) rfl wr.heap.size #[.int .i64 po, .bool al, .slice pum num cum, .int .i64 op, .int .i64 ps, .int .u64 (wd s1 0), .int .u64 (wd s1 1), .int .u64 (wd s1 2), .int .u64 (wd s1 3), .string tx, .int .i64 mn, .int .i64 mx, .slice p1 n1 c1, .bool ht, .int .i64 op2, .int .i64 ps2, .int .u64 (wd s2 0), .int .u64 (wd s2 1), .int .u64 (wd s2 2), .int .u64 (wd s2 3), .string tx2, .int .i64 mn2, .int .i64 mx2, .slice p2 n2 c2, .string lb, .slice pua nua cua] rfl rfl 71 _ (heap_alloc_new wr _) (by kernel_rfl) rfl (all_ones _ rfl) (hK _ _ ?_); clear hK; refine name_wpList (fun xc_w hxc => ?_); obtain ⟨xc, xc_g, xc_s⟩ := new_row (cs := [.int .i64 po, .bool al, .slice pum num cum, .int .i64 op, .int .i64 ps, .int .u64 (wd s1 0), .int .u64 (wd s1 1), .int .u64 (wd s1 2), .int .u64 (wd s1 3), .string tx, .int .i64 mn, .int .i64 mx, .slice p1 n1 c1, .bool ht, .int .i64 op2, .int .i64 ps2, .int .u64 (wd s2 0), .int .u64 (wd s2 1), .int .u64 (wd s2 2), .int .u64 (wd s2 3), .string tx2, .int .i64 mn2, .int .i64 mx2, .slice p2 n2 c2, .string lb, .slice pua nua cua]) hxc; clear hxc; have xc_h := boxAt.row xc; have l_c := xc.lt (Nat.succ_pos _)) | ((with_reducible refine wpList_wanted ?_ (fun _ hK => ?_)); (focus rfl); refine wp_load_at 71 (.tmp 9) rfl wr.heap.size 0 rfl [.int .i64 po, .bool al, .slice pum num cum, .int .i64 op, .int .i64 ps, .int .u64 (wd s1 0), .int .u64 (wd s1 1), .int .u64 (wd s1 2), .int .u64 (wd s1 3), .string tx, .int .i64 mn, .int .i64 mx, .slice p1 n1 c1, .bool ht, .int .i64 op2, .int .i64 ps2, .int .u64 (wd s2 0), .int .u64 (wd s2 1), .int .u64 (wd s2 2), .int .u64 (wd s2 3), .string tx2, .int .i64 mn2, .int .i64 mx2, .slice p2 n2 c2, .string lb, .slice pua nua cua] _ xc_h Tryz.underlying71 rfl (by kernel_rfl) (hK _ _ ?_); clear hK))
     clear xc_h l_c
     go_roundw
     case rel => exact ⟨k + 1, true, rfl, HKN.out, by go_num, hgr.trans xc_g, Lib.hid (by rw [all_snoc _ _ _ _ HX.out, ← Bool.and_assoc, ← HB.out]; simp)⟩
     case measure => have := HKN.out; simp [intOf]; omega
    |
     false =>
     go_wp2_with (first | ((with_reducible refine wpList_plain ?_ (fun _ hK => ?_)); (focus rfl); refine wp_load_at 71 (.tmp 79) rfl b2 (off + k * 26) rfl [.int .i64 po, .bool al, .slice pum num cum, .int .i64 op, .int .i64 ps, .int .u64 (wd s1 0), .int .u64 (wd s1 1), .int .u64 (wd s1 2), .int .u64 (wd s1 3), .string tx, .int .i64 mn, .int .i64 mx, .slice p1 n1 c1, .bool ht, .int .i64 op2, .int .i64 ps2, .int .u64 (wd s2 0), .int .u64 (wd s2 1), .int .u64 (wd s2 2), .int .u64 (wd s2 3), .string tx2, .int .i64 mn2, .int .i64 mx2, .slice p2 n2 c2, .string lb, .slice pua nua cua] _ HCELL.out Tryz.underlying71 rfl (by kernel_rfl) (hK _ _ ?_)) | ((with_reducible refine wpList_plain ?_ (fun _ hK => ?_)); (focus rfl); refine wp_store_row 71 (.tmp 9) (.tmp 80) rfl wr.heap.size #[.int .i64 po, .bool al, .slice pum num cum, .int .i64 op, .int .i64 ps, .int .u64 (wd s1 0), .int .u64 (wd s1 1), .int .u64 (wd s1 2), .int .u64 (wd s1 3), .string tx, .int .i64 mn, .int .i64 mx, .slice p1 n1 c1, .bool ht, .int .i64 op2, .int .i64 ps2, .int .u64 (wd s2 0), .int .u64 (wd s2 1), .int .u64 (wd s2 2), .int .u64 (wd s2 3), .string tx2, .int .i64 mn2, .int .i64 mx2, .slice p2 n2 c2, .string lb, .slice pua nua cua] rfl rfl 71 _ (heap_alloc_new wr _) (by kernel_rfl) rfl (all_ones _ rfl) (hK _ _ ?_); clear hK; refine name_wpList (fun xc_w hxc => ?_); obtain ⟨xc, xc_g, xc_s⟩ := new_row (cs := [.int .i64 po, .bool al, .slice pum num cum, .int .i64 op, .int .i64 ps, .int .u64 (wd s1 0), .int .u64 (wd s1 1), .int .u64 (wd s1 2), .int .u64 (wd s1 3), .string tx, .int .i64 mn, .int .i64 mx, .slice p1 n1 c1, .bool ht, .int .i64 op2, .int .i64 ps2, .int .u64 (wd s2 0), .int .u64 (wd s2 1), .int .u64 (wd s2 2), .int .u64 (wd s2 3), .string tx2, .int .i64 mn2, .int .i64 mx2, .slice p2 n2 c2, .string lb, .slice pua nua cua]) hxc; clear hxc; have xc_h := boxAt.row xc; have l_c := xc.lt (Nat.succ_pos _)) | ((with_reducible refine wpList_wanted ?_ (fun _ hK => ?_)); (focus rfl); refine wp_load_at 71 (.tmp 9) rfl wr.heap.size 0 rfl [.int .i64 po, .bool al, .slice pum num cum, .int .i64 op, .int .i64 ps, .int .u64 (wd s1 0), .int .u64 (wd s1 1), .int .u64 (wd s1 2), .int .u64 (wd s1 3), .string tx, .int .i64 mn, .int .i64 mx, .slice p1 n1 c1, .bool ht, .int .i64 op2, .int .i64 ps2, .int .u64 (wd s2 0), .int .u64 (wd s2 1), .int .u64 (wd s2 2), .int .u64 (wd s2 3), .string tx2, .int .i64 mn2, .int .i64 mx2, .slice p2 n2 c2, .string lb, .slice pua nua cua] _ xc_h Tryz.underlying71 rfl (by kernel_rfl) (hK _ _ ?_); clear hK))
     clear xc_h l_c
     go_at_call 74
     (with_reducible refine (HY.out _ (hg.trans xc_g)).mono ?_); rintro e w3 ⟨rfl, hb3⟩
     cases h3 : ruleC r
     all_goals
      have H3 := Lib.hid h3
      clear h3
      go_wp2_with fail
      go_roundw
      case rel => exact ⟨k + 1, _, rfl, HKN.out, by go_num, (hgr.trans xc_g).trans hb3, Lib.hid (by rw [all_snoc _ _ _ _ HX.out, ← Bool.and_assoc, ← HB.out]; simp [H3.out])⟩
      case measure => have := HKN.out; simp [intOf]; omega
   ·
    have hkl : ¬ (k : Int) < (nr : Int) := by omega
    have HF := Lib.hid (show b = !(((L0 && s.modes.all okM) && dl.all (fun p => okD p.1)) && rl.all (fun p => ruleC p.1)) by
     have := HB.out
     rw [List.take_of_length_le (by have := HNR.out; omega)] at this
     rw [← this, Bool.not_not])
    clear hk hkn HB
    go_wp2_with fail
    go_meet
    case rel => exact ⟨by rw [HF.out], hgr⟩
 case rest =>
 obtain ⟨rfl, hG1⟩ := hcut
 clear HG0
 have HG0 := Lib.hid hG1
 clear hG1
 clear c_p0 c_p1 c_p2 m_p0 m_p1 m_p2 l_p
 have hg := hgW.trans HG0.out
 have hgl := hg.cell HE.out
 have HCC := Lib.hid (show specC s = (((L0 && s.modes.all okM) && dl.all (fun p => okD p.1)) && rl.all (fun p => ruleC p.1)) from by rw [HC.out]; simp only [Bool.and_assoc])
 obtain ⟨F, hF⟩ : ∃ b, (((L0 && s.modes.all okM) && dl.all (fun p => okD p.1)) && rl.all (fun p => ruleC p.1)) = b := ⟨_, rfl⟩
 rw [hF] at HCC ⊢
 clear hF
 cases F
 all_goals
  go_wp2_with fail
  go_ret
  exact ⟨by rw [HCC.out]; rfl, hg⟩
end Go.Proofs.YtkkopdmemjncdaaGreatDoor
