/- Texts of mine, put together: Size6, NmH. No condition but what each says. -/
import Derived.Test.YtkkopdmemjncdaaGreatDoorPEx
import Derived.WalkSpells
import Derived.WalkLawsBesides
import Derived.Lib.Hide
import Derived.Test.YtkkopdmemjncdaaGreatDoorPSpE
namespace Go.Proofs.YtkkopdmemjncdaaGreatDoor
open Go Go.RowKit
mutual
def sizeE : Ex → Nat → Nat
 | .mk _ _ _ _ _ _ args, d => if 2500 < d then 1048576 else sizeL args d 1
def sizeL : List Ex → Nat → Nat → Nat
 | [], _, n => n
 | a :: r, d, n => if n < 1048576 then sizeL r d (n + sizeE a (d + 1)) else n
end
theorem sizeL_stop (l : List Ex) (d n : Nat) (h : 1048576 ≤ n) : sizeL l d n = n := by
 cases l with
 | nil => rw [sizeL]
 | cons a r => rw [sizeL, if_neg (by omega)]
theorem
    size_bound : ∀ k, ∀ e : Ex, SizeOf.sizeOf e ≤ k → ∀ d, d ≤ 2501 → sizeE e d ≤ 1048576 * (2502 - d) := by
 intro k
 induction k with
 | zero => intro e h; cases e; simp only [Ex.mk.sizeOf_spec] at h; omega
 |
  succ k ih
       =>
  intro e h d hd
  cases e with
  |
   mk op
      pos s text mn mx args =>
   rw [sizeE]
   split
   ·
    have : d = 2501 := by omega
    subst this; omega
   ·
    have key : ∀ (r : List Ex) (n : Nat), (∀ a ∈ r, a ∈ args) → n ≤ 1048576 * (2502 - d) → sizeL r d n ≤ 1048576 * (2502 - d) := by
     intro r
     induction r with
     | nil => intro n _ hn; rw [sizeL]; exact hn
     |
      cons a r ihr =>
      intro n hr hn
      rw [sizeL]
      split
      ·
       have ha := Ex.size_arg (.mk op pos s text mn mx args) a (hr a (by simp))
       have := ih a (by omega) (d + 1) (by omega)
       refine ihr _ (fun b hb => hr b (by simp [hb])) ?_
       omega
      · exact hn
    exact key args 1 (fun a h => h) (by omega)
set_option maxRecDepth 100000 in
set_option maxHeartbeats 2000000 in
theorem
    size_any : ∀ k, ∀ (e : Ex), SizeOf.sizeOf e ≤ k → ∀ (cs : List Value) (w : World) (d : Nat), ExIn w e cs → d ≤ 2501 →
  Calls Tryz.prog 31 #[.agg cs.toArray, .int .i64 (d : Int)] w fun e' w' => e' = .returned (.int .i64 (sizeE e d : Nat)) ∧ Gr w w' := by
 intro k
 induction k with
 | zero => intro e h; cases e; simp only [Ex.mk.sizeOf_spec] at h; omega
 |
  succ k ih
       =>
  intro e hk cs w d he hd
  cases he with
  |
   mk op
      pos
        s text mn mx v l h1 h2 h3 h4 h5 hlen hs hn hb hargs =>
   have HK := Lib.hid (fun p (hp : p ∈ l) => by
    have := Ex.size_arg (.mk op pos s text mn mx (l.map (·.1))) p.1 (List.mem_map.2 ⟨p, hp, rfl⟩)
    exact (show SizeOf.sizeOf p.1 ≤ k by omega))
   have HIH := Lib.hid ih
   have HS := Lib.hid hs
   have HA := Lib.hid hargs
   have HLEN := Lib.hid hlen
   obtain ⟨pv, cv, rfl⟩ := hs.len
   have hll : l.length ≤ 140737488351232 := by omega
   clear ih hk h1 h2 h3 h4 h5 hn hs hargs hlen hb
   unfold exCells
   by_cases hd5 : 2500 < d
   ·
    have hdI : (2500 : Int) < (d : Int) := by omega
    have HE := Lib.hid (show sizeE (.mk op pos s text mn mx (l.map (·.1))) d = 1048576 by rw [sizeE, if_pos hd5])
    clear hd5
    go_enter Tryz.func31, Tryz.ntmps31
    go_wp2_with fail
    go_ret
    exact ⟨ret_int (by rw [HE.out]; rfl), Gr.alloc _ _⟩
   ·
    have hdI : ¬ (2500 : Int) < (d : Int) := by omega
    have HE := Lib.hid (show sizeE (.mk op pos s text mn mx (l.map (·.1))) d = sizeL (l.map (·.1)) d 1 by rw [sizeE, if_neg hd5])
    have HD := Lib.hid hd5
    clear hd5
    go_enter Tryz.func31, Tryz.ntmps31
    go_wp2_with fail
    refine name_world (fun W hW => ?_)
    have xe : boxAt W (w.heap.size) [.int .i64 op, .int .i64 pos, .int .u64 (wd s 0), .int .u64 (wd s 1), .int .u64 (wd s 2), .int .u64 (wd s 3), .string text, .int .i64 mn, .int .i64 mx, (.slice pv l.length cv)] := by
     subst hW; intro j u hj
     match j, hj with
     | 0, hj => simp at hj; subst hj; constructor <;> go_simp
     | 1, hj => simp at hj; subst hj; constructor <;> go_simp
     | 2, hj => simp at hj; subst hj; constructor <;> go_simp
     | 3, hj => simp at hj; subst hj; constructor <;> go_simp
     | 4, hj => simp at hj; subst hj; constructor <;> go_simp
     | 5, hj => simp at hj; subst hj; constructor <;> go_simp
     | 6, hj => simp at hj; subst hj; constructor <;> go_simp
     | 7, hj => simp at hj; subst hj; constructor <;> go_simp
     | 8, hj => simp at hj; subst hj; constructor <;> go_simp
     | 9, hj => simp at hj; subst hj; constructor <;> go_simp
    have hgW : Gr w W := by rw [hW]; exact Gr.alloc _ _
    clear hW
    have HSW := Lib.hid (HS.out.later hgW)
    go_loopw [5, 6] (fun n i wr => ∃ (j m : Nat), j ≤ l.length ∧ m ≤ 1048576 * (2502 - d) ∧ n = .int .i64 (m : Int) ∧ i = .int .i64 (j : Int) ∧ Gr W wr ∧ Hid (sizeL (l.map (·.1)) d 1 = sizeL ((l.drop j).map (·.1)) d m)) (fun _ i _ => l.length - (intOf i).toNat)
    case atStart => exact ⟨0, 1, by omega, by have := HD.out; omega, rfl, rfl, Gr.refl _, Lib.hid rfl⟩
    case round =>
     obtain ⟨j, m, hj, hm, rfl, rfl, hg, HR⟩ := hrel
     have ye := xe.later hg
     have hm2 : m ≤ 2623537152 := by have := HD.out; omega
     by_cases hlt : j < l.length
     ·
      by_cases hm1 : m < 1048576
      ·
       obtain ⟨b, off, op2, pos2, s2, text2, mn2, mx2, p2, n2, c2, a, rfl, hbW, ha, hin, hat⟩ := args_at HSW.out HLEN.out (fun p hp => (HA.out p hp).later hgW) j hlt
       have HR2 := Lib.hid (show sizeL (l.map (·.1)) d 1 = sizeL ((l.drop (j + 1)).map (·.1)) d (m + sizeE a (d + 1)) by
        rw [HR.out, drop_cons_of ha, List.map_cons, sizeL, if_pos hm1])
       have HSA := Lib.hid (HK.out _ (List.mem_of_getElem? ha))
       have HBD := Lib.hid (size_bound k a HSA.out (d + 1) (by have := HD.out; omega))
       obtain ⟨hbr, hcell⟩ := hat wr hg
       unfold exCells at hcell
       have d0 := hcell 0 _ (by omega) rfl
       have d1 := hcell 1 _ (by omega) rfl
       have d2 := hcell 2 _ (by omega) rfl
       have d3 := hcell 3 _ (by omega) rfl
       have d4 := hcell 4 _ (by omega) rfl
       have d5 := hcell 5 _ (by omega) rfl
       have d6 := hcell 6 _ (by omega) rfl
       have d7 := hcell 7 _ (by omega) rfl
       have d8 := hcell 8 _ (by omega) rfl
       have d9 := hcell 9 _ (by omega) rfl
       simp only [Nat.add_zero] at d0
       have HIN := Lib.hid (hin.later hg)
       have hjI : (j : Int) < (l.length : Int) := by omega
       have hmI : (m : Int) < 1048576 := by omega
       have HLT := Lib.hid hlt
       clear hlt hm1 hcell hin hat ha hj hm hbW
       have hd1 : ((d + 1 : Nat) : Int) = (d : Int) + 1 := by omega
       have HC := Lib.hid (HIH.out a HSA.out _ wr (d + 1) HIN.out (by have := HD.out; omega))
       unfold exCells at HC
       rw [hd1] at HC
       clear hd1
       obtain ⟨c_e0, c_e1, c_e2, c_e3, c_e4, c_e5, c_e6, c_e7, c_e8, c_e9, m_e0, m_e1, m_e2, m_e3, m_e4, m_e5, m_e6, m_e7, m_e8, m_e9, l_e⟩ := unb10 ye
       go_wp2_with fail
       clear c_e0 c_e1 c_e2 c_e3 c_e4 c_e5 c_e6 c_e7 c_e8 c_e9 m_e0 m_e1 m_e2 m_e3 m_e4 m_e5 m_e6 m_e7 m_e8 m_e9 l_e
       go_at_call 31
       refine HC.out.mono ?_; rintro e' w2 ⟨rfl, hb⟩
       obtain ⟨q, hq⟩ : ∃ q, sizeE a (d + 1) = q := ⟨_, rfl⟩
       have hql : q ≤ 1048576 * (2502 - (d + 1)) := by rw [← hq]; exact HBD.out
       have HQ := Lib.hid hq
       rw [hq]
       have hq2 : q ≤ 2623537152 := by omega
       clear hq
       go_wp2_with fail
       go_roundw
       case rel => exact ⟨j + 1, m + q, by have := HLT.out; omega, by have := HD.out; omega, by go_num, by go_num, hg.trans hb, Lib.hid (by rw [← HQ.out]; exact HR2.out)⟩
       case measure => have := HLT.out; simp [intOf]; omega
      ·
       have hmI : ¬ (m : Int) < 1048576 := by omega
       have hjI : (j : Int) < (l.length : Int) := by omega
       have HE2 := Lib.hid (show sizeL (l.map (·.1)) d 1 = m by rw [HR.out, sizeL_stop _ _ _ (by omega)])
       clear hlt hm1 hj hm
       obtain ⟨c_e0, c_e1, c_e2, c_e3, c_e4, c_e5, c_e6, c_e7, c_e8, c_e9, m_e0, m_e1, m_e2, m_e3, m_e4, m_e5, m_e6, m_e7, m_e8, m_e9, l_e⟩ := unb10 ye
       go_wp2_with fail
       go_ret
       exact ⟨ret_int (by rw [HE.out, HE2.out]), hgW.trans hg⟩
     ·
      have hjE : j = l.length := by omega
      have HE2 := Lib.hid (show sizeL (l.map (·.1)) d 1 = m by rw [HR.out, hjE, List.drop_length, List.map_nil, sizeL])
      clear hlt hj hm
      subst hjE
      obtain ⟨c_e0, c_e1, c_e2, c_e3, c_e4, c_e5, c_e6, c_e7, c_e8, c_e9, m_e0, m_e1, m_e2, m_e3, m_e4, m_e5, m_e6, m_e7, m_e8, m_e9, l_e⟩ := unb10 ye
      go_wp2_with fail
      go_ret
      exact ⟨ret_int (by rw [HE.out, HE2.out]), hgW.trans hg⟩
end Go.Proofs.YtkkopdmemjncdaaGreatDoor
namespace Go.Proofs.YtkkopdmemjncdaaGreatDoor
open Go Go.RowKit
theorem sizeN_any {e : Ex} {cs : List Value} (w : World) (h : ExIn w e cs) (w' : World) (hg : Gr w w') : Calls Tryz.prog 31 #[.agg cs.toArray, .int .i64 0] w' fun e' w2 => e' = .returned (.int .i64 (sizeE e 0 : Nat)) ∧ Gr w' w2 :=
 size_any _ e (Nat.le_refl _) cs w' 0 (h.later hg) (by omega)
def AnyB (e : Ending) : Prop := ∃ b, e = .returned (.bool b)
set_option maxRecDepth 100000 in
set_option maxHeartbeats 8000000 in
theorem
    heavy6_any (s : Sc) (vm vd vr : Value) (w : World) (h : ScIn w s vm vd vr) : Calls Tryz.prog 9 #[scV vm vd vr] w fun e w' => AnyB e ∧ Gr w w' := by
 obtain ⟨dl, rl, hd, hr, hm, hmo, hmn, hmb, hds, hdi, hdn, hdb, hrs, hri, hrn, hrb⟩ := h
 obtain ⟨pd, cd, rfl⟩ := hds.len
 obtain ⟨pr, cr, rfl⟩ := hrs.len
 have HD := Lib.hid hds
 have HDI := Lib.hid hdi
 have HR := Lib.hid hrs
 have HRI := Lib.hid hri
 obtain ⟨nd, hnd⟩ : ∃ n, dl.length = n := ⟨_, rfl⟩
 obtain ⟨nr, hnr⟩ : ∃ n, rl.length = n := ⟨_, rfl⟩
 have HND := Lib.hid hnd
 have HNR := Lib.hid hnr
 rw [hnd] at hdb ⊢
 rw [hnr] at hrb ⊢
 obtain ⟨pm, cm, rfl⟩ := hm.len
 clear hm hmo hmn hmb hds hdi hdn hrs hri hrn hnd hnr hd hr
 unfold scV
 go_enter Tryz.func9, Tryz.ntmps9
 go_upto_block 0 with fail
 refine name_world (fun W hW => ?_)
 have xp : boxAt W w.heap.size [.slice pm s.modes.length cm, .slice pd nd cd, .slice pr nr cr] := by rw [hW]; exact boxAt.new [.slice pm s.modes.length cm, .slice pd nd cd, .slice pr nr cr] _ rfl
 have hgW : Gr w W := by rw [hW]; exact Gr.alloc _ _
 clear hW
 go_cut [3, 4] from 6 to 21 (fun v _ wx => (∃ z : Int, v = .int .i64 z) ∧ Gr W wx)
 case first =>
  go_wp2_with fail
  go_loopw [3, 4] (fun n i wr => ∃ (k : Nat) (z : Int), n = .int .i64 z ∧ i = .int .i64 (k : Int) ∧ k ≤ nd ∧ Gr W wr) (fun _ i _ => nd - (intOf i).toNat)
  case atStart => exact ⟨0, 0, rfl, rfl, Nat.zero_le _, Gr.refl _⟩
  case round =>
   obtain ⟨k, z, rfl, rfl, hk, hgr⟩ := hrel
   have yp := xp.later hgr
   obtain ⟨c_p0, c_p1, c_p2, m_p0, m_p1, m_p2, l_p⟩ := unb3 yp
   rcases Nat.lt_or_ge k nd with hkn | hkn
   ·
    have hkI : (k : Int) < (nd : Int) := by omega
    have HKN := Lib.hid hkn
    obtain ⟨⟨d, cs⟩, hx⟩ : ∃ x, dl[k]? = some x := ⟨_, List.getElem?_eq_getElem (by rw [HND.out]; exact hkn)⟩
    have hg : Gr w wr := hgW.trans hgr
    obtain ⟨b2, off, hpm, hbl, hc⟩ := elem_at HD.out (fun x hx => (HDI.out x hx).len) rfl hx
    have hok := HDI.out _ (List.mem_of_getElem? hx)
    dsimp only at hok hc
    cases hok with
    | mk ec hee hnn hpp =>
    obtain ⟨nm, po, ex⟩ := d
    dsimp only at hee hnn hpp hc
    obtain ⟨op, ps, s1, tx, mn, mx, p1, n1, c1, rfl⟩ := hee.formN
    subst hpm
    have k2 : wr.cell? ⟨b2, off + k * 12 + 2, none⟩ = some (.int .i64 op) := hg.cell (hc 2 _ rfl)
    have k3 : wr.cell? ⟨b2, off + k * 12 + 3, none⟩ = some (.int .i64 ps) := hg.cell (hc 3 _ rfl)
    have k4 : wr.cell? ⟨b2, off + k * 12 + 4, none⟩ = some (.int .u64 (wd s1 0)) := hg.cell (hc 4 _ rfl)
    have k5 : wr.cell? ⟨b2, off + k * 12 + 5, none⟩ = some (.int .u64 (wd s1 1)) := hg.cell (hc 5 _ rfl)
    have k6 : wr.cell? ⟨b2, off + k * 12 + 6, none⟩ = some (.int .u64 (wd s1 2)) := hg.cell (hc 6 _ rfl)
    have k7 : wr.cell? ⟨b2, off + k * 12 + 7, none⟩ = some (.int .u64 (wd s1 3)) := hg.cell (hc 7 _ rfl)
    have k8 : wr.cell? ⟨b2, off + k * 12 + 8, none⟩ = some (.string tx) := hg.cell (hc 8 _ rfl)
    have k9 : wr.cell? ⟨b2, off + k * 12 + 9, none⟩ = some (.int .i64 mn) := hg.cell (hc 9 _ rfl)
    have k10 : wr.cell? ⟨b2, off + k * 12 + 10, none⟩ = some (.int .i64 mx) := hg.cell (hc 10 _ rfl)
    have k11 : wr.cell? ⟨b2, off + k * 12 + 11, none⟩ = some (.slice p1 n1 c1) := hg.cell (hc 11 _ rfl)
    have hbr := Nat.lt_of_lt_of_le hbl hg.size
    have HS := Lib.hid (sizeN_any w hee wr hg)
    unfold exCells at HS
    try dsimp only at HS
    clear hx hnn hpp hee hk hkn hc
    go_wp2_with fail
    go_at_call 31
    (with_reducible refine HS.out.mono ?_); rintro e w3 ⟨rfl, hb3⟩
    obtain ⟨q, hq⟩ : ∃ q : Int, ((sizeE ex 0 : Nat) : Int) = q := ⟨_, rfl⟩
    rw [hq]
    clear hq
    go_wp2_with fail
    go_roundw
    case rel => exact ⟨k + 1, _, rfl, by go_num, HKN.out, hgr.trans hb3⟩
    case measure => have := HKN.out; simp [intOf]; omega
   ·
    have hkI : ¬ (k : Int) < (nd : Int) := by omega
    go_wp2_with fail
    go_meet
    case rel => exact ⟨⟨_, rfl⟩, hgr⟩
 case rest =>
 obtain ⟨⟨z0, rfl⟩, hG1⟩ := hcut
 go_wp2_with fail
 go_loopw [3, 5] (fun n i wr => ∃ (k : Nat) (z : Int), n = .int .i64 z ∧ i = .int .i64 (k : Int) ∧ k ≤ nr ∧ Gr W wr) (fun _ i _ => nr - (intOf i).toNat)
 case atStart => exact ⟨0, z0, rfl, rfl, Nat.zero_le _, hG1⟩
 case round =>
  obtain ⟨k, z, rfl, rfl, hk, hgr⟩ := hrel
  have yp := xp.later hgr
  obtain ⟨c_p0, c_p1, c_p2, m_p0, m_p1, m_p2, l_p⟩ := unb3 yp
  rcases Nat.lt_or_ge k nr with hkn | hkn
  ·
   have hkI : (k : Int) < (nr : Int) := by omega
   have HKN := Lib.hid hkn
   obtain ⟨⟨r, cs⟩, hx⟩ : ∃ x, rl[k]? = some x := ⟨_, List.getElem?_eq_getElem (by rw [HNR.out]; exact hkn)⟩
   have hg : Gr w wr := hgW.trans hgr
   obtain ⟨b2, off, hpm, hbl, hc⟩ := elem_at HR.out (fun x hx => (HRI.out x hx).len) rfl hx
   have hok := HRI.out _ (List.mem_of_getElem? hx)
   dsimp only at hok hc
   cases hok with
   | mk vm2 va2 ec tc hee hte hmm =>
   obtain ⟨pu, cu, rfl⟩ := hmm.len
   obtain ⟨op, ps, s1, tx, mn, mx, p1, n1, c1, rfl⟩ := hee.formN
   obtain ⟨op2, ps2, s2, tx2, mn2, mx2, p2, n2, c2, rfl⟩ := hte.formN
   subst hpm
   have k2 : wr.cell? ⟨b2, off + k * 26 + 2, none⟩ = some (.slice pu r.modes.length cu) := hg.cell (hc 2 _ rfl)
   have k3 : wr.cell? ⟨b2, off + k * 26 + 3, none⟩ = some (.int .i64 op) := hg.cell (hc 3 _ rfl)
   have k4 : wr.cell? ⟨b2, off + k * 26 + 4, none⟩ = some (.int .i64 ps) := hg.cell (hc 4 _ rfl)
   have k5 : wr.cell? ⟨b2, off + k * 26 + 5, none⟩ = some (.int .u64 (wd s1 0)) := hg.cell (hc 5 _ rfl)
   have k6 : wr.cell? ⟨b2, off + k * 26 + 6, none⟩ = some (.int .u64 (wd s1 1)) := hg.cell (hc 6 _ rfl)
   have k7 : wr.cell? ⟨b2, off + k * 26 + 7, none⟩ = some (.int .u64 (wd s1 2)) := hg.cell (hc 7 _ rfl)
   have k8 : wr.cell? ⟨b2, off + k * 26 + 8, none⟩ = some (.int .u64 (wd s1 3)) := hg.cell (hc 8 _ rfl)
   have k9 : wr.cell? ⟨b2, off + k * 26 + 9, none⟩ = some (.string tx) := hg.cell (hc 9 _ rfl)
   have k10 : wr.cell? ⟨b2, off + k * 26 + 10, none⟩ = some (.int .i64 mn) := hg.cell (hc 10 _ rfl)
   have k11 : wr.cell? ⟨b2, off + k * 26 + 11, none⟩ = some (.int .i64 mx) := hg.cell (hc 11 _ rfl)
   have k12 : wr.cell? ⟨b2, off + k * 26 + 12, none⟩ = some (.slice p1 n1 c1) := hg.cell (hc 12 _ rfl)
   have k14 : wr.cell? ⟨b2, off + k * 26 + 14, none⟩ = some (.int .i64 op2) := hg.cell (hc 14 _ rfl)
   have k15 : wr.cell? ⟨b2, off + k * 26 + 15, none⟩ = some (.int .i64 ps2) := hg.cell (hc 15 _ rfl)
   have k16 : wr.cell? ⟨b2, off + k * 26 + 16, none⟩ = some (.int .u64 (wd s2 0)) := hg.cell (hc 16 _ rfl)
   have k17 : wr.cell? ⟨b2, off + k * 26 + 17, none⟩ = some (.int .u64 (wd s2 1)) := hg.cell (hc 17 _ rfl)
   have k18 : wr.cell? ⟨b2, off + k * 26 + 18, none⟩ = some (.int .u64 (wd s2 2)) := hg.cell (hc 18 _ rfl)
   have k19 : wr.cell? ⟨b2, off + k * 26 + 19, none⟩ = some (.int .u64 (wd s2 3)) := hg.cell (hc 19 _ rfl)
   have k20 : wr.cell? ⟨b2, off + k * 26 + 20, none⟩ = some (.string tx2) := hg.cell (hc 20 _ rfl)
   have k21 : wr.cell? ⟨b2, off + k * 26 + 21, none⟩ = some (.int .i64 mn2) := hg.cell (hc 21 _ rfl)
   have k22 : wr.cell? ⟨b2, off + k * 26 + 22, none⟩ = some (.int .i64 mx2) := hg.cell (hc 22 _ rfl)
   have k23 : wr.cell? ⟨b2, off + k * 26 + 23, none⟩ = some (.slice p2 n2 c2) := hg.cell (hc 23 _ rfl)
   have hbr := Nat.lt_of_lt_of_le hbl hg.size
   have HS1 := Lib.hid (fun w' (hg' : Gr w w') => sizeN_any w hee w' hg')
   have HS2 := Lib.hid (fun w' (hg' : Gr w w') => sizeN_any w hte w' hg')
   unfold exCells at HS1 HS2
   try dsimp only at HS1 HS2
   obtain ⟨q1, hq1⟩ : ∃ q : Int, ((sizeE r.head 0 : Nat) : Int) = q := ⟨_, rfl⟩
   obtain ⟨q2, hq2⟩ : ∃ q : Int, ((sizeE r.trail 0 : Nat) : Int) = q := ⟨_, rfl⟩
   rw [hq1] at HS1
   rw [hq2] at HS2
   obtain ⟨nu, hnu⟩ : ∃ n, r.modes.length = n := ⟨_, rfl⟩
   rw [hnu] at k2
   clear hx hee hte hmm hk hkn hc hq1 hq2 hnu
   go_wp2_with fail
   refine wp_region_G (.take 0 (.take 1 (.take 2 (.take 3 (.take 4 (.take 5 (.take 6 (.take 9 (.take 10 (.take 11 (.take 12 (.take 13 (.take 14 (.take 17 (.take 18 (.take 19 (.take 20 (.take 21 (.take 22 (.take 23 (.run 7 false (.take 8 (.run 15 false (.take 16 (.take 24 (.run 25 true .nil)))))))))))))))))))))))))) (by kernel_rfl) (by kernel_rfl) ?_
   simp only [pickOps, nthOp]
   intro wq hG
   repeat (first | (refine wpG_skip_take ?_ ?_; (focus rfl); try simp only [Act.put, List.setIfInBounds_toArray, List.set_cons_zero, List.set_cons_succ]) | (refine wpG_skip_run ?_ ?_; (focus rfl); try simp only [Act.put, List.setIfInBounds_toArray, List.set_cons_zero, List.set_cons_succ]) | (refine wpG_take ?_ ?_; (focus rfl); apply Exists.intro; refine ⟨fun w' hw' => ?_, ?_⟩; (focus (have hc := Gr.cells hw'; go_simp; (try rfl); done)); try simp only [Act.put, List.setIfInBounds_toArray, List.set_cons_zero, List.set_cons_succ]) | (refine wpG_run ?_ (fun K hK => ?_); (focus rfl); go_simp; (first | (go_at_call 31; (with_reducible refine (HS1.out _ (hg.trans hG)).mono ?_); rintro e w4 ⟨rfl, hb⟩) | (go_at_call 31; (with_reducible refine (HS2.out _ (hg.trans hG)).mono ?_); rintro e w5 ⟨rfl, hb⟩)); (try dsimp only); replace hG := hG.trans hb; refine hK.out _ _ hG ?_; clear hK K hb; try simp only [Act.put, List.setIfInBounds_toArray, List.set_cons_zero, List.set_cons_succ]))
   all_goals
    refine wpG_last ?_ (fun K hK => ?_); (focus rfl)
    have hc := hG.cells
    have hm := hG.marks
    go_simp
    refine hK.out _ _ ?_
    try simp only [Act.put, List.setIfInBounds_toArray, List.set_cons_zero, List.set_cons_succ]
    clear hK K hc hm
    refine wpG_done ?_
    go_wp2_with fail
    go_roundw
    case rel => exact ⟨k + 1, _, rfl, by go_num, HKN.out, hgr.trans (by assumption)⟩
    case measure => have := HKN.out; simp [intOf]; omega
  ·
   have hkI : ¬ (k : Int) < (nr : Int) := by omega
   go_wp2_with fail
   go_ret
   exact ⟨⟨_, rfl⟩, hgW.trans hgr⟩
end Go.Proofs.YtkkopdmemjncdaaGreatDoor
