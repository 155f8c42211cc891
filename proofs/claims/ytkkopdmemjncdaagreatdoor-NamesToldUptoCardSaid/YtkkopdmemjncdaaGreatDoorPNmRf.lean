/- bolterlaw6.one and refs. No condition but bounds. -/
import Derived.Test.YtkkopdmemjncdaaGreatDoorPHl
namespace Go.Proofs.YtkkopdmemjncdaaGreatDoor
open Go Go.RowKit

def oneN (b : Bool) : Nat := if b then 1 else 0
theorem one_any6 (b : Bool) (w : World) : Calls Tryz.prog 29 #[.bool b] w fun e w' => e = .returned (.int .i64 (oneN b : Nat)) ∧ w' = w := by
  cases b
  all_goals
    go_enter Tryz.func29, Tryz.ntmps29
    go_wp2_with fail
    go_ret
    exact ⟨rfl, rfl⟩
theorem cntN_E (op pos : Int) (s : BitVec 256) (text : ByteArray) (mn mx : Int) (args : List Ex) (x : Nt) : cntN (refsE (.mk op pos s text mn mx args)) x = oneN (decide (op = 4) && decide (pos = x.2) && decide (text = x.1)) + cntN (refsL args) x := by
  rw [refsE, cntN_app]
  congr 1
  by_cases h : op = 4
  · rw [if_pos h, cntN_cons, decide_eq_true h, Bool.true_and]
    unfold oneN
    rw [show cntN [] x = 0 from rfl, Nat.add_zero]
  · rw [if_neg h, decide_eq_false h, Bool.false_and, Bool.false_and]; rfl
theorem cntN_L (l : List Ex) (j : Nat) (a : Ex) (h : l[j]? = some a) (x : Nt) : cntN (refsL (l.take (j + 1))) x = cntN (refsL (l.take j)) x + cntN (refsE a) x := by
  rw [List.take_add_one, h, refsL_flat, refsL_flat, List.flatMap_append, cntN_app]
  simp
theorem wt_take (l : List Ex) (j : Nat) : wtL (l.take j) ≤ wtL l := by
  rw [wtL_sum, wtL_sum]
  conv => rhs; rw [← List.take_append_drop j l, List.map_append, List.sum_append]
  omega

set_option maxRecDepth 100000 in
set_option maxHeartbeats 4000000 in
theorem refs6_any (nam : ByteArray) (pl : Int) : ∀ k, ∀ (e : Ex), SizeOf.sizeOf e ≤ k → ∀ (cs : List Value) (w : World), ExIn w e cs → wtE e ≤ 1048576 →
    Calls Tryz.prog 30 #[.agg cs.toArray, .int .i64 pl, .string nam] w fun e' w' => e' = .returned (.int .i64 (cntN (refsE e) (nam, pl) : Nat)) ∧ Gr w w' := by
  intro k
  induction k with
  | zero => intro e h; cases e; simp only [Ex.mk.sizeOf_spec] at h; omega
  | succ k ih =>
    intro e hk cs w he hwt
    cases he with
    | mk op pos s text mn mx v l h1 h2 h3 h4 h5 hlen hs hn hb hargs =>
      have HK := Lib.hid (fun p (hp : p ∈ l) => by
        have := Ex.size_arg (.mk op pos s text mn mx (l.map (·.1))) p.1 (List.mem_map.2 ⟨p, hp, rfl⟩)
        exact (show SizeOf.sizeOf p.1 ≤ k by omega))
      have HIH := Lib.hid ih
      have HS := Lib.hid hs
      have HA := Lib.hid hargs
      have HLEN := Lib.hid hlen
      have HE := Lib.hid (cntN_E op pos s text mn mx (l.map (·.1)) (nam, pl))
      rw [wtE] at hwt
      have HWT := Lib.hid hwt
      obtain ⟨pv, cv, rfl⟩ := hs.len
      have hll : l.length ≤ 140737488351232 := by omega
      obtain ⟨tot, htot⟩ : ∃ t, cntN (refsE (.mk op pos s text mn mx (l.map (·.1)))) (nam, pl) = t := ⟨_, rfl⟩
      rw [htot] at HE ⊢
      clear ih hk h1 h2 h3 h4 h5 hn hs hargs hlen hb hwt htot
      unfold exCells
      go_enter Tryz.func30, Tryz.ntmps30
      go_upto_region 1 with fail
      refine name_world (fun W hW => ?_)
      have xe : boxAt W (w.heap.size) [.int .i64 op, .int .i64 pos, .int .u64 (wd s 0), .int .u64 (wd s 1), .int .u64 (wd s 2), .int .u64 (wd s 3), .string text, .int .i64 mn, .int .i64 mx, (.slice pv l.length cv)] := by
        subst hW; intro j u hj
        match j, hj with
        | 0, hj => simp at hj; subst hj; constructor <;> go_simp
        | 1, hj => simp at hj; subst hj; constructor <;> go_simp
        | 2, hj => simp at hj; subst hj; constructor <;> go_simp
        | 3, hj => simp at hj; subst hj; constructor <;> go_simp
        | 4, hj => simp at hj; subst hj; constructor <;> go_simp
        | 5, hj => simp at hj; subst hj; constructor <;> go_simp
        | 6, hj => simp at hj; subst hj; constructor <;> go_simp
        | 7, hj => simp at hj; subst hj; constructor <;> go_simp
        | 8, hj => simp at hj; subst hj; constructor <;> go_simp
        | 9, hj => simp at hj; subst hj; constructor <;> go_simp
      have hgW : Gr w W := by rw [hW]; exact Gr.alloc _ _
      clear hW
      have HSW := Lib.hid (HS.out.later hgW)
      obtain ⟨c0, hc0⟩ : ∃ c, oneN (decide (op = 4) && decide (pos = pl) && decide (text = nam)) = c := ⟨_, rfl⟩
      have HC0 := Lib.hid hc0
      have hc01 : c0 ≤ 1 := by rw [← hc0]; unfold oneN; split <;> omega
      clear hc0
      go_cut [7] from 9 to 24 (fun v wx => v = .int .i64 (c0 : Int) ∧ W = wx)
      case first =>
        have c_e0 := xe.cell 0 _ rfl
        have c_e1 := xe.cell 1 _ rfl
        have c_e2 := xe.cell 2 _ rfl
        have c_e3 := xe.cell 3 _ rfl
        have c_e4 := xe.cell 4 _ rfl
        have c_e5 := xe.cell 5 _ rfl
        have c_e6 := xe.cell 6 _ rfl
        have c_e7 := xe.cell 7 _ rfl
        have c_e8 := xe.cell 8 _ rfl
        have c_e9 := xe.cell 9 _ rfl
        have m_e0 := xe.mark 0 _ rfl
        have m_e1 := xe.mark 1 _ rfl
        have m_e2 := xe.mark 2 _ rfl
        have m_e3 := xe.mark 3 _ rfl
        have m_e4 := xe.mark 4 _ rfl
        have m_e5 := xe.mark 5 _ rfl
        have m_e6 := xe.mark 6 _ rfl
        have m_e7 := xe.mark 7 _ rfl
        have m_e8 := xe.mark 8 _ rfl
        have m_e9 := xe.mark 9 _ rfl
        have l_e := xe.lt (Nat.succ_pos _)
        by_cases q1 : op = 4
        rotate_left
        · have q1b : (op == 4) = false := by rw [beq_eq_false_iff_ne]; exact q1
          have hz : c0 = 0 := by rw [← HC0.out, decide_eq_false q1]; rfl
          subst hz
          clear q1
          go_wp2_with fail
          go_at_call 29
          (with_reducible refine (one_any6 false _).mono ?_); rintro e' w2 ⟨rfl, rfl⟩
          go_wp2_with fail
          go_meet
          case rel => exact ⟨rfl, rfl⟩
        subst q1
        by_cases q2 : pos = pl
        rotate_left
        · have q2b : (pos == pl) = false := by rw [beq_eq_false_iff_ne]; exact q2
          have hz : c0 = 0 := by rw [← HC0.out, decide_eq_false q2]; rfl
          subst hz
          clear q2
          go_wp2_with fail
          go_at_call 29
          (with_reducible refine (one_any6 false _).mono ?_); rintro e' w2 ⟨rfl, rfl⟩
          go_wp2_with fail
          go_meet
          case rel => exact ⟨rfl, rfl⟩
        have q2b : (pos == pl) = true := by rw [beq_iff_eq]; exact q2
        by_cases q3 : text = nam
        · have q3b : (text.toList == nam.toList) = true := by rw [beq_iff_eq, q3]
          have hz : c0 = 1 := by rw [← HC0.out, decide_eq_true q2, decide_eq_true q3]; rfl
          subst hz
          clear q2 q3
          go_wp2_with fail
          go_at_call 29
          (with_reducible refine (one_any6 true _).mono ?_); rintro e' w2 ⟨rfl, rfl⟩
          go_wp2_with fail
          go_meet
          case rel => exact ⟨rfl, rfl⟩
        · have q3b : (text.toList == nam.toList) = false := by rw [beq_eq_false_iff_ne]; exact fun h => q3 (toList_inj h)
          have hz : c0 = 0 := by rw [← HC0.out, decide_eq_false q3]; simp [oneN]
          subst hz
          clear q2 q3
          go_wp2_with fail
          go_at_call 29
          (with_reducible refine (one_any6 false _).mono ?_); rintro e' w2 ⟨rfl, rfl⟩
          go_wp2_with fail
          go_meet
          case rel => exact ⟨rfl, rfl⟩
      case rest =>
      obtain ⟨rfl, rfl⟩ := hcut
      go_wp2_with fail
      go_loopw [7, 8] (fun n i wr => ∃ (j m : Nat), j ≤ l.length ∧ m ≤ 1048577 ∧ n = .int .i64 (m : Int) ∧ i = .int .i64 (j : Int) ∧ Gr W wr ∧ Hid (m = c0 + cntN (refsL ((l.map (·.1)).take j)) (nam, pl))) (fun _ i _ => l.length - (intOf i).toNat)
      case atStart => exact ⟨0, c0, by omega, by omega, rfl, rfl, Gr.refl _, Lib.hid rfl⟩
      case round =>
        obtain ⟨j, m, hj, hm, rfl, rfl, hg, HR⟩ := hrel
        have ye := xe.later hg
        by_cases hlt : j < l.length
        · obtain ⟨b, off, op2, pos2, s2, text2, mn2, mx2, p2, n2, c2, a, rfl, hbW, ha, hin, hat⟩ := args_at HSW.out HLEN.out (fun p hp => (HA.out p hp).later hgW) j hlt
          have haj : (l.map (·.1))[j]? = some a := by rw [List.getElem?_map, ha]; rfl
          have HR2 := Lib.hid (show m + cntN (refsE a) (nam, pl) = c0 + cntN (refsL ((l.map (·.1)).take (j + 1))) (nam, pl) by
            rw [cntN_L _ _ _ haj, HR.out]; omega)
          have HSA := Lib.hid (HK.out _ (List.mem_of_getElem? ha))
          have HWA := Lib.hid (show wtE a ≤ 1048576 by
            have h1 := sum_mem wtE (l.map (·.1)) a (List.mem_of_getElem? haj)
            rw [← wtL_sum] at h1
            have := HWT.out
            omega)
          have HBD := Lib.hid (show m + cntN (refsE a) (nam, pl) ≤ 1048577 by
            have h1 := cntN_le (refsL ((l.map (·.1)).take (j + 1))) (nam, pl)
            have h2 := refs_wtL ((l.map (·.1)).take (j + 1))
            have h3 := wt_take (l.map (·.1)) (j + 1)
            have h4 := HWT.out
            have h5 := HR2.out
            omega)
          obtain ⟨hbr, hcell⟩ := hat wr hg
          unfold exCells at hcell
          have d0 := hcell 0 _ (by omega) rfl
          have d1 := hcell 1 _ (by omega) rfl
          have d2 := hcell 2 _ (by omega) rfl
          have d3 := hcell 3 _ (by omega) rfl
          have d4 := hcell 4 _ (by omega) rfl
          have d5 := hcell 5 _ (by omega) rfl
          have d6 := hcell 6 _ (by omega) rfl
          have d7 := hcell 7 _ (by omega) rfl
          have d8 := hcell 8 _ (by omega) rfl
          have d9 := hcell 9 _ (by omega) rfl
          simp only [Nat.add_zero] at d0
          have HIN := Lib.hid (hin.later hg)
          have hjI : (j : Int) < (l.length : Int) := by omega
          have HLT := Lib.hid hlt
          clear hlt hcell hin hat ha hj hbW haj
          have HC := Lib.hid (HIH.out a HSA.out _ wr HIN.out HWA.out)
          unfold exCells at HC
          have c_e0 := ye.cell 0 _ rfl
          have c_e1 := ye.cell 1 _ rfl
          have c_e2 := ye.cell 2 _ rfl
          have c_e3 := ye.cell 3 _ rfl
          have c_e4 := ye.cell 4 _ rfl
          have c_e5 := ye.cell 5 _ rfl
          have c_e6 := ye.cell 6 _ rfl
          have c_e7 := ye.cell 7 _ rfl
          have c_e8 := ye.cell 8 _ rfl
          have c_e9 := ye.cell 9 _ rfl
          have m_e0 := ye.mark 0 _ rfl
          have m_e1 := ye.mark 1 _ rfl
          have m_e2 := ye.mark 2 _ rfl
          have m_e3 := ye.mark 3 _ rfl
          have m_e4 := ye.mark 4 _ rfl
          have m_e5 := ye.mark 5 _ rfl
          have m_e6 := ye.mark 6 _ rfl
          have m_e7 := ye.mark 7 _ rfl
          have m_e8 := ye.mark 8 _ rfl
          have m_e9 := ye.mark 9 _ rfl
          have l_e := ye.lt (Nat.succ_pos _)
          go_wp2_with fail
          clear c_e0 c_e1 c_e2 c_e3 c_e4 c_e5 c_e6 c_e7 c_e8 c_e9 m_e0 m_e1 m_e2 m_e3 m_e4 m_e5 m_e6 m_e7 m_e8 m_e9 l_e
          go_at_call 30
          refine HC.out.mono ?_; rintro e' w2 ⟨rfl, hb⟩
          obtain ⟨q, hq⟩ : ∃ q, cntN (refsE a) (nam, pl) = q := ⟨_, rfl⟩
          have hql := HBD.out
          have HR3 := Lib.hid HR2.out
          rw [hq] at hql HR3 ⊢
          clear hq HR2 HBD HC
          go_wp2_with fail
          go_roundw
          case rel => exact ⟨j + 1, m + q, by have := HLT.out; omega, hql, by go_num, by go_num, hg.trans hb, HR3⟩
          case measure => have := HLT.out; simp [intOf]; omega
        · have hjE : j = l.length := by omega
          have HE2 := Lib.hid (show tot = m by
            rw [HE.out, HC0.out, HR.out, hjE, List.take_of_length_le (by rw [List.length_map]; exact Nat.le_refl _)])
          clear hlt hj
          subst hjE
          have c_e0 := ye.cell 0 _ rfl
          have c_e1 := ye.cell 1 _ rfl
          have c_e2 := ye.cell 2 _ rfl
          have c_e3 := ye.cell 3 _ rfl
          have c_e4 := ye.cell 4 _ rfl
          have c_e5 := ye.cell 5 _ rfl
          have c_e6 := ye.cell 6 _ rfl
          have c_e7 := ye.cell 7 _ rfl
          have c_e8 := ye.cell 8 _ rfl
          have c_e9 := ye.cell 9 _ rfl
          have m_e0 := ye.mark 0 _ rfl
          have m_e1 := ye.mark 1 _ rfl
          have m_e2 := ye.mark 2 _ rfl
          have m_e3 := ye.mark 3 _ rfl
          have m_e4 := ye.mark 4 _ rfl
          have m_e5 := ye.mark 5 _ rfl
          have m_e6 := ye.mark 6 _ rfl
          have m_e7 := ye.mark 7 _ rfl
          have m_e8 := ye.mark 8 _ rfl
          have m_e9 := ye.mark 9 _ rfl
          have l_e := ye.lt (Nat.succ_pos _)
          go_wp2_with fail
          go_ret
          exact ⟨ret_int (by rw [HE2.out]), hgW.trans hg⟩

end Go.Proofs.YtkkopdmemjncdaaGreatDoor
