/- counted, Check of bolterref7. No condition. -/
import Derived.Test.YtpcmgkohebihmaaDoorCoreA
import Derived.Test.YtpcmgkohebihmaaDoorRegion
namespace Go.Proofs.YtpcmgkohebihmaaDoor
open Go Go.RowKit

mutual
/-- How many expressions; more than 65536 where one may not be. -/
def countE : Ex → Nat → Nat
  | .mk op pos s text mn mx args, left => if left < 1 ∨ leanB op pos s text mn mx = false ∨ kindB op args.length mn mx = false then 65537 else countL args left 1
def countL : List Ex → Nat → Nat → Nat
  | [], _, n => n
  | a :: r, left, n => if n ≤ 65536 then countL r left (n + countE a (left - 1)) else n
end
theorem countL_stop (l : List Ex) (left n : Nat) (h : 65536 < n) : countL l left n = n := by
  cases l with
  | nil => rw [countL]
  | cons a r => rw [countL, if_neg (by omega)]

theorem count_bound : ∀ k, ∀ e : Ex, SizeOf.sizeOf e ≤ k → ∀ left, countE e left ≤ 65537 * (left + 1) := by
  intro k
  induction k with
  | zero => intro e h; cases e; simp only [Ex.mk.sizeOf_spec] at h; omega
  | succ k ih =>
    intro e h left
    cases e with
    | mk op pos s text mn mx args =>
      rw [countE]
      split
      · omega
      · rename_i hd
        have hl : ¬ left < 1 := fun h => hd (.inl h)
        have key : ∀ (r : List Ex) (n : Nat), (∀ a ∈ r, a ∈ args) → n ≤ 65537 * (left + 1) → countL r left n ≤ 65537 * (left + 1) := by
          intro r
          induction r with
          | nil => intro n _ hn; rw [countL]; exact hn
          | cons a r ihr =>
            intro n hr hn
            rw [countL]
            split
            · have ha := Ex.size_arg (.mk op pos s text mn mx args) a (hr a (by simp))
              have := ih a (by omega) (left - 1)
              refine ihr _ (fun b hb => hr b (by simp [hb])) ?_
              rw [Nat.sub_add_cancel (by omega)] at this
              omega
            · exact hn
        exact key args 1 (fun a h => h) (by omega)

theorem bx1 {w W : World} {c0 : List Value} {e0 : TypeId} (hW : W = w.alloc (.cells c0.toArray e0)) : boxAt W w.heap.size c0 ∧ Gr w W := by
  subst hW; exact ⟨boxAt.new _ _ rfl, Gr.alloc _ _⟩

set_option maxRecDepth 100000 in
set_option maxHeartbeats 8000000 in
theorem counted_any : ∀ k, ∀ (e : Ex), SizeOf.sizeOf e ≤ k → ∀ (cs : List Value) (w : World) (left : Nat), ExIn w e cs → left ≤ 4096 →
    Calls Tryd.prog 41 #[.agg cs.toArray, .int .i64 (left : Int)] w fun e' w' => e' = .returned (.int .i64 (countE e left : Nat)) ∧ Gr w w' := by
  intro k
  induction k with
  | zero => intro e h; cases e; simp only [Ex.mk.sizeOf_spec] at h; omega
  | succ k ih =>
    intro e hk cs w left he hleft
    cases he with
    | mk op pos s text mn mx v l h1 h2 h3 h4 h5 hlen hs hn hb hargs =>
      have HK := Lib.hid (fun p (hp : p ∈ l) => by
        have := Ex.size_arg (.mk op pos s text mn mx (l.map (·.1))) p.1 (List.mem_map.2 ⟨p, hp, rfl⟩)
        exact (show SizeOf.sizeOf p.1 ≤ k by omega))
      have HIH := Lib.hid ih
      have HS := Lib.hid hs
      have HA := Lib.hid hargs
      have HLEN := Lib.hid hlen
      obtain ⟨pv, cv, rfl⟩ := hs.len
      obtain ⟨n, hnl⟩ : ∃ n, l.length = n := ⟨_, rfl⟩
      have HNL := Lib.hid hnl
      have hll : n ≤ 140737488351232 := by omega
      clear ih hk h1 h2 h3 h4 h5 hn hs hargs hlen hb
      have HF := Lib.hid (show countE (.mk op pos s text mn mx (l.map (·.1))) left = if left < 1 ∨ leanB op pos s text mn mx = false ∨ kindB op n mn mx = false then 65537 else countL (l.map (·.1)) left 1 by rw [countE, List.length_map, HNL.out])
      rw [hnl]
      clear hnl
      unfold exCells
      go_enter Tryd.func41, Tryd.ntmps41
      have HL := Lib.hid hleft
      by_cases q0 : left < 1
      · have q1 : (left : Int) < 1 := by omega
        have HR := Lib.hid (show countE (.mk op pos s text mn mx (l.map (·.1))) left = 65537 by rw [HF.out, if_pos (.inl q0)])
        clear q0
        go_wp2_with fail
        go_ret
        exact ⟨ret_int (by rw [HR.out]; rfl), Gr.alloc _ _⟩
      have q1 : ¬ (left : Int) < 1 := by omega
      have HQ0 := Lib.hid q0
      clear q0
      have lean_no : ∀ P : Prop, (P → leanB op pos s text mn mx = false) → P → countE (.mk op pos s text mn mx (l.map (·.1))) left = 65537 := fun P h hP => by rw [HF.out, if_pos (.inr (.inl (h hP)))]
      have kind_no : ∀ P : Prop, (P → kindB op n mn mx = false) → P → countE (.mk op pos s text mn mx (l.map (·.1))) left = 65537 := fun P h hP => by rw [HF.out, if_pos (.inr (.inr (h hP)))]
      have HLN := Lib.hid lean_no
      have HKN := Lib.hid kind_no
      clear lean_no kind_no
      by_cases q2 : pos = 0
      rotate_left
      · have HR := Lib.hid (HLN.out (¬ pos = 0) (fun h => by simp [leanB, h]) q2)
        go_wp2_with fail
        go_ret
        exact ⟨ret_int (by rw [HR.out]; rfl), Gr.alloc _ _⟩
      subst q2
      by_cases q3 : text.toList = []
      rotate_left
      · have HR := Lib.hid (HLN.out (¬ text.toList = []) (fun h => by simp [leanB, h]) q3)
        go_wp2_with fail
        go_ret
        exact ⟨ret_int (by rw [HR.out]; rfl), Gr.alloc _ _⟩
      -- KINDS
      have HPS := Lib.hid (show leanB op 0 s text mn mx = true → kindB op n mn mx = true → countE (.mk op 0 s text mn mx (l.map (·.1))) left = countL (l.map (·.1)) left 1 from fun h1 h2 => by
        rw [HF.out, if_neg]
        rintro (h | h | h)
        · exact HQ0.out h
        · rw [h1] at h; cases h
        · rw [h2] at h; cases h)
      obtain ⟨b4, q7⟩ : ∃ b, (s == emptyS) = b := ⟨_, rfl⟩
      have HSE := Lib.hid q7
      have HTE := Lib.hid q3
      by_cases o2 : op = 2
      · subst o2
        by_cases q4 : (0 : Int) < (n : Int)
        · have HR := Lib.hid (HKN.out ((0 : Int) < (n : Int)) (fun h => by simp [kindB]; rintro h0; rw [h0] at h; simp at h) q4)
          go_wp2_with fail
          go_ret
          exact ⟨ret_int (by rw [HR.out]; rfl), Gr.alloc _ _⟩
        have q40 : n = 0 := by omega
        subst q40
        clear q4
        by_cases q5 : mn = 0
        rotate_left
        · have HR := Lib.hid (HLN.out (¬ mn = 0) (fun h => by simp [leanB, h]) q5)
          go_wp2_with fail
          go_ret
          exact ⟨ret_int (by rw [HR.out]; rfl), Gr.alloc _ _⟩
        subst q5
        by_cases q6 : mx = 0
        rotate_left
        · have HR := Lib.hid (HLN.out (¬ mx = 0) (fun h => by simp [leanB, h]) q6)
          go_wp2_with fail
          go_ret
          exact ⟨ret_int (by rw [HR.out]; rfl), Gr.alloc _ _⟩
        subst q6
        have HG := Lib.hid (HPS.out (by simp [leanB, HTE.out]) (by simp [kindB]))
        go_wp2_with fail
        refine name_world (fun W hW => ?_)
        obtain ⟨xe, hgW⟩ := bx1 hW
        clear hW
        go_loopw [6, 7] (fun u i wr => u = .int .i64 1 ∧ i = .int .i64 0 ∧ Gr W wr) (fun _ _ _ => 0)
        case atStart => exact ⟨rfl, rfl, Gr.refl _⟩
        case round =>
          obtain ⟨rfl, rfl, hg⟩ := hrel
          have ye := xe.later hg
          have HE2 := Lib.hid (show countL (l.map (·.1)) left 1 = 1 by rw [List.eq_nil_of_length_eq_zero HNL.out, List.map_nil, countL])
          have c_e0 := ye.cell 0 _ rfl
          have c_e1 := ye.cell 1 _ rfl
          have c_e2 := ye.cell 2 _ rfl
          have c_e3 := ye.cell 3 _ rfl
          have c_e4 := ye.cell 4 _ rfl
          have c_e5 := ye.cell 5 _ rfl
          have c_e6 := ye.cell 6 _ rfl
          have c_e7 := ye.cell 7 _ rfl
          have c_e8 := ye.cell 8 _ rfl
          have c_e9 := ye.cell 9 _ rfl
          have m_e0 := ye.mark 0 _ rfl
          have m_e1 := ye.mark 1 _ rfl
          have m_e2 := ye.mark 2 _ rfl
          have m_e3 := ye.mark 3 _ rfl
          have m_e4 := ye.mark 4 _ rfl
          have m_e5 := ye.mark 5 _ rfl
          have m_e6 := ye.mark 6 _ rfl
          have m_e7 := ye.mark 7 _ rfl
          have m_e8 := ye.mark 8 _ rfl
          have m_e9 := ye.mark 9 _ rfl
          have l_e := ye.lt (Nat.succ_pos _)
          go_wp2_with fail
          go_ret
          exact ⟨ret_int (by rw [HG.out, HE2.out]; rfl), hgW.trans hg⟩
      cases b4
      · have HR := Lib.hid (HLN.out (¬ op = 2) (fun h => by simp [leanB, h, HSE.out]) o2)
        go_wp2_with fail
        go_ret
        exact ⟨ret_int (by rw [HR.out]; rfl), Gr.alloc _ _⟩
      by_cases o1 : op = 1
      · subst o1
        by_cases q4 : (0 : Int) < (n : Int)
        · have HR := Lib.hid (HKN.out ((0 : Int) < (n : Int)) (fun h => by simp [kindB]; rintro h0; rw [h0] at h; simp at h) q4)
          go_wp2_with fail
          go_ret
          exact ⟨ret_int (by rw [HR.out]; rfl), Gr.alloc _ _⟩
        have q40 : n = 0 := by omega
        subst q40
        clear q4
        by_cases q5 : mn = 0
        rotate_left
        · have HR := Lib.hid (HLN.out (¬ mn = 0) (fun h => by simp [leanB, h]) q5)
          go_wp2_with fail
          go_ret
          exact ⟨ret_int (by rw [HR.out]; rfl), Gr.alloc _ _⟩
        subst q5
        by_cases q6 : mx = 0
        rotate_left
        · have HR := Lib.hid (HLN.out (¬ mx = 0) (fun h => by simp [leanB, h]) q6)
          go_wp2_with fail
          go_ret
          exact ⟨ret_int (by rw [HR.out]; rfl), Gr.alloc _ _⟩
        subst q6
        have HG := Lib.hid (HPS.out (by simp [leanB, HTE.out, HSE.out]) (by simp [kindB]))
        go_wp2_with fail
        refine name_world (fun W hW => ?_)
        obtain ⟨xe, hgW⟩ := bx1 hW
        clear hW
        go_loopw [6, 7] (fun u i wr => u = .int .i64 1 ∧ i = .int .i64 0 ∧ Gr W wr) (fun _ _ _ => 0)
        case atStart => exact ⟨rfl, rfl, Gr.refl _⟩
        case round =>
          obtain ⟨rfl, rfl, hg⟩ := hrel
          have ye := xe.later hg
          have HE2 := Lib.hid (show countL (l.map (·.1)) left 1 = 1 by rw [List.eq_nil_of_length_eq_zero HNL.out, List.map_nil, countL])
          have c_e0 := ye.cell 0 _ rfl
          have c_e1 := ye.cell 1 _ rfl
          have c_e2 := ye.cell 2 _ rfl
          have c_e3 := ye.cell 3 _ rfl
          have c_e4 := ye.cell 4 _ rfl
          have c_e5 := ye.cell 5 _ rfl
          have c_e6 := ye.cell 6 _ rfl
          have c_e7 := ye.cell 7 _ rfl
          have c_e8 := ye.cell 8 _ rfl
          have c_e9 := ye.cell 9 _ rfl
          have m_e0 := ye.mark 0 _ rfl
          have m_e1 := ye.mark 1 _ rfl
          have m_e2 := ye.mark 2 _ rfl
          have m_e3 := ye.mark 3 _ rfl
          have m_e4 := ye.mark 4 _ rfl
          have m_e5 := ye.mark 5 _ rfl
          have m_e6 := ye.mark 6 _ rfl
          have m_e7 := ye.mark 7 _ rfl
          have m_e8 := ye.mark 8 _ rfl
          have m_e9 := ye.mark 9 _ rfl
          have l_e := ye.lt (Nat.succ_pos _)
          go_wp2_with fail
          go_ret
          exact ⟨ret_int (by rw [HG.out, HE2.out]; rfl), hgW.trans hg⟩
      by_cases o5 : op = 5
      · subst o5
        by_cases q4 : (n : Int) < 2
        · have HR := Lib.hid (HKN.out ((n : Int) < 2) (fun h => by simp [kindB]; omega) q4)
          go_wp2_with fail
          go_ret
          exact ⟨ret_int (by rw [HR.out]; rfl), Gr.alloc _ _⟩
        have Q40 := Lib.hid (show 1 < n by omega)
        by_cases q5 : mn = 0
        rotate_left
        · have HR := Lib.hid (HLN.out (¬ mn = 0) (fun h => by simp [leanB, h]) q5)
          go_wp2_with fail
          go_ret
          exact ⟨ret_int (by rw [HR.out]; rfl), Gr.alloc _ _⟩
        subst q5
        by_cases q6 : mx = 0
        rotate_left
        · have HR := Lib.hid (HLN.out (¬ mx = 0) (fun h => by simp [leanB, h]) q6)
          go_wp2_with fail
          go_ret
          exact ⟨ret_int (by rw [HR.out]; rfl), Gr.alloc _ _⟩
        subst q6
        have HG := Lib.hid (HPS.out (by simp [leanB, HTE.out, HSE.out]) (by simp [kindB, Q40.out]))
        have HCL := Lib.hid (And.intro q4 trivial)
        go_wp2_with fail
        refine name_world (fun W hW => ?_)
        obtain ⟨xe, hgW⟩ := bx1 hW
        clear hW q4
        have HSW := Lib.hid (HS.out.later hgW)
        go_loopw [6, 7] (fun u i wr => ∃ (j m : Nat), j ≤ n ∧ m ≤ 65537 * (left + 1) ∧ u = .int .i64 (m : Int) ∧ i = .int .i64 (j : Int) ∧ Gr W wr ∧ Hid (countL (l.map (·.1)) left 1 = countL ((l.drop j).map (·.1)) left m)) (fun _ i _ => n - (intOf i).toNat)
        case atStart => exact ⟨0, 1, by omega, by omega, rfl, rfl, Gr.refl _, Lib.hid rfl⟩
        case round =>
          obtain ⟨j, m, hj, hm, rfl, rfl, hg, HR⟩ := hrel
          have ye := xe.later hg
          have hm2 : m ≤ 268505089 := by have := HL.out; omega
          by_cases hlt : j < n
          · by_cases hm1 : m ≤ 65536
            · obtain ⟨b, off, op2, pos2, s2, text2, mn2, mx2, p2, n2, c2, a, rfl, hbW, ha, hin, hat⟩ := args_at HSW.out HLEN.out (fun p hp => (HA.out p hp).later hgW) j (by have := HNL.out; omega)
              have HR2 := Lib.hid (show countL (l.map (·.1)) left 1 = countL ((l.drop (j + 1)).map (·.1)) left (m + countE a (left - 1)) by
                rw [HR.out, drop_cons_of ha, List.map_cons, countL, if_pos hm1])
              have HSA := Lib.hid (HK.out _ (List.mem_of_getElem? ha))
              have HBD := Lib.hid (count_bound k a HSA.out (left - 1))
              obtain ⟨hbr, hcell⟩ := hat wr hg
              unfold exCells at hcell
              have d0 := hcell 0 _ (by omega) rfl
              have d1 := hcell 1 _ (by omega) rfl
              have d2 := hcell 2 _ (by omega) rfl
              have d3 := hcell 3 _ (by omega) rfl
              have d4 := hcell 4 _ (by omega) rfl
              have d5 := hcell 5 _ (by omega) rfl
              have d6 := hcell 6 _ (by omega) rfl
              have d7 := hcell 7 _ (by omega) rfl
              have d8 := hcell 8 _ (by omega) rfl
              have d9 := hcell 9 _ (by omega) rfl
              simp only [Nat.add_zero] at d0
              have HIN := Lib.hid (hin.later hg)
              have hjI : (j : Int) < (n : Int) := by have := HNL.out; omega
              have hjN : j < n := by omega
              have hmI : (m : Int) ≤ 65536 := by omega
              have HLT := Lib.hid hlt
              have HM1 := Lib.hid hm1
              clear hlt hm1 hcell hin hat ha hj hm hbW
              have hd1 : ((left - 1 : Nat) : Int) = (left : Int) - 1 := by have := HQ0.out; omega
              have HC := Lib.hid (HIH.out a HSA.out _ wr (left - 1) HIN.out (by omega))
              unfold exCells at HC
              rw [hd1] at HC
              clear hd1
              have c_e0 := ye.cell 0 _ rfl
              have c_e1 := ye.cell 1 _ rfl
              have c_e2 := ye.cell 2 _ rfl
              have c_e3 := ye.cell 3 _ rfl
              have c_e4 := ye.cell 4 _ rfl
              have c_e5 := ye.cell 5 _ rfl
              have c_e6 := ye.cell 6 _ rfl
              have c_e7 := ye.cell 7 _ rfl
              have c_e8 := ye.cell 8 _ rfl
              have c_e9 := ye.cell 9 _ rfl
              have m_e0 := ye.mark 0 _ rfl
              have m_e1 := ye.mark 1 _ rfl
              have m_e2 := ye.mark 2 _ rfl
              have m_e3 := ye.mark 3 _ rfl
              have m_e4 := ye.mark 4 _ rfl
              have m_e5 := ye.mark 5 _ rfl
              have m_e6 := ye.mark 6 _ rfl
              have m_e7 := ye.mark 7 _ rfl
              have m_e8 := ye.mark 8 _ rfl
              have m_e9 := ye.mark 9 _ rfl
              have l_e := ye.lt (Nat.succ_pos _)
              go_wp2_with fail
              clear c_e0 c_e1 c_e2 c_e3 c_e4 c_e5 c_e6 c_e7 c_e8 c_e9 m_e0 m_e1 m_e2 m_e3 m_e4 m_e5 m_e6 m_e7 m_e8 m_e9 l_e
              go_at_call 41
              refine HC.out.mono ?_; rintro e' w2 ⟨rfl, hb⟩
              obtain ⟨q, hq⟩ : ∃ q, countE a (left - 1) = q := ⟨_, rfl⟩
              have hql : q ≤ 65537 * left := by rw [← hq]; have := HBD.out; rw [Nat.sub_add_cancel (by have := HQ0.out; omega)] at this; exact this
              have HQ := Lib.hid hq
              rw [hq]
              have hq2 : q ≤ 268505089 := by omega
              clear hq
              go_wp2_with fail
              go_roundw
              case rel => exact ⟨j + 1, m + q, by have := HLT.out; omega, by have := HM1.out; omega, by go_num, by go_num, hg.trans hb, Lib.hid (by rw [← HQ.out]; exact HR2.out)⟩
              case measure => have := HLT.out; simp [intOf]; omega
            · have hmI : ¬ (m : Int) ≤ 65536 := by omega
              have hjI : (j : Int) < (n : Int) := by have := HNL.out; omega
              have hjN : j < n := by omega
              have HE2 := Lib.hid (show countL (l.map (·.1)) left 1 = m by rw [HR.out, countL_stop _ _ _ (by omega)])
              clear hlt hm1 hj hm
              have c_e0 := ye.cell 0 _ rfl
              have c_e1 := ye.cell 1 _ rfl
              have c_e2 := ye.cell 2 _ rfl
              have c_e3 := ye.cell 3 _ rfl
              have c_e4 := ye.cell 4 _ rfl
              have c_e5 := ye.cell 5 _ rfl
              have c_e6 := ye.cell 6 _ rfl
              have c_e7 := ye.cell 7 _ rfl
              have c_e8 := ye.cell 8 _ rfl
              have c_e9 := ye.cell 9 _ rfl
              have m_e0 := ye.mark 0 _ rfl
              have m_e1 := ye.mark 1 _ rfl
              have m_e2 := ye.mark 2 _ rfl
              have m_e3 := ye.mark 3 _ rfl
              have m_e4 := ye.mark 4 _ rfl
              have m_e5 := ye.mark 5 _ rfl
              have m_e6 := ye.mark 6 _ rfl
              have m_e7 := ye.mark 7 _ rfl
              have m_e8 := ye.mark 8 _ rfl
              have m_e9 := ye.mark 9 _ rfl
              have l_e := ye.lt (Nat.succ_pos _)
              go_wp2_with fail
              go_ret
              exact ⟨ret_int (by rw [HG.out, HE2.out]), hgW.trans hg⟩
          · have hjE : j = n := by omega
            have HE2 := Lib.hid (show countL (l.map (·.1)) left 1 = m by rw [HR.out, hjE, ← HNL.out, List.drop_length, List.map_nil, countL])
            clear hlt hj
            subst hjE
            have c_e0 := ye.cell 0 _ rfl
            have c_e1 := ye.cell 1 _ rfl
            have c_e2 := ye.cell 2 _ rfl
            have c_e3 := ye.cell 3 _ rfl
            have c_e4 := ye.cell 4 _ rfl
            have c_e5 := ye.cell 5 _ rfl
            have c_e6 := ye.cell 6 _ rfl
            have c_e7 := ye.cell 7 _ rfl
            have c_e8 := ye.cell 8 _ rfl
            have c_e9 := ye.cell 9 _ rfl
            have m_e0 := ye.mark 0 _ rfl
            have m_e1 := ye.mark 1 _ rfl
            have m_e2 := ye.mark 2 _ rfl
            have m_e3 := ye.mark 3 _ rfl
            have m_e4 := ye.mark 4 _ rfl
            have m_e5 := ye.mark 5 _ rfl
            have m_e6 := ye.mark 6 _ rfl
            have m_e7 := ye.mark 7 _ rfl
            have m_e8 := ye.mark 8 _ rfl
            have m_e9 := ye.mark 9 _ rfl
            have l_e := ye.lt (Nat.succ_pos _)
            go_wp2_with fail
            go_ret
            exact ⟨ret_int (by rw [HG.out, HE2.out]), hgW.trans hg⟩
      by_cases o6 : op = 6
      · subst o6
        by_cases q4 : (n : Int) < 2
        · have HR := Lib.hid (HKN.out ((n : Int) < 2) (fun h => by simp [kindB]; omega) q4)
          go_wp2_with fail
          go_ret
          exact ⟨ret_int (by rw [HR.out]; rfl), Gr.alloc _ _⟩
        have Q40 := Lib.hid (show 1 < n by omega)
        by_cases q5 : mn = 0
        rotate_left
        · have HR := Lib.hid (HLN.out (¬ mn = 0) (fun h => by simp [leanB, h]) q5)
          go_wp2_with fail
          go_ret
          exact ⟨ret_int (by rw [HR.out]; rfl), Gr.alloc _ _⟩
        subst q5
        by_cases q6 : mx = 0
        rotate_left
        · have HR := Lib.hid (HLN.out (¬ mx = 0) (fun h => by simp [leanB, h]) q6)
          go_wp2_with fail
          go_ret
          exact ⟨ret_int (by rw [HR.out]; rfl), Gr.alloc _ _⟩
        subst q6
        have HG := Lib.hid (HPS.out (by simp [leanB, HTE.out, HSE.out]) (by simp [kindB, Q40.out]))
        have HCL := Lib.hid (And.intro q4 trivial)
        go_wp2_with fail
        refine name_world (fun W hW => ?_)
        obtain ⟨xe, hgW⟩ := bx1 hW
        clear hW q4
        have HSW := Lib.hid (HS.out.later hgW)
        go_loopw [6, 7] (fun u i wr => ∃ (j m : Nat), j ≤ n ∧ m ≤ 65537 * (left + 1) ∧ u = .int .i64 (m : Int) ∧ i = .int .i64 (j : Int) ∧ Gr W wr ∧ Hid (countL (l.map (·.1)) left 1 = countL ((l.drop j).map (·.1)) left m)) (fun _ i _ => n - (intOf i).toNat)
        case atStart => exact ⟨0, 1, by omega, by omega, rfl, rfl, Gr.refl _, Lib.hid rfl⟩
        case round =>
          obtain ⟨j, m, hj, hm, rfl, rfl, hg, HR⟩ := hrel
          have ye := xe.later hg
          have hm2 : m ≤ 268505089 := by have := HL.out; omega
          by_cases hlt : j < n
          · by_cases hm1 : m ≤ 65536
            · obtain ⟨b, off, op2, pos2, s2, text2, mn2, mx2, p2, n2, c2, a, rfl, hbW, ha, hin, hat⟩ := args_at HSW.out HLEN.out (fun p hp => (HA.out p hp).later hgW) j (by have := HNL.out; omega)
              have HR2 := Lib.hid (show countL (l.map (·.1)) left 1 = countL ((l.drop (j + 1)).map (·.1)) left (m + countE a (left - 1)) by
                rw [HR.out, drop_cons_of ha, List.map_cons, countL, if_pos hm1])
              have HSA := Lib.hid (HK.out _ (List.mem_of_getElem? ha))
              have HBD := Lib.hid (count_bound k a HSA.out (left - 1))
              obtain ⟨hbr, hcell⟩ := hat wr hg
              unfold exCells at hcell
              have d0 := hcell 0 _ (by omega) rfl
              have d1 := hcell 1 _ (by omega) rfl
              have d2 := hcell 2 _ (by omega) rfl
              have d3 := hcell 3 _ (by omega) rfl
              have d4 := hcell 4 _ (by omega) rfl
              have d5 := hcell 5 _ (by omega) rfl
              have d6 := hcell 6 _ (by omega) rfl
              have d7 := hcell 7 _ (by omega) rfl
              have d8 := hcell 8 _ (by omega) rfl
              have d9 := hcell 9 _ (by omega) rfl
              simp only [Nat.add_zero] at d0
              have HIN := Lib.hid (hin.later hg)
              have hjI : (j : Int) < (n : Int) := by have := HNL.out; omega
              have hjN : j < n := by omega
              have hmI : (m : Int) ≤ 65536 := by omega
              have HLT := Lib.hid hlt
              have HM1 := Lib.hid hm1
              clear hlt hm1 hcell hin hat ha hj hm hbW
              have hd1 : ((left - 1 : Nat) : Int) = (left : Int) - 1 := by have := HQ0.out; omega
              have HC := Lib.hid (HIH.out a HSA.out _ wr (left - 1) HIN.out (by omega))
              unfold exCells at HC
              rw [hd1] at HC
              clear hd1
              have c_e0 := ye.cell 0 _ rfl
              have c_e1 := ye.cell 1 _ rfl
              have c_e2 := ye.cell 2 _ rfl
              have c_e3 := ye.cell 3 _ rfl
              have c_e4 := ye.cell 4 _ rfl
              have c_e5 := ye.cell 5 _ rfl
              have c_e6 := ye.cell 6 _ rfl
              have c_e7 := ye.cell 7 _ rfl
              have c_e8 := ye.cell 8 _ rfl
              have c_e9 := ye.cell 9 _ rfl
              have m_e0 := ye.mark 0 _ rfl
              have m_e1 := ye.mark 1 _ rfl
              have m_e2 := ye.mark 2 _ rfl
              have m_e3 := ye.mark 3 _ rfl
              have m_e4 := ye.mark 4 _ rfl
              have m_e5 := ye.mark 5 _ rfl
              have m_e6 := ye.mark 6 _ rfl
              have m_e7 := ye.mark 7 _ rfl
              have m_e8 := ye.mark 8 _ rfl
              have m_e9 := ye.mark 9 _ rfl
              have l_e := ye.lt (Nat.succ_pos _)
              go_wp2_with fail
              clear c_e0 c_e1 c_e2 c_e3 c_e4 c_e5 c_e6 c_e7 c_e8 c_e9 m_e0 m_e1 m_e2 m_e3 m_e4 m_e5 m_e6 m_e7 m_e8 m_e9 l_e
              go_at_call 41
              refine HC.out.mono ?_; rintro e' w2 ⟨rfl, hb⟩
              obtain ⟨q, hq⟩ : ∃ q, countE a (left - 1) = q := ⟨_, rfl⟩
              have hql : q ≤ 65537 * left := by rw [← hq]; have := HBD.out; rw [Nat.sub_add_cancel (by have := HQ0.out; omega)] at this; exact this
              have HQ := Lib.hid hq
              rw [hq]
              have hq2 : q ≤ 268505089 := by omega
              clear hq
              go_wp2_with fail
              go_roundw
              case rel => exact ⟨j + 1, m + q, by have := HLT.out; omega, by have := HM1.out; omega, by go_num, by go_num, hg.trans hb, Lib.hid (by rw [← HQ.out]; exact HR2.out)⟩
              case measure => have := HLT.out; simp [intOf]; omega
            · have hmI : ¬ (m : Int) ≤ 65536 := by omega
              have hjI : (j : Int) < (n : Int) := by have := HNL.out; omega
              have hjN : j < n := by omega
              have HE2 := Lib.hid (show countL (l.map (·.1)) left 1 = m by rw [HR.out, countL_stop _ _ _ (by omega)])
              clear hlt hm1 hj hm
              have c_e0 := ye.cell 0 _ rfl
              have c_e1 := ye.cell 1 _ rfl
              have c_e2 := ye.cell 2 _ rfl
              have c_e3 := ye.cell 3 _ rfl
              have c_e4 := ye.cell 4 _ rfl
              have c_e5 := ye.cell 5 _ rfl
              have c_e6 := ye.cell 6 _ rfl
              have c_e7 := ye.cell 7 _ rfl
              have c_e8 := ye.cell 8 _ rfl
              have c_e9 := ye.cell 9 _ rfl
              have m_e0 := ye.mark 0 _ rfl
              have m_e1 := ye.mark 1 _ rfl
              have m_e2 := ye.mark 2 _ rfl
              have m_e3 := ye.mark 3 _ rfl
              have m_e4 := ye.mark 4 _ rfl
              have m_e5 := ye.mark 5 _ rfl
              have m_e6 := ye.mark 6 _ rfl
              have m_e7 := ye.mark 7 _ rfl
              have m_e8 := ye.mark 8 _ rfl
              have m_e9 := ye.mark 9 _ rfl
              have l_e := ye.lt (Nat.succ_pos _)
              go_wp2_with fail
              go_ret
              exact ⟨ret_int (by rw [HG.out, HE2.out]), hgW.trans hg⟩
          · have hjE : j = n := by omega
            have HE2 := Lib.hid (show countL (l.map (·.1)) left 1 = m by rw [HR.out, hjE, ← HNL.out, List.drop_length, List.map_nil, countL])
            clear hlt hj
            subst hjE
            have c_e0 := ye.cell 0 _ rfl
            have c_e1 := ye.cell 1 _ rfl
            have c_e2 := ye.cell 2 _ rfl
            have c_e3 := ye.cell 3 _ rfl
            have c_e4 := ye.cell 4 _ rfl
            have c_e5 := ye.cell 5 _ rfl
            have c_e6 := ye.cell 6 _ rfl
            have c_e7 := ye.cell 7 _ rfl
            have c_e8 := ye.cell 8 _ rfl
            have c_e9 := ye.cell 9 _ rfl
            have m_e0 := ye.mark 0 _ rfl
            have m_e1 := ye.mark 1 _ rfl
            have m_e2 := ye.mark 2 _ rfl
            have m_e3 := ye.mark 3 _ rfl
            have m_e4 := ye.mark 4 _ rfl
            have m_e5 := ye.mark 5 _ rfl
            have m_e6 := ye.mark 6 _ rfl
            have m_e7 := ye.mark 7 _ rfl
            have m_e8 := ye.mark 8 _ rfl
            have m_e9 := ye.mark 9 _ rfl
            have l_e := ye.lt (Nat.succ_pos _)
            go_wp2_with fail
            go_ret
            exact ⟨ret_int (by rw [HG.out, HE2.out]), hgW.trans hg⟩
      by_cases o7 : op = 7
      rotate_left
      · have HR := Lib.hid (HKN.out (True) (fun h => by simp [kindB, o1, o2, o5, o6, o7]) trivial)
        go_wp2_with fail
        go_ret
        exact ⟨ret_int (by rw [HR.out]; rfl), Gr.alloc _ _⟩
      subst o7
      by_cases m0 : mn = 0
      · subst m0
        by_cases x1 : mx = -1
        · subst x1
          by_cases q4 : (n : Int) = 1
          rotate_left
          · have HR := Lib.hid (HKN.out (¬ (n : Int) = 1) (fun h => by simp [kindB]; omega) q4)
            go_wp2_with fail
            go_ret
            exact ⟨ret_int (by rw [HR.out]; rfl), Gr.alloc _ _⟩
          have q40 : n = 1 := by omega
          subst q40
          clear q4
          have HG := Lib.hid (HPS.out (by simp [leanB, HTE.out, HSE.out]) (by simp [kindB]))
          go_wp2_with fail
          refine name_world (fun W hW => ?_)
          obtain ⟨xe, hgW⟩ := bx1 hW
          clear hW 
          have HSW := Lib.hid (HS.out.later hgW)
          go_loopw [6, 7] (fun u i wr => ∃ (j m : Nat), j ≤ 1 ∧ m ≤ 65537 * (left + 1) ∧ u = .int .i64 (m : Int) ∧ i = .int .i64 (j : Int) ∧ Gr W wr ∧ Hid (countL (l.map (·.1)) left 1 = countL ((l.drop j).map (·.1)) left m)) (fun _ i _ => 1 - (intOf i).toNat)
          case atStart => exact ⟨0, 1, by omega, by omega, rfl, rfl, Gr.refl _, Lib.hid rfl⟩
          case round =>
            obtain ⟨j, m, hj, hm, rfl, rfl, hg, HR⟩ := hrel
            have ye := xe.later hg
            have hm2 : m ≤ 268505089 := by have := HL.out; omega
            by_cases hlt : j < 1
            · by_cases hm1 : m ≤ 65536
              · obtain ⟨b, off, op2, pos2, s2, text2, mn2, mx2, p2, n2, c2, a, rfl, hbW, ha, hin, hat⟩ := args_at HSW.out HLEN.out (fun p hp => (HA.out p hp).later hgW) j (by have := HNL.out; omega)
                have HR2 := Lib.hid (show countL (l.map (·.1)) left 1 = countL ((l.drop (j + 1)).map (·.1)) left (m + countE a (left - 1)) by
                  rw [HR.out, drop_cons_of ha, List.map_cons, countL, if_pos hm1])
                have HSA := Lib.hid (HK.out _ (List.mem_of_getElem? ha))
                have HBD := Lib.hid (count_bound k a HSA.out (left - 1))
                obtain ⟨hbr, hcell⟩ := hat wr hg
                unfold exCells at hcell
                have d0 := hcell 0 _ (by omega) rfl
                have d1 := hcell 1 _ (by omega) rfl
                have d2 := hcell 2 _ (by omega) rfl
                have d3 := hcell 3 _ (by omega) rfl
                have d4 := hcell 4 _ (by omega) rfl
                have d5 := hcell 5 _ (by omega) rfl
                have d6 := hcell 6 _ (by omega) rfl
                have d7 := hcell 7 _ (by omega) rfl
                have d8 := hcell 8 _ (by omega) rfl
                have d9 := hcell 9 _ (by omega) rfl
                simp only [Nat.add_zero] at d0
                have HIN := Lib.hid (hin.later hg)
                have hjI : (j : Int) < 1 := by have := HNL.out; omega
                have hjN : j < 1 := by omega
                have hmI : (m : Int) ≤ 65536 := by omega
                have HLT := Lib.hid hlt
                have HM1 := Lib.hid hm1
                clear hlt hm1 hcell hin hat ha hj hm hbW
                have hd1 : ((left - 1 : Nat) : Int) = (left : Int) - 1 := by have := HQ0.out; omega
                have HC := Lib.hid (HIH.out a HSA.out _ wr (left - 1) HIN.out (by omega))
                unfold exCells at HC
                rw [hd1] at HC
                clear hd1
                have c_e0 := ye.cell 0 _ rfl
                have c_e1 := ye.cell 1 _ rfl
                have c_e2 := ye.cell 2 _ rfl
                have c_e3 := ye.cell 3 _ rfl
                have c_e4 := ye.cell 4 _ rfl
                have c_e5 := ye.cell 5 _ rfl
                have c_e6 := ye.cell 6 _ rfl
                have c_e7 := ye.cell 7 _ rfl
                have c_e8 := ye.cell 8 _ rfl
                have c_e9 := ye.cell 9 _ rfl
                have m_e0 := ye.mark 0 _ rfl
                have m_e1 := ye.mark 1 _ rfl
                have m_e2 := ye.mark 2 _ rfl
                have m_e3 := ye.mark 3 _ rfl
                have m_e4 := ye.mark 4 _ rfl
                have m_e5 := ye.mark 5 _ rfl
                have m_e6 := ye.mark 6 _ rfl
                have m_e7 := ye.mark 7 _ rfl
                have m_e8 := ye.mark 8 _ rfl
                have m_e9 := ye.mark 9 _ rfl
                have l_e := ye.lt (Nat.succ_pos _)
                go_wp2_with fail
                clear c_e0 c_e1 c_e2 c_e3 c_e4 c_e5 c_e6 c_e7 c_e8 c_e9 m_e0 m_e1 m_e2 m_e3 m_e4 m_e5 m_e6 m_e7 m_e8 m_e9 l_e
                go_at_call 41
                refine HC.out.mono ?_; rintro e' w2 ⟨rfl, hb⟩
                obtain ⟨q, hq⟩ : ∃ q, countE a (left - 1) = q := ⟨_, rfl⟩
                have hql : q ≤ 65537 * left := by rw [← hq]; have := HBD.out; rw [Nat.sub_add_cancel (by have := HQ0.out; omega)] at this; exact this
                have HQ := Lib.hid hq
                rw [hq]
                have hq2 : q ≤ 268505089 := by omega
                clear hq
                go_wp2_with fail
                go_roundw
                case rel => exact ⟨j + 1, m + q, by have := HLT.out; omega, by have := HM1.out; omega, by go_num, by go_num, hg.trans hb, Lib.hid (by rw [← HQ.out]; exact HR2.out)⟩
                case measure => have := HLT.out; simp [intOf]; omega
              · have hmI : ¬ (m : Int) ≤ 65536 := by omega
                have hjI : (j : Int) < 1 := by have := HNL.out; omega
                have hjN : j < 1 := by omega
                have HE2 := Lib.hid (show countL (l.map (·.1)) left 1 = m by rw [HR.out, countL_stop _ _ _ (by omega)])
                clear hlt hm1 hj hm
                have c_e0 := ye.cell 0 _ rfl
                have c_e1 := ye.cell 1 _ rfl
                have c_e2 := ye.cell 2 _ rfl
                have c_e3 := ye.cell 3 _ rfl
                have c_e4 := ye.cell 4 _ rfl
                have c_e5 := ye.cell 5 _ rfl
                have c_e6 := ye.cell 6 _ rfl
                have c_e7 := ye.cell 7 _ rfl
                have c_e8 := ye.cell 8 _ rfl
                have c_e9 := ye.cell 9 _ rfl
                have m_e0 := ye.mark 0 _ rfl
                have m_e1 := ye.mark 1 _ rfl
                have m_e2 := ye.mark 2 _ rfl
                have m_e3 := ye.mark 3 _ rfl
                have m_e4 := ye.mark 4 _ rfl
                have m_e5 := ye.mark 5 _ rfl
                have m_e6 := ye.mark 6 _ rfl
                have m_e7 := ye.mark 7 _ rfl
                have m_e8 := ye.mark 8 _ rfl
                have m_e9 := ye.mark 9 _ rfl
                have l_e := ye.lt (Nat.succ_pos _)
                go_wp2_with fail
                go_ret
                exact ⟨ret_int (by rw [HG.out, HE2.out]), hgW.trans hg⟩
            · have hjE : j = 1 := by omega
              have HE2 := Lib.hid (show countL (l.map (·.1)) left 1 = m by rw [HR.out, hjE, ← HNL.out, List.drop_length, List.map_nil, countL])
              clear hlt hj
              subst hjE
              have c_e0 := ye.cell 0 _ rfl
              have c_e1 := ye.cell 1 _ rfl
              have c_e2 := ye.cell 2 _ rfl
              have c_e3 := ye.cell 3 _ rfl
              have c_e4 := ye.cell 4 _ rfl
              have c_e5 := ye.cell 5 _ rfl
              have c_e6 := ye.cell 6 _ rfl
              have c_e7 := ye.cell 7 _ rfl
              have c_e8 := ye.cell 8 _ rfl
              have c_e9 := ye.cell 9 _ rfl
              have m_e0 := ye.mark 0 _ rfl
              have m_e1 := ye.mark 1 _ rfl
              have m_e2 := ye.mark 2 _ rfl
              have m_e3 := ye.mark 3 _ rfl
              have m_e4 := ye.mark 4 _ rfl
              have m_e5 := ye.mark 5 _ rfl
              have m_e6 := ye.mark 6 _ rfl
              have m_e7 := ye.mark 7 _ rfl
              have m_e8 := ye.mark 8 _ rfl
              have m_e9 := ye.mark 9 _ rfl
              have l_e := ye.lt (Nat.succ_pos _)
              go_wp2_with fail
              go_ret
              exact ⟨ret_int (by rw [HG.out, HE2.out]), hgW.trans hg⟩
        by_cases x2 : mx = 1
        · subst x2
          by_cases q4 : (n : Int) = 1
          rotate_left
          · have HR := Lib.hid (HKN.out (¬ (n : Int) = 1) (fun h => by simp [kindB]; omega) q4)
            go_wp2_with fail
            go_ret
            exact ⟨ret_int (by rw [HR.out]; rfl), Gr.alloc _ _⟩
          have q40 : n = 1 := by omega
          subst q40
          clear q4
          have HG := Lib.hid (HPS.out (by simp [leanB, HTE.out, HSE.out]) (by simp [kindB]))
          go_wp2_with fail
          refine name_world (fun W hW => ?_)
          obtain ⟨xe, hgW⟩ := bx1 hW
          clear hW 
          have HSW := Lib.hid (HS.out.later hgW)
          go_loopw [6, 7] (fun u i wr => ∃ (j m : Nat), j ≤ 1 ∧ m ≤ 65537 * (left + 1) ∧ u = .int .i64 (m : Int) ∧ i = .int .i64 (j : Int) ∧ Gr W wr ∧ Hid (countL (l.map (·.1)) left 1 = countL ((l.drop j).map (·.1)) left m)) (fun _ i _ => 1 - (intOf i).toNat)
          case atStart => exact ⟨0, 1, by omega, by omega, rfl, rfl, Gr.refl _, Lib.hid rfl⟩
          case round =>
            obtain ⟨j, m, hj, hm, rfl, rfl, hg, HR⟩ := hrel
            have ye := xe.later hg
            have hm2 : m ≤ 268505089 := by have := HL.out; omega
            by_cases hlt : j < 1
            · by_cases hm1 : m ≤ 65536
              · obtain ⟨b, off, op2, pos2, s2, text2, mn2, mx2, p2, n2, c2, a, rfl, hbW, ha, hin, hat⟩ := args_at HSW.out HLEN.out (fun p hp => (HA.out p hp).later hgW) j (by have := HNL.out; omega)
                have HR2 := Lib.hid (show countL (l.map (·.1)) left 1 = countL ((l.drop (j + 1)).map (·.1)) left (m + countE a (left - 1)) by
                  rw [HR.out, drop_cons_of ha, List.map_cons, countL, if_pos hm1])
                have HSA := Lib.hid (HK.out _ (List.mem_of_getElem? ha))
                have HBD := Lib.hid (count_bound k a HSA.out (left - 1))
                obtain ⟨hbr, hcell⟩ := hat wr hg
                unfold exCells at hcell
                have d0 := hcell 0 _ (by omega) rfl
                have d1 := hcell 1 _ (by omega) rfl
                have d2 := hcell 2 _ (by omega) rfl
                have d3 := hcell 3 _ (by omega) rfl
                have d4 := hcell 4 _ (by omega) rfl
                have d5 := hcell 5 _ (by omega) rfl
                have d6 := hcell 6 _ (by omega) rfl
                have d7 := hcell 7 _ (by omega) rfl
                have d8 := hcell 8 _ (by omega) rfl
                have d9 := hcell 9 _ (by omega) rfl
                simp only [Nat.add_zero] at d0
                have HIN := Lib.hid (hin.later hg)
                have hjI : (j : Int) < 1 := by have := HNL.out; omega
                have hjN : j < 1 := by omega
                have hmI : (m : Int) ≤ 65536 := by omega
                have HLT := Lib.hid hlt
                have HM1 := Lib.hid hm1
                clear hlt hm1 hcell hin hat ha hj hm hbW
                have hd1 : ((left - 1 : Nat) : Int) = (left : Int) - 1 := by have := HQ0.out; omega
                have HC := Lib.hid (HIH.out a HSA.out _ wr (left - 1) HIN.out (by omega))
                unfold exCells at HC
                rw [hd1] at HC
                clear hd1
                have c_e0 := ye.cell 0 _ rfl
                have c_e1 := ye.cell 1 _ rfl
                have c_e2 := ye.cell 2 _ rfl
                have c_e3 := ye.cell 3 _ rfl
                have c_e4 := ye.cell 4 _ rfl
                have c_e5 := ye.cell 5 _ rfl
                have c_e6 := ye.cell 6 _ rfl
                have c_e7 := ye.cell 7 _ rfl
                have c_e8 := ye.cell 8 _ rfl
                have c_e9 := ye.cell 9 _ rfl
                have m_e0 := ye.mark 0 _ rfl
                have m_e1 := ye.mark 1 _ rfl
                have m_e2 := ye.mark 2 _ rfl
                have m_e3 := ye.mark 3 _ rfl
                have m_e4 := ye.mark 4 _ rfl
                have m_e5 := ye.mark 5 _ rfl
                have m_e6 := ye.mark 6 _ rfl
                have m_e7 := ye.mark 7 _ rfl
                have m_e8 := ye.mark 8 _ rfl
                have m_e9 := ye.mark 9 _ rfl
                have l_e := ye.lt (Nat.succ_pos _)
                go_wp2_with fail
                clear c_e0 c_e1 c_e2 c_e3 c_e4 c_e5 c_e6 c_e7 c_e8 c_e9 m_e0 m_e1 m_e2 m_e3 m_e4 m_e5 m_e6 m_e7 m_e8 m_e9 l_e
                go_at_call 41
                refine HC.out.mono ?_; rintro e' w2 ⟨rfl, hb⟩
                obtain ⟨q, hq⟩ : ∃ q, countE a (left - 1) = q := ⟨_, rfl⟩
                have hql : q ≤ 65537 * left := by rw [← hq]; have := HBD.out; rw [Nat.sub_add_cancel (by have := HQ0.out; omega)] at this; exact this
                have HQ := Lib.hid hq
                rw [hq]
                have hq2 : q ≤ 268505089 := by omega
                clear hq
                go_wp2_with fail
                go_roundw
                case rel => exact ⟨j + 1, m + q, by have := HLT.out; omega, by have := HM1.out; omega, by go_num, by go_num, hg.trans hb, Lib.hid (by rw [← HQ.out]; exact HR2.out)⟩
                case measure => have := HLT.out; simp [intOf]; omega
              · have hmI : ¬ (m : Int) ≤ 65536 := by omega
                have hjI : (j : Int) < 1 := by have := HNL.out; omega
                have hjN : j < 1 := by omega
                have HE2 := Lib.hid (show countL (l.map (·.1)) left 1 = m by rw [HR.out, countL_stop _ _ _ (by omega)])
                clear hlt hm1 hj hm
                have c_e0 := ye.cell 0 _ rfl
                have c_e1 := ye.cell 1 _ rfl
                have c_e2 := ye.cell 2 _ rfl
                have c_e3 := ye.cell 3 _ rfl
                have c_e4 := ye.cell 4 _ rfl
                have c_e5 := ye.cell 5 _ rfl
                have c_e6 := ye.cell 6 _ rfl
                have c_e7 := ye.cell 7 _ rfl
                have c_e8 := ye.cell 8 _ rfl
                have c_e9 := ye.cell 9 _ rfl
                have m_e0 := ye.mark 0 _ rfl
                have m_e1 := ye.mark 1 _ rfl
                have m_e2 := ye.mark 2 _ rfl
                have m_e3 := ye.mark 3 _ rfl
                have m_e4 := ye.mark 4 _ rfl
                have m_e5 := ye.mark 5 _ rfl
                have m_e6 := ye.mark 6 _ rfl
                have m_e7 := ye.mark 7 _ rfl
                have m_e8 := ye.mark 8 _ rfl
                have m_e9 := ye.mark 9 _ rfl
                have l_e := ye.lt (Nat.succ_pos _)
                go_wp2_with fail
                go_ret
                exact ⟨ret_int (by rw [HG.out, HE2.out]), hgW.trans hg⟩
            · have hjE : j = 1 := by omega
              have HE2 := Lib.hid (show countL (l.map (·.1)) left 1 = m by rw [HR.out, hjE, ← HNL.out, List.drop_length, List.map_nil, countL])
              clear hlt hj
              subst hjE
              have c_e0 := ye.cell 0 _ rfl
              have c_e1 := ye.cell 1 _ rfl
              have c_e2 := ye.cell 2 _ rfl
              have c_e3 := ye.cell 3 _ rfl
              have c_e4 := ye.cell 4 _ rfl
              have c_e5 := ye.cell 5 _ rfl
              have c_e6 := ye.cell 6 _ rfl
              have c_e7 := ye.cell 7 _ rfl
              have c_e8 := ye.cell 8 _ rfl
              have c_e9 := ye.cell 9 _ rfl
              have m_e0 := ye.mark 0 _ rfl
              have m_e1 := ye.mark 1 _ rfl
              have m_e2 := ye.mark 2 _ rfl
              have m_e3 := ye.mark 3 _ rfl
              have m_e4 := ye.mark 4 _ rfl
              have m_e5 := ye.mark 5 _ rfl
              have m_e6 := ye.mark 6 _ rfl
              have m_e7 := ye.mark 7 _ rfl
              have m_e8 := ye.mark 8 _ rfl
              have m_e9 := ye.mark 9 _ rfl
              have l_e := ye.lt (Nat.succ_pos _)
              go_wp2_with fail
              go_ret
              exact ⟨ret_int (by rw [HG.out, HE2.out]), hgW.trans hg⟩
        · have HR := Lib.hid (HKN.out True (fun _ => by simp [kindB, x1, x2]) trivial)
          have y1 : (mx == -1) = false := by simp [x1]
          have y2 : (mx == 1) = false := by simp [x2]
          by_cases q4 : (n : Int) = 1
          · go_wp2_with fail
            go_ret
            exact ⟨ret_int (by rw [HR.out]; rfl), Gr.alloc _ _⟩
          · go_wp2_with fail
            go_ret
            exact ⟨ret_int (by rw [HR.out]; rfl), Gr.alloc _ _⟩
      by_cases m1 : mn = 1
      rotate_left
      · have HR := Lib.hid (HKN.out True (fun _ => by simp [kindB, m0, m1]) trivial)
        by_cases q4 : (n : Int) = 1
        · go_wp2_with fail
          go_ret
          exact ⟨ret_int (by rw [HR.out]; rfl), Gr.alloc _ _⟩
        · go_wp2_with fail
          go_ret
          exact ⟨ret_int (by rw [HR.out]; rfl), Gr.alloc _ _⟩
      subst m1
      by_cases x1 : mx = -1
      rotate_left
      · have HR := Lib.hid (HKN.out True (fun _ => by simp [kindB, x1]) trivial)
        have y1 : (mx == -1) = false := by simp [x1]
        by_cases q4 : (n : Int) = 1
        · go_wp2_with fail
          go_ret
          exact ⟨ret_int (by rw [HR.out]; rfl), Gr.alloc _ _⟩
        · go_wp2_with fail
          go_ret
          exact ⟨ret_int (by rw [HR.out]; rfl), Gr.alloc _ _⟩
      subst x1
      by_cases q4 : (n : Int) = 1
      rotate_left
      · have HR := Lib.hid (HKN.out (¬ (n : Int) = 1) (fun h => by simp [kindB]; omega) q4)
        go_wp2_with fail
        go_ret
        exact ⟨ret_int (by rw [HR.out]; rfl), Gr.alloc _ _⟩
      have q40 : n = 1 := by omega
      subst q40
      clear q4
      have HG := Lib.hid (HPS.out (by simp [leanB, HTE.out, HSE.out]) (by simp [kindB]))
      go_wp2_with fail
      refine name_world (fun W hW => ?_)
      obtain ⟨xe, hgW⟩ := bx1 hW
      clear hW 
      have HSW := Lib.hid (HS.out.later hgW)
      go_loopw [6, 7] (fun u i wr => ∃ (j m : Nat), j ≤ 1 ∧ m ≤ 65537 * (left + 1) ∧ u = .int .i64 (m : Int) ∧ i = .int .i64 (j : Int) ∧ Gr W wr ∧ Hid (countL (l.map (·.1)) left 1 = countL ((l.drop j).map (·.1)) left m)) (fun _ i _ => 1 - (intOf i).toNat)
      case atStart => exact ⟨0, 1, by omega, by omega, rfl, rfl, Gr.refl _, Lib.hid rfl⟩
      case round =>
        obtain ⟨j, m, hj, hm, rfl, rfl, hg, HR⟩ := hrel
        have ye := xe.later hg
        have hm2 : m ≤ 268505089 := by have := HL.out; omega
        by_cases hlt : j < 1
        · by_cases hm1 : m ≤ 65536
          · obtain ⟨b, off, op2, pos2, s2, text2, mn2, mx2, p2, n2, c2, a, rfl, hbW, ha, hin, hat⟩ := args_at HSW.out HLEN.out (fun p hp => (HA.out p hp).later hgW) j (by have := HNL.out; omega)
            have HR2 := Lib.hid (show countL (l.map (·.1)) left 1 = countL ((l.drop (j + 1)).map (·.1)) left (m + countE a (left - 1)) by
              rw [HR.out, drop_cons_of ha, List.map_cons, countL, if_pos hm1])
            have HSA := Lib.hid (HK.out _ (List.mem_of_getElem? ha))
            have HBD := Lib.hid (count_bound k a HSA.out (left - 1))
            obtain ⟨hbr, hcell⟩ := hat wr hg
            unfold exCells at hcell
            have d0 := hcell 0 _ (by omega) rfl
            have d1 := hcell 1 _ (by omega) rfl
            have d2 := hcell 2 _ (by omega) rfl
            have d3 := hcell 3 _ (by omega) rfl
            have d4 := hcell 4 _ (by omega) rfl
            have d5 := hcell 5 _ (by omega) rfl
            have d6 := hcell 6 _ (by omega) rfl
            have d7 := hcell 7 _ (by omega) rfl
            have d8 := hcell 8 _ (by omega) rfl
            have d9 := hcell 9 _ (by omega) rfl
            simp only [Nat.add_zero] at d0
            have HIN := Lib.hid (hin.later hg)
            have hjI : (j : Int) < 1 := by have := HNL.out; omega
            have hjN : j < 1 := by omega
            have hmI : (m : Int) ≤ 65536 := by omega
            have HLT := Lib.hid hlt
            have HM1 := Lib.hid hm1
            clear hlt hm1 hcell hin hat ha hj hm hbW
            have hd1 : ((left - 1 : Nat) : Int) = (left : Int) - 1 := by have := HQ0.out; omega
            have HC := Lib.hid (HIH.out a HSA.out _ wr (left - 1) HIN.out (by omega))
            unfold exCells at HC
            rw [hd1] at HC
            clear hd1
            have c_e0 := ye.cell 0 _ rfl
            have c_e1 := ye.cell 1 _ rfl
            have c_e2 := ye.cell 2 _ rfl
            have c_e3 := ye.cell 3 _ rfl
            have c_e4 := ye.cell 4 _ rfl
            have c_e5 := ye.cell 5 _ rfl
            have c_e6 := ye.cell 6 _ rfl
            have c_e7 := ye.cell 7 _ rfl
            have c_e8 := ye.cell 8 _ rfl
            have c_e9 := ye.cell 9 _ rfl
            have m_e0 := ye.mark 0 _ rfl
            have m_e1 := ye.mark 1 _ rfl
            have m_e2 := ye.mark 2 _ rfl
            have m_e3 := ye.mark 3 _ rfl
            have m_e4 := ye.mark 4 _ rfl
            have m_e5 := ye.mark 5 _ rfl
            have m_e6 := ye.mark 6 _ rfl
            have m_e7 := ye.mark 7 _ rfl
            have m_e8 := ye.mark 8 _ rfl
            have m_e9 := ye.mark 9 _ rfl
            have l_e := ye.lt (Nat.succ_pos _)
            go_wp2_with fail
            clear c_e0 c_e1 c_e2 c_e3 c_e4 c_e5 c_e6 c_e7 c_e8 c_e9 m_e0 m_e1 m_e2 m_e3 m_e4 m_e5 m_e6 m_e7 m_e8 m_e9 l_e
            go_at_call 41
            refine HC.out.mono ?_; rintro e' w2 ⟨rfl, hb⟩
            obtain ⟨q, hq⟩ : ∃ q, countE a (left - 1) = q := ⟨_, rfl⟩
            have hql : q ≤ 65537 * left := by rw [← hq]; have := HBD.out; rw [Nat.sub_add_cancel (by have := HQ0.out; omega)] at this; exact this
            have HQ := Lib.hid hq
            rw [hq]
            have hq2 : q ≤ 268505089 := by omega
            clear hq
            go_wp2_with fail
            go_roundw
            case rel => exact ⟨j + 1, m + q, by have := HLT.out; omega, by have := HM1.out; omega, by go_num, by go_num, hg.trans hb, Lib.hid (by rw [← HQ.out]; exact HR2.out)⟩
            case measure => have := HLT.out; simp [intOf]; omega
          · have hmI : ¬ (m : Int) ≤ 65536 := by omega
            have hjI : (j : Int) < 1 := by have := HNL.out; omega
            have hjN : j < 1 := by omega
            have HE2 := Lib.hid (show countL (l.map (·.1)) left 1 = m by rw [HR.out, countL_stop _ _ _ (by omega)])
            clear hlt hm1 hj hm
            have c_e0 := ye.cell 0 _ rfl
            have c_e1 := ye.cell 1 _ rfl
            have c_e2 := ye.cell 2 _ rfl
            have c_e3 := ye.cell 3 _ rfl
            have c_e4 := ye.cell 4 _ rfl
            have c_e5 := ye.cell 5 _ rfl
            have c_e6 := ye.cell 6 _ rfl
            have c_e7 := ye.cell 7 _ rfl
            have c_e8 := ye.cell 8 _ rfl
            have c_e9 := ye.cell 9 _ rfl
            have m_e0 := ye.mark 0 _ rfl
            have m_e1 := ye.mark 1 _ rfl
            have m_e2 := ye.mark 2 _ rfl
            have m_e3 := ye.mark 3 _ rfl
            have m_e4 := ye.mark 4 _ rfl
            have m_e5 := ye.mark 5 _ rfl
            have m_e6 := ye.mark 6 _ rfl
            have m_e7 := ye.mark 7 _ rfl
            have m_e8 := ye.mark 8 _ rfl
            have m_e9 := ye.mark 9 _ rfl
            have l_e := ye.lt (Nat.succ_pos _)
            go_wp2_with fail
            go_ret
            exact ⟨ret_int (by rw [HG.out, HE2.out]), hgW.trans hg⟩
        · have hjE : j = 1 := by omega
          have HE2 := Lib.hid (show countL (l.map (·.1)) left 1 = m by rw [HR.out, hjE, ← HNL.out, List.drop_length, List.map_nil, countL])
          clear hlt hj
          subst hjE
          have c_e0 := ye.cell 0 _ rfl
          have c_e1 := ye.cell 1 _ rfl
          have c_e2 := ye.cell 2 _ rfl
          have c_e3 := ye.cell 3 _ rfl
          have c_e4 := ye.cell 4 _ rfl
          have c_e5 := ye.cell 5 _ rfl
          have c_e6 := ye.cell 6 _ rfl
          have c_e7 := ye.cell 7 _ rfl
          have c_e8 := ye.cell 8 _ rfl
          have c_e9 := ye.cell 9 _ rfl
          have m_e0 := ye.mark 0 _ rfl
          have m_e1 := ye.mark 1 _ rfl
          have m_e2 := ye.mark 2 _ rfl
          have m_e3 := ye.mark 3 _ rfl
          have m_e4 := ye.mark 4 _ rfl
          have m_e5 := ye.mark 5 _ rfl
          have m_e6 := ye.mark 6 _ rfl
          have m_e7 := ye.mark 7 _ rfl
          have m_e8 := ye.mark 8 _ rfl
          have m_e9 := ye.mark 9 _ rfl
          have l_e := ye.lt (Nat.succ_pos _)
          go_wp2_with fail
          go_ret
          exact ⟨ret_int (by rw [HG.out, HE2.out]), hgW.trans hg⟩

end Go.Proofs.YtpcmgkohebihmaaDoor
