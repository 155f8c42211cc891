/- size of bolterlaw8: how many parts an expression has, cut off. No condition. -/
import Derived.Test.YtpcmgkohebihmaaDoorEx
import Derived.WalkSpells
import Derived.WalkLawsBesides
import Derived.Lib.Hide
namespace Go.Proofs.YtpcmgkohebihmaaDoor
open Go Go.RowKit

mutual
def sizeE : Ex → Nat → Nat
  | .mk _ _ _ _ _ _ args, d => if 5000 < d then 1048576 else sizeL args d 1
def sizeL : List Ex → Nat → Nat → Nat
  | [], _, n => n
  | a :: r, d, n => if n < 1048576 then sizeL r d (n + sizeE a (d + 1)) else n
end

theorem sizeL_stop (l : List Ex) (d n : Nat) (h : 1048576 ≤ n) : sizeL l d n = n := by
  cases l with
  | nil => rw [sizeL]
  | cons a r => rw [sizeL, if_neg (by omega)]

theorem size_bound : ∀ k, ∀ e : Ex, SizeOf.sizeOf e ≤ k → ∀ d, d ≤ 5001 → sizeE e d ≤ 1048576 * (5002 - d) := by
  intro k
  induction k with
  | zero => intro e h; cases e; simp only [Ex.mk.sizeOf_spec] at h; omega
  | succ k ih =>
    intro e h d hd
    cases e with
    | mk op pos s text mn mx args =>
      rw [sizeE]
      split
      · have : d = 5001 := by omega
        subst this; omega
      · have key : ∀ (r : List Ex) (n : Nat), (∀ a ∈ r, a ∈ args) → n ≤ 1048576 * (5002 - d) → sizeL r d n ≤ 1048576 * (5002 - d) := by
          intro r
          induction r with
          | nil => intro n _ hn; rw [sizeL]; exact hn
          | cons a r ihr =>
            intro n hr hn
            rw [sizeL]
            split
            · have ha := Ex.size_arg (.mk op pos s text mn mx args) a (hr a (by simp))
              have := ih a (by omega) (d + 1) (by omega)
              refine ihr _ (fun b hb => hr b (by simp [hb])) ?_
              omega
            · exact hn
        exact key args 1 (fun a h => h) (by omega)

set_option maxRecDepth 100000 in
set_option maxHeartbeats 2000000 in
theorem size_any : ∀ k, ∀ (e : Ex), SizeOf.sizeOf e ≤ k → ∀ (cs : List Value) (w : World) (d : Nat), ExIn w e cs → d ≤ 5001 →
    Calls Tryd.prog 7 #[.agg cs.toArray, .int .i64 (d : Int)] w fun e' w' => e' = .returned (.int .i64 (sizeE e d : Nat)) ∧ Gr w w' := by
  intro k
  induction k with
  | zero => intro e h; cases e; simp only [Ex.mk.sizeOf_spec] at h; omega
  | succ k ih =>
    intro e hk cs w d he hd
    cases he with
    | mk op pos s text mn mx v l h1 h2 h3 h4 h5 hlen hs hn hb hargs =>
      have HK := Lib.hid (fun p (hp : p ∈ l) => by
        have := Ex.size_arg (.mk op pos s text mn mx (l.map (·.1))) p.1 (List.mem_map.2 ⟨p, hp, rfl⟩)
        exact (show SizeOf.sizeOf p.1 ≤ k by omega))
      have HIH := Lib.hid ih
      have HS := Lib.hid hs
      have HA := Lib.hid hargs
      have HLEN := Lib.hid hlen
      obtain ⟨pv, cv, rfl⟩ := hs.len
      have hll : l.length ≤ 140737488351232 := by omega
      clear ih hk h1 h2 h3 h4 h5 hn hs hargs hlen hb
      unfold exCells
      by_cases hd5 : 5000 < d
      · have hdI : (5000 : Int) < (d : Int) := by omega
        have HE := Lib.hid (show sizeE (.mk op pos s text mn mx (l.map (·.1))) d = 1048576 by rw [sizeE, if_pos hd5])
        clear hd5
        go_enter Tryd.func7, Tryd.ntmps7
        go_wp2_with fail
        go_ret
        exact ⟨ret_int (by rw [HE.out]; rfl), Gr.alloc _ _⟩
      · have hdI : ¬ (5000 : Int) < (d : Int) := by omega
        have HE := Lib.hid (show sizeE (.mk op pos s text mn mx (l.map (·.1))) d = sizeL (l.map (·.1)) d 1 by rw [sizeE, if_neg hd5])
        have HD := Lib.hid hd5
        clear hd5
        go_enter Tryd.func7, Tryd.ntmps7
        go_wp2_with fail
        refine name_world (fun W hW => ?_)
        have xe : boxAt W (w.heap.size) [.int .i64 op, .int .i64 pos, .int .u64 (wd s 0), .int .u64 (wd s 1), .int .u64 (wd s 2), .int .u64 (wd s 3), .string text, .int .i64 mn, .int .i64 mx, (.slice pv l.length cv)] := by
          subst hW; intro j u hj
          match j, hj with
          | 0, hj => simp at hj; subst hj; constructor <;> go_simp
          | 1, hj => simp at hj; subst hj; constructor <;> go_simp
          | 2, hj => simp at hj; subst hj; constructor <;> go_simp
          | 3, hj => simp at hj; subst hj; constructor <;> go_simp
          | 4, hj => simp at hj; subst hj; constructor <;> go_simp
          | 5, hj => simp at hj; subst hj; constructor <;> go_simp
          | 6, hj => simp at hj; subst hj; constructor <;> go_simp
          | 7, hj => simp at hj; subst hj; constructor <;> go_simp
          | 8, hj => simp at hj; subst hj; constructor <;> go_simp
          | 9, hj => simp at hj; subst hj; constructor <;> go_simp
        have hgW : Gr w W := by rw [hW]; exact Gr.alloc _ _
        clear hW
        have HSW := Lib.hid (HS.out.later hgW)
        go_loopw [5, 6] (fun n i wr => ∃ (j m : Nat), j ≤ l.length ∧ m ≤ 1048576 * (5002 - d) ∧ n = .int .i64 (m : Int) ∧ i = .int .i64 (j : Int) ∧ Gr W wr ∧ Hid (sizeL (l.map (·.1)) d 1 = sizeL ((l.drop j).map (·.1)) d m)) (fun _ i _ => l.length - (intOf i).toNat)
        case atStart => exact ⟨0, 1, by omega, by have := HD.out; omega, rfl, rfl, Gr.refl _, Lib.hid rfl⟩
        case round =>
          obtain ⟨j, m, hj, hm, rfl, rfl, hg, HR⟩ := hrel
          have ye := xe.later hg
          have hm2 : m ≤ 5247074304 := by have := HD.out; omega
          by_cases hlt : j < l.length
          · by_cases hm1 : m < 1048576
            · obtain ⟨b, off, op2, pos2, s2, text2, mn2, mx2, p2, n2, c2, a, rfl, hbW, ha, hin, hat⟩ := args_at HSW.out HLEN.out (fun p hp => (HA.out p hp).later hgW) j hlt
              have HR2 := Lib.hid (show sizeL (l.map (·.1)) d 1 = sizeL ((l.drop (j + 1)).map (·.1)) d (m + sizeE a (d + 1)) by
                rw [HR.out, drop_cons_of ha, List.map_cons, sizeL, if_pos hm1])
              have HSA := Lib.hid (HK.out _ (List.mem_of_getElem? ha))
              have HBD := Lib.hid (size_bound k a HSA.out (d + 1) (by have := HD.out; omega))
              obtain ⟨hbr, hcell⟩ := hat wr hg
              unfold exCells at hcell
              have d0 := hcell 0 _ (by omega) rfl
              have d1 := hcell 1 _ (by omega) rfl
              have d2 := hcell 2 _ (by omega) rfl
              have d3 := hcell 3 _ (by omega) rfl
              have d4 := hcell 4 _ (by omega) rfl
              have d5 := hcell 5 _ (by omega) rfl
              have d6 := hcell 6 _ (by omega) rfl
              have d7 := hcell 7 _ (by omega) rfl
              have d8 := hcell 8 _ (by omega) rfl
              have d9 := hcell 9 _ (by omega) rfl
              simp only [Nat.add_zero] at d0
              have HIN := Lib.hid (hin.later hg)
              have hjI : (j : Int) < (l.length : Int) := by omega
              have hmI : (m : Int) < 1048576 := by omega
              have HLT := Lib.hid hlt
              clear hlt hm1 hcell hin hat ha hj hm hbW
              have hd1 : ((d + 1 : Nat) : Int) = (d : Int) + 1 := by omega
              have HC := Lib.hid (HIH.out a HSA.out _ wr (d + 1) HIN.out (by have := HD.out; omega))
              unfold exCells at HC
              rw [hd1] at HC
              clear hd1
              have c_e0 := ye.cell 0 _ rfl
              have c_e1 := ye.cell 1 _ rfl
              have c_e2 := ye.cell 2 _ rfl
              have c_e3 := ye.cell 3 _ rfl
              have c_e4 := ye.cell 4 _ rfl
              have c_e5 := ye.cell 5 _ rfl
              have c_e6 := ye.cell 6 _ rfl
              have c_e7 := ye.cell 7 _ rfl
              have c_e8 := ye.cell 8 _ rfl
              have c_e9 := ye.cell 9 _ rfl
              have m_e0 := ye.mark 0 _ rfl
              have m_e1 := ye.mark 1 _ rfl
              have m_e2 := ye.mark 2 _ rfl
              have m_e3 := ye.mark 3 _ rfl
              have m_e4 := ye.mark 4 _ rfl
              have m_e5 := ye.mark 5 _ rfl
              have m_e6 := ye.mark 6 _ rfl
              have m_e7 := ye.mark 7 _ rfl
              have m_e8 := ye.mark 8 _ rfl
              have m_e9 := ye.mark 9 _ rfl
              have l_e := ye.lt (Nat.succ_pos _)
              go_wp2_with fail
              clear c_e0 c_e1 c_e2 c_e3 c_e4 c_e5 c_e6 c_e7 c_e8 c_e9 m_e0 m_e1 m_e2 m_e3 m_e4 m_e5 m_e6 m_e7 m_e8 m_e9 l_e
              go_at_call 7
              refine HC.out.mono ?_; rintro e' w2 ⟨rfl, hb⟩
              obtain ⟨q, hq⟩ : ∃ q, sizeE a (d + 1) = q := ⟨_, rfl⟩
              have hql : q ≤ 1048576 * (5002 - (d + 1)) := by rw [← hq]; exact HBD.out
              have HQ := Lib.hid hq
              rw [hq]
              have hq2 : q ≤ 5247074304 := by omega
              clear hq
              go_wp2_with fail
              go_roundw
              case rel => exact ⟨j + 1, m + q, by have := HLT.out; omega, by have := HD.out; omega, by go_num, by go_num, hg.trans hb, Lib.hid (by rw [← HQ.out]; exact HR2.out)⟩
              case measure => have := HLT.out; simp [intOf]; omega
            · have hmI : ¬ (m : Int) < 1048576 := by omega
              have hjI : (j : Int) < (l.length : Int) := by omega
              have HE2 := Lib.hid (show sizeL (l.map (·.1)) d 1 = m by rw [HR.out, sizeL_stop _ _ _ (by omega)])
              clear hlt hm1 hj hm
              have c_e0 := ye.cell 0 _ rfl
              have c_e1 := ye.cell 1 _ rfl
              have c_e2 := ye.cell 2 _ rfl
              have c_e3 := ye.cell 3 _ rfl
              have c_e4 := ye.cell 4 _ rfl
              have c_e5 := ye.cell 5 _ rfl
              have c_e6 := ye.cell 6 _ rfl
              have c_e7 := ye.cell 7 _ rfl
              have c_e8 := ye.cell 8 _ rfl
              have c_e9 := ye.cell 9 _ rfl
              have m_e0 := ye.mark 0 _ rfl
              have m_e1 := ye.mark 1 _ rfl
              have m_e2 := ye.mark 2 _ rfl
              have m_e3 := ye.mark 3 _ rfl
              have m_e4 := ye.mark 4 _ rfl
              have m_e5 := ye.mark 5 _ rfl
              have m_e6 := ye.mark 6 _ rfl
              have m_e7 := ye.mark 7 _ rfl
              have m_e8 := ye.mark 8 _ rfl
              have m_e9 := ye.mark 9 _ rfl
              have l_e := ye.lt (Nat.succ_pos _)
              go_wp2_with fail
              go_ret
              exact ⟨ret_int (by rw [HE.out, HE2.out]), hgW.trans hg⟩
          · have hjE : j = l.length := by omega
            have HE2 := Lib.hid (show sizeL (l.map (·.1)) d 1 = m by rw [HR.out, hjE, List.drop_length, List.map_nil, sizeL])
            clear hlt hj hm
            subst hjE
            have c_e0 := ye.cell 0 _ rfl
            have c_e1 := ye.cell 1 _ rfl
            have c_e2 := ye.cell 2 _ rfl
            have c_e3 := ye.cell 3 _ rfl
            have c_e4 := ye.cell 4 _ rfl
            have c_e5 := ye.cell 5 _ rfl
            have c_e6 := ye.cell 6 _ rfl
            have c_e7 := ye.cell 7 _ rfl
            have c_e8 := ye.cell 8 _ rfl
            have c_e9 := ye.cell 9 _ rfl
            have m_e0 := ye.mark 0 _ rfl
            have m_e1 := ye.mark 1 _ rfl
            have m_e2 := ye.mark 2 _ rfl
            have m_e3 := ye.mark 3 _ rfl
            have m_e4 := ye.mark 4 _ rfl
            have m_e5 := ye.mark 5 _ rfl
            have m_e6 := ye.mark 6 _ rfl
            have m_e7 := ye.mark 7 _ rfl
            have m_e8 := ye.mark 8 _ rfl
            have m_e9 := ye.mark 9 _ rfl
            have l_e := ye.lt (Nat.succ_pos _)
            go_wp2_with fail
            go_ret
            exact ⟨ret_int (by rw [HE.out, HE2.out]), hgW.trans hg⟩

end Go.Proofs.YtpcmgkohebihmaaDoor
