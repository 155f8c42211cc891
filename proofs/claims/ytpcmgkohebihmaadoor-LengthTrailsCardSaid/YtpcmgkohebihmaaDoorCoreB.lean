/- parts, Check of expand: whether an expression is a core's. No condition. -/
import Derived.Test.YtpcmgkohebihmaaDoorCoreA
import Derived.Test.YtpcmgkohebihmaaDoorRegion
namespace Go.Proofs.YtpcmgkohebihmaaDoor
open Go Go.RowKit

mutual
/-- How many parts there are behind e, if all may be; n of them ahead, d deep. -/
def partsE : Ex → Nat → Nat → Option Nat
  | .mk op pos s text mn mx args, d, n => if 65536 < n + 1 ∨ 4096 < d ∨ leanB op pos s text mn mx = false ∨ kindB op args.length mn mx = false then none else partsL args (d + 1) (n + 1)
def partsL : List Ex → Nat → Nat → Option Nat
  | [], _, n => some n
  | a :: r, d, n => match partsE a d n with
    | none => none
    | some m => partsL r d m
end

theorem parts_bound : ∀ k, ∀ e : Ex, SizeOf.sizeOf e ≤ k → ∀ d n m, partsE e d n = some m → n < m ∧ m ≤ 65536 := by
  intro k
  induction k with
  | zero => intro e h; cases e; simp only [Ex.mk.sizeOf_spec] at h; omega
  | succ k ih =>
    intro e h d n m hm
    cases e with
    | mk op pos s text mn mx args =>
      rw [partsE] at hm
      split at hm
      · cases hm
      · rename_i hne
        have hn : n + 1 ≤ 65536 := by
          rcases Nat.lt_or_ge 65536 (n + 1) with h1 | h1
          · exact absurd (Or.inl h1) hne
          · exact h1
        have key : ∀ (r : List Ex) (n : Nat), (∀ a ∈ r, a ∈ args) → n ≤ 65536 → partsL r (d + 1) n = some m → n ≤ m ∧ m ≤ 65536 := by
          intro r
          induction r with
          | nil => intro n _ hn h; rw [partsL] at h; injection h with h; omega
          | cons a r ihr =>
            intro n hr hn h
            rw [partsL] at h
            split at h
            · cases h
            · rename_i q hq
              have ha := Ex.size_arg (.mk op pos s text mn mx args) a (hr a (by simp))
              have h1 := ih a (by omega) _ _ _ hq
              have h2 := ihr q (fun b hb => hr b (by simp [hb])) h1.2 h
              omega
        have := key args (n + 1) (fun a h => h) hn hm
        omega

theorem size_put1 (w : World) (p : Addr) (v : Value) : (w.setCell p v).heap.size = w.heap.size := by simp [World.setCell]

set_option maxRecDepth 100000 in
set_option maxHeartbeats 4000000 in
theorem parts_any : ∀ k, ∀ (e : Ex), SizeOf.sizeOf e ≤ k → ∀ (cs : List Value) (w0 w : World) (d n0 s0 pn ps : Nat), ExIn w0 e cs → Gr w0 w → w0.heap.size ≤ pn → w0.heap.size ≤ ps → pn ≠ ps → boxAt w pn [.int .i64 (n0 : Int)] → boxAt w ps [.int .i64 (s0 : Int)] →
    d ≤ 4097 → n0 ≤ 65536 → s0 ≤ n0 →
    Calls Tryd.prog 34 #[.agg cs.toArray, .int .i64 (d : Int), .pointer (some ⟨pn, 0, none⟩), .pointer (some ⟨ps, 0, none⟩)] w fun e' w' => e' = .returned (.bool (partsE e d n0).isSome) ∧ Gr w0 w' ∧
      ∀ n1, partsE e d n0 = some n1 → ∃ s1 : Nat, s1 ≤ n1 ∧ boxAt w' pn [.int .i64 (n1 : Int)] ∧ boxAt w' ps [.int .i64 (s1 : Int)] := by
  intro k
  induction k with
  | zero => intro e h; cases e; simp only [Ex.mk.sizeOf_spec] at h; omega
  | succ k ih =>
    intro e hk cs w0 w d n0 s0 pn ps he hg0 hpn hps hne xn xs hd hn0 hs0
    cases he with
    | mk op pos s text mn mx v l h1 h2 h3 h4 h5 hlen hs hn hb hargs =>
      have HK := Lib.hid (fun p (hp : p ∈ l) => by
        have := Ex.size_arg (.mk op pos s text mn mx (l.map (·.1))) p.1 (List.mem_map.2 ⟨p, hp, rfl⟩)
        exact (show SizeOf.sizeOf p.1 ≤ k by omega))
      have HIH := Lib.hid ih
      have HS := Lib.hid hs
      have HA := Lib.hid hargs
      have HLEN := Lib.hid hlen
      obtain ⟨pv, cv, rfl⟩ := hs.len
      have hll : l.length ≤ 140737488351232 := by omega
      have HPE := Lib.hid (show partsE (.mk op pos s text mn mx (l.map (·.1))) d n0 = if 65536 < n0 + 1 ∨ 4096 < d ∨ leanB op pos s text mn mx = false ∨ kindB op l.length mn mx = false then none else partsL (l.map (·.1)) (d + 1) (n0 + 1) by rw [partsE, List.length_map])
      have HNE := Lib.hid hne
      have HPN := Lib.hid hpn
      have HPS := Lib.hid hps
      clear ih hk h1 h2 h3 h4 h5 hn hs hargs hlen hb hne hpn hps
      unfold exCells
      have hpnl := xn.lt (by simp)
      have hpsl := xs.lt (by simp)
      have hen := HNE.out
      go_enter Tryd.func34, Tryd.ntmps34
      have c_n0 := xn.cell 0 _ rfl
      have m_n0 := xn.mark 0 _ rfl
      have l_n := xn.lt (Nat.succ_pos _)
      have c_s0 := xs.cell 0 _ rfl
      have m_s0 := xs.mark 0 _ rfl
      have l_s := xs.lt (Nat.succ_pos _)
      by_cases hN : 65536 < n0 + 1
      · have hNI : (65536 : Int) < (n0 : Int) + 1 := by omega
        have HP := Lib.hid (show partsE (.mk op pos s text mn mx (l.map (·.1))) d n0 = none by rw [HPE.out, if_pos (.inl hN)])
        go_wp2_with fail
        go_ret
        exact ⟨ret_bool (by rw [HP.out]; rfl), Gr.trans (Below.setCell (p := ⟨pn, 0, none⟩) hg0 HPN.out _) (Gr.alloc _ _), fun n1 h => by rw [HP.out] at h; cases h⟩
      · have hNI : ¬ (65536 : Int) < (n0 : Int) + 1 := by omega
        by_cases hD : 4096 < d
        · have hDI : (4096 : Int) < (d : Int) := by omega
          have HP := Lib.hid (show partsE (.mk op pos s text mn mx (l.map (·.1))) d n0 = none by rw [HPE.out, if_pos (.inr (.inl hD))])
          go_wp2_with fail
          go_ret
          exact ⟨ret_bool (by rw [HP.out]; rfl), Gr.trans (Below.setCell (p := ⟨pn, 0, none⟩) hg0 HPN.out _) (Gr.alloc _ _), fun n1 h => by rw [HP.out] at h; cases h⟩
        · have hDI : ¬ (4096 : Int) < (d : Int) := by omega
          have HN := Lib.hid hN
          have HD := Lib.hid hD
          clear hN hD hd hn0
          obtain ⟨lb, hlb⟩ : ∃ b, leanB op pos s text mn mx = b := ⟨_, rfl⟩
          obtain ⟨kb, hkb⟩ : ∃ b, kindB op l.length mn mx = b := ⟨_, rfl⟩
          have HLB := Lib.hid hlb
          have HKB := Lib.hid hkb
          clear hlb hkb
          go_wp2_with fail
          clear c_n0 m_n0 l_n
          clear c_s0 m_s0 l_s
          go_at_call 49
          refine name_calls (fun W hW => ?_)
          have hgW : Gr w0 W := by rw [hW]; exact Gr.trans (Below.setCell (p := ⟨pn, 0, none⟩) hg0 HPN.out _) (Gr.alloc _ _)
          have yn : boxAt W pn [.int .i64 ((n0 : Int) + 1)] := by rw [hW]; exact (xn.put 0 (.int .i64 ((n0 : Int) + 1)) (by simp)).later (Gr.alloc _ _)
          have ys : boxAt W ps [.int .i64 (s0 : Int)] := by rw [hW]; exact (xs.far (⟨pn, 0, none⟩ : Addr) _ HNE.out).later (Gr.alloc _ _)
          have ye : boxAt W w.heap.size [.int .i64 op, .int .i64 pos, .int .u64 (wd s 0), .int .u64 (wd s 1), .int .u64 (wd s 2), .int .u64 (wd s 3), .string text, .int .i64 mn, .int .i64 mx, (.slice pv l.length cv)] := by
            rw [hW]
            have h1 := boxAt.new (w := w.setCell ⟨pn, 0, none⟩ (.int .i64 ((n0 : Int) + 1))) [.int .i64 op, .int .i64 pos, .int .u64 (wd s 0), .int .u64 (wd s 1), .int .u64 (wd s 2), .int .u64 (wd s 3), .string text, .int .i64 mn, .int .i64 mx, (.slice pv l.length cv)] 27 rfl
            rw [size_put1] at h1; exact h1
          have hsW : w.heap.size < W.heap.size := ye.lt (by simp)
          clear hW xn xs hg0 hen
          refine (lean_any op pos s text mn mx (.slice pv l.length cv) W).mono ?_; rintro e' w1 ⟨rfl, hb⟩
          rw [HLB.out]
          replace yn := yn.later hb
          replace ys := ys.later hb
          replace ye := ye.later hb
          replace hgW := hgW.trans hb
          clear hb
          cases lb
          · have HP := Lib.hid (show partsE (.mk op pos s text mn mx (l.map (·.1))) d n0 = none by rw [HPE.out, if_pos (.inr (.inr (.inl HLB.out)))])
            go_wp2_with fail
            go_ret
            exact ⟨ret_bool (by rw [HP.out]; rfl), hgW, fun n1 h => by rw [HP.out] at h; cases h⟩
          · have c_e0 := ye.cell 0 _ rfl
            have c_e1 := ye.cell 1 _ rfl
            have c_e2 := ye.cell 2 _ rfl
            have c_e3 := ye.cell 3 _ rfl
            have c_e4 := ye.cell 4 _ rfl
            have c_e5 := ye.cell 5 _ rfl
            have c_e6 := ye.cell 6 _ rfl
            have c_e7 := ye.cell 7 _ rfl
            have c_e8 := ye.cell 8 _ rfl
            have c_e9 := ye.cell 9 _ rfl
            have m_e0 := ye.mark 0 _ rfl
            have m_e1 := ye.mark 1 _ rfl
            have m_e2 := ye.mark 2 _ rfl
            have m_e3 := ye.mark 3 _ rfl
            have m_e4 := ye.mark 4 _ rfl
            have m_e5 := ye.mark 5 _ rfl
            have m_e6 := ye.mark 6 _ rfl
            have m_e7 := ye.mark 7 _ rfl
            have m_e8 := ye.mark 8 _ rfl
            have m_e9 := ye.mark 9 _ rfl
            have l_e := ye.lt (Nat.succ_pos _)
            go_wp2_with fail
            clear c_e0 c_e1 c_e2 c_e3 c_e4 c_e5 c_e6 c_e7 c_e8 c_e9 m_e0 m_e1 m_e2 m_e3 m_e4 m_e5 m_e6 m_e7 m_e8 m_e9 l_e
            go_at_call 50
            refine (kind_any op pos s text mn mx pv l.length cv w1 (by omega)).mono ?_; rintro e' w2 ⟨rfl, hb⟩
            rw [HKB.out]
            replace yn := yn.later hb
            replace ys := ys.later hb
            replace ye := ye.later hb
            replace hgW := hgW.trans hb
            clear hb
            cases kb
            · have HP := Lib.hid (show partsE (.mk op pos s text mn mx (l.map (·.1))) d n0 = none by rw [HPE.out, if_pos (.inr (.inr (.inr HKB.out)))])
              go_wp2_with fail
              go_ret
              exact ⟨ret_bool (by rw [HP.out]; rfl), hgW, fun n1 h => by rw [HP.out] at h; cases h⟩
            · have HP := Lib.hid (show partsE (.mk op pos s text mn mx (l.map (·.1))) d n0 = partsL (l.map (·.1)) (d + 1) (n0 + 1) by
                rw [HPE.out, if_neg]
                rintro (h | h | h | h)
                · exact HN.out h
                · exact HD.out h
                · rw [HLB.out] at h; cases h
                · rw [HKB.out] at h; cases h)
              obtain ⟨ob, hob⟩ : ∃ b, (op == 2) = b := ⟨_, rfl⟩
              have hsI : (s0 : Int) ≤ 65536 := by have := HN.out; omega
              have c_e0 := ye.cell 0 _ rfl
              have c_e1 := ye.cell 1 _ rfl
              have c_e2 := ye.cell 2 _ rfl
              have c_e3 := ye.cell 3 _ rfl
              have c_e4 := ye.cell 4 _ rfl
              have c_e5 := ye.cell 5 _ rfl
              have c_e6 := ye.cell 6 _ rfl
              have c_e7 := ye.cell 7 _ rfl
              have c_e8 := ye.cell 8 _ rfl
              have c_e9 := ye.cell 9 _ rfl
              have m_e0 := ye.mark 0 _ rfl
              have m_e1 := ye.mark 1 _ rfl
              have m_e2 := ye.mark 2 _ rfl
              have m_e3 := ye.mark 3 _ rfl
              have m_e4 := ye.mark 4 _ rfl
              have m_e5 := ye.mark 5 _ rfl
              have m_e6 := ye.mark 6 _ rfl
              have m_e7 := ye.mark 7 _ rfl
              have m_e8 := ye.mark 8 _ rfl
              have m_e9 := ye.mark 9 _ rfl
              have l_e := ye.lt (Nat.succ_pos _)
              have c_n0 := yn.cell 0 _ rfl
              have m_n0 := yn.mark 0 _ rfl
              have l_n := yn.lt (Nat.succ_pos _)
              have c_s0 := ys.cell 0 _ rfl
              have m_s0 := ys.mark 0 _ rfl
              have l_s := ys.lt (Nat.succ_pos _)
              have hsz2 : w.heap.size < w2.heap.size := l_e
              cases ob
              all_goals
                go_wp2_with fail
                refine name_world (fun W3 hW3 => ?_)
                have zn : boxAt W3 pn [.int .i64 ((n0 : Int) + 1)] := by rw [hW3]; first | exact yn | exact yn.far _ _ (Ne.symm HNE.out)
                obtain ⟨s1, hs1, zs⟩ : ∃ s1 : Nat, s1 ≤ n0 + 1 ∧ boxAt W3 ps [.int .i64 (s1 : Int)] := by
                  rw [hW3]
                  first
                  | exact ⟨s0, by omega, ys⟩
                  | exact ⟨s0 + 1, by omega, ys.put 0 (.int .i64 ((s0 : Int) + 1)) (by simp)⟩
                have hg3 : Gr w0 W3 := by rw [hW3]; first | exact hgW | exact Below.setCell hgW HPS.out _
                clear c_e0 c_e1 c_e2 c_e3 c_e4 c_e5 c_e6 c_e7 c_e8 c_e9 m_e0 m_e1 m_e2 m_e3 m_e4 m_e5 m_e6 m_e7 m_e8 m_e9 l_e
                clear c_n0 m_n0 l_n
                clear c_s0 m_s0 l_s
                clear hW3 yn ys ye hgW hob
                go_loopw [45] (fun i wr => ∃ j m s2 : Nat, j ≤ l.length ∧ i = .int .i64 (j : Int) ∧ Gr w0 wr ∧ boxAt wr pn [.int .i64 (m : Int)] ∧ boxAt wr ps [.int .i64 (s2 : Int)] ∧ s2 ≤ m ∧ m ≤ 65536 ∧ Hid (partsL (l.map (·.1)) (d + 1) (n0 + 1) = partsL ((l.drop j).map (·.1)) (d + 1) m)) (fun i _ => l.length - (intOf i).toNat)
                case atStart => exact ⟨0, n0 + 1, s1, by omega, rfl, hg3, zn, zs, hs1, by have := HN.out; omega, Lib.hid rfl⟩
                case round =>
                  obtain ⟨j, m, s2, hj, rfl, hg, yn, ys, hs2, hm, HR⟩ := hrel
                  clear zn zs hg3
                  by_cases hlt : j < l.length
                  · obtain ⟨b, off, op2, pos2, t2, text2, mn2, mx2, p2, n2, c2, a, rfl, hbW, ha, hin, hat⟩ := args_at HS.out HLEN.out HA.out j hlt
                    have HSA := Lib.hid (HK.out _ (List.mem_of_getElem? ha))
                    have HIN := Lib.hid hin
                    obtain ⟨hbr, hcell⟩ := hat wr hg
                    unfold exCells at hcell
                    have d0 := hcell 0 _ (by omega) rfl
                    have d1 := hcell 1 _ (by omega) rfl
                    have d2 := hcell 2 _ (by omega) rfl
                    have d3 := hcell 3 _ (by omega) rfl
                    have d4 := hcell 4 _ (by omega) rfl
                    have d5 := hcell 5 _ (by omega) rfl
                    have d6 := hcell 6 _ (by omega) rfl
                    have d7 := hcell 7 _ (by omega) rfl
                    have d8 := hcell 8 _ (by omega) rfl
                    have d9 := hcell 9 _ (by omega) rfl
                    simp only [Nat.add_zero] at d0
                    have HDR := Lib.hid (drop_cons_of ha)
                    have hjI : (j : Int) < (l.length : Int) := by omega
                    have HLT := Lib.hid hlt
                    have HM := Lib.hid hm
                    have HS2 := Lib.hid hs2
                    clear hlt hcell hin hat ha hj hm hs2 hbW
                    go_wp2_with fail
                    go_at_call 34
                    refine name_calls (fun W4 hW4 => ?_)
                    have hb4 : Gr wr W4 := by rw [hW4]; exact Gr.alloc _ _
                    clear hW4
                    replace yn := yn.later hb4
                    replace ys := ys.later hb4
                    have hg4 := hg.trans hb4
                    have hd1 : ((d + 1 : Nat) : Int) = (d : Int) + 1 := by omega
                    have HC := Lib.hid (HIH.out a HSA.out _ w0 W4 (d + 1) m s2 pn ps HIN.out hg4 HPN.out HPS.out HNE.out yn ys (by have := HD.out; omega) HM.out HS2.out)
                    unfold exCells at HC
                    rw [hd1] at HC
                    clear hd1 hb4
                    refine HC.out.mono ?_; rintro e' w5 ⟨rfl, hg5, hk5⟩
                    have HK5 := Lib.hid hk5
                    clear hk5 yn ys hg4 hg
                    obtain ⟨q, hq⟩ : ∃ q, partsE a (d + 1) m = q := ⟨_, rfl⟩
                    have HQ := Lib.hid hq
                    rw [hq]
                    clear hq
                    cases q with
                    | none =>
                      go_wp2_with fail
                      go_ret
                      have hz : partsE (.mk op pos s text mn mx (l.map (·.1))) d n0 = none := by
                        rw [HP.out, HR.out, HDR.out, List.map_cons, partsL, HQ.out]
                      exact ⟨ret_bool (by rw [hz]; rfl), hg5, fun n1 h => by rw [hz] at h; cases h⟩
                    | some q =>
                      obtain ⟨s3, hs3, zn, zs⟩ := HK5.out q HQ.out
                      have hqb := parts_bound k a HSA.out _ _ _ HQ.out
                      go_wp2_with fail
                      go_roundw
                      case rel => exact ⟨j + 1, q, s3, by have := HLT.out; omega, by go_num, hg5, zn, zs, hs3, hqb.2, Lib.hid (by rw [HR.out, HDR.out, List.map_cons, partsL, HQ.out])⟩
                      case measure => have := HLT.out; simp [intOf]; omega
                  · have hjE : j = l.length := by omega
                    clear hlt hj
                    subst hjE
                    go_wp2_with fail
                    go_ret
                    have hz : partsE (.mk op pos s text mn mx (l.map (·.1))) d n0 = some m := by
                      rw [HP.out, HR.out, List.drop_length, List.map_nil, partsL]
                    exact ⟨ret_bool (by rw [hz]; rfl), hg, fun n1 h => by rw [hz] at h; injection h with h; subst h; exact ⟨s2, hs2, yn, ys⟩⟩

end Go.Proofs.YtpcmgkohebihmaaDoor
