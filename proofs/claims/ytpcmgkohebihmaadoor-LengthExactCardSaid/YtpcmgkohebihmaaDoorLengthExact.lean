/- LengthExact of bolterlaw8: it answers true. No condition but that the errors' variables hold the errors. -/
import Derived.Test.YtpcmgkohebihmaaDoorOfT
import Derived.Test.YtpcmgkohebihmaaDoorCopyE
import Derived.Test.YtpcmgkohebihmaaDoorEqE
import Derived.Test.YtpcmgkohebihmaaDoorSame
import Derived.Test.YtpcmgkohebihmaaDoorWakesL
import Derived.Test.YtpcmgkohebihmaaDoorSize
namespace Go.Proofs.YtpcmgkohebihmaaDoor
open Go Go.RowKit

theorem eqE_refl : ∀ e, eqE e e = true := by
  refine Ex.all fun op pos s text mn mx args ih => ?_
  have key : ∀ r : List Ex, (∀ a ∈ r, a ∈ args) → eqEL r r = true := by
    intro r
    induction r with
    | nil => intro _; rw [eqEL]
    | cons a r ihr =>
      intro hr
      rw [eqEL, ih a (hr a (by simp)), ihr fun b hb => hr b (by simp [hb])]; rfl
  rw [eqE, key args fun a h => h]
  simp

/-- Both answers, and that they are the same. -/
theorem both (a : Ex) (w : World) (s : Nat → Addr) (hF : FaultsIn w s) : ∃ (z : Le) (er : Value) (cc : Int),
    (∀ cs cur, Gr w cur → ExIn cur a cs → Calls Tryd.prog 9 #[.agg cs.toArray] cur fun e' w' => e' = .returned (.tuple #[.agg #[.bool z.none, .int .i64 z.least, .int .i64 z.most], er]) ∧ Gr cur w') ∧
    (∀ cs cur, ExIn cur a cs → Calls Tryd.prog 12 #[.agg cs.toArray] cur fun e' w' => e' = .returned (.tuple #[.agg #[.bool z.none, .int .i64 z.least, .int .i64 z.most], .agg #[.int .i64 cc, .int .i64 0, .int .i64 0, .int .i64 0, .slice none 0 0]]) ∧ Gr cur w') ∧
    (∀ cur, Gr w cur → Calls Tryd.prog 13 #[er, .agg #[.int .i64 cc, .int .i64 0, .int .i64 0, .int .i64 0, .slice none 0 0]] cur fun e' w' => e' = .returned (.bool true) ∧ Gr cur w') := by
  cases hb : isCore a
  · refine ⟨.zero, .iface 151 (.pointer (some (s 15))), 15, fun cs cur hg he => ?_, fun cs cur he => ?_, fun cur hg => ?_⟩
    · have h := lenOf_any a cs cur he _ ((hF.later hg).errs 15 (by omega) (by omega))
      rw [hb] at h; exact h
    · have h := ofT_any a cs cur he
      rw [hb] at h; exact h
    · have h := same_er (hF.later hg) (.leaf (s 15)) ((hF.later hg).leaf 15 (by omega) (by omega)) trivial 15 (by omega) (by omega) rfl rfl ⟨15, 0, 0, 0⟩
      exact h
  · refine ⟨ofE a, .nilIface, 0, fun cs cur hg he => ?_, fun cs cur he => ?_, fun cur hg => ?_⟩
    · have h := lenOf_any a cs cur he _ ((hF.later hg).errs 15 (by omega) (by omega))
      rw [hb] at h; exact h
    · have h := ofT_any a cs cur he
      rw [hb] at h; exact h
    · exact same_nil ⟨0, 0, 0, 0⟩ cur

set_option maxRecDepth 100000 in
set_option maxHeartbeats 8000000 in
theorem lengthExact_any (l : List (Ex × List Value)) (v : Value) (w : World) (hs : Sl w v 10 l.length (l.flatMap (·.2))) (hlen : ∀ p ∈ l, p.2.length = 10) (hl : ∀ p ∈ l, ExIn w p.1 p.2) (s : Nat → Addr) (hF : FaultsIn w s) (hb : l.length ≤ 140737488351232) :
    Calls Tryd.prog 4 #[v] w fun e w' => e = .returned (.bool true) ∧ Gr w w' := by
  obtain ⟨pv, cv, rfl⟩ := hs.len
  have HS := Lib.hid hs
  have HA := Lib.hid hl
  have HLEN := Lib.hid hlen
  have HF := Lib.hid hF
  have HWK := Lib.hid (fun (cur : World) (h : Gr w cur) => wakes_any cur _ _ ((hF.later h).errs 15 (by omega) (by omega)) ((hF.later h).errs 10 (by omega) (by omega)))
  clear hs hlen hl hF
  go_enter Tryd.func4, Tryd.ntmps4
  go_wp2_with fail
  go_loopw [3] (fun i wr => ∃ j : Nat, j ≤ l.length ∧ i = .int .i64 (j : Int) ∧ Gr w wr) (fun i _ => l.length - (intOf i).toNat)
  case atStart => exact ⟨0, by omega, rfl, Gr.refl _⟩
  case round =>
    obtain ⟨j, hj, rfl, hg⟩ := hrel
    by_cases hlt : j < l.length
    · by_cases hfew : j < 20
      · obtain ⟨b, off, op, pos, s1, text, mn, mx, p, n, c, a, rfl, hbW, ha, hin, hat⟩ := args_at HS.out HLEN.out HA.out j hlt
        have HAT := Lib.hid hat
        have HIN := Lib.hid hin
        obtain ⟨hbr, hcell⟩ := hat wr hg
        unfold exCells at hcell
        have d0 := hcell 0 _ (by omega) rfl
        have d1 := hcell 1 _ (by omega) rfl
        have d2 := hcell 2 _ (by omega) rfl
        have d3 := hcell 3 _ (by omega) rfl
        have d4 := hcell 4 _ (by omega) rfl
        have d5 := hcell 5 _ (by omega) rfl
        have d6 := hcell 6 _ (by omega) rfl
        have d7 := hcell 7 _ (by omega) rfl
        have d8 := hcell 8 _ (by omega) rfl
        have d9 := hcell 9 _ (by omega) rfl
        simp only [Nat.add_zero] at d0
        have hjI : (j : Int) < (l.length : Int) := by omega
        have hjF : (j : Int) < 20 := by omega
        have HLT := Lib.hid hlt
        have HSZ := Lib.hid (size_any _ a (Nat.le_refl _) _ wr 0 (hin.later hg) (by omega))
        have HSB := Lib.hid (size_bound _ a (Nat.le_refl _) 0 (by omega))
        unfold exCells at HSZ
        clear hcell hin hat ha hlt hfew hj hbW
        go_wp2_with fail
        go_at_call 7
        refine (show Calls Tryd.prog 7 #[.agg #[.int .i64 op, .int .i64 pos, .int .u64 (wd s1 0), .int .u64 (wd s1 1), .int .u64 (wd s1 2), .int .u64 (wd s1 3), .string text, .int .i64 mn, .int .i64 mx, (.slice p n c)], .int .i64 0] wr _ from HSZ.out).mono ?_; rintro e' w1 ⟨rfl, hb1⟩
        obtain ⟨q, hq⟩ : ∃ q, sizeE a 0 = q := ⟨_, rfl⟩
        rw [hq] at HSB ⊢
        have hqb : q ≤ 5245501440 := by have := HSB.out; omega
        clear hq d0 d1 d2 d3 d4 d5 d6 d7 d8 d9 hbr
        replace hg := hg.trans hb1
        clear hb1 HSZ
        by_cases hbig : (20000 : Int) < (q : Int)
        · go_wp2_with fail
          go_roundw
          case rel => exact ⟨j + 1, by have := HLT.out; omega, by go_num, hg⟩
          case measure => have := HLT.out; simp [intOf]; omega
        · obtain ⟨hbr, hcell⟩ := HAT.out w1 hg
          unfold exCells at hcell
          have d0 := hcell 0 _ (by omega) rfl
          have d1 := hcell 1 _ (by omega) rfl
          have d2 := hcell 2 _ (by omega) rfl
          have d3 := hcell 3 _ (by omega) rfl
          have d4 := hcell 4 _ (by omega) rfl
          have d5 := hcell 5 _ (by omega) rfl
          have d6 := hcell 6 _ (by omega) rfl
          have d7 := hcell 7 _ (by omega) rfl
          have d8 := hcell 8 _ (by omega) rfl
          have d9 := hcell 9 _ (by omega) rfl
          simp only [Nat.add_zero] at d0
          clear hcell
          go_wp2_with fail
          go_at_call 11
          refine (copyExpr_any _ a (Nat.le_refl _) _ w1 (HIN.out.later hg)).mono ?_; rintro e' w2 ⟨ds, rfl, ho, hb1⟩
          obtain ⟨op3, pos3, s3, text3, mn3, mx3, p3, n3, c3, rfl⟩ := ho.form
          have HO := Lib.hid ho.exIn
          clear ho d0 d1 d2 d3 d4 d5 d6 d7 d8 d9 hbr
          replace hg := hg.trans hb1
          clear hb1
          unfold exCells
          go_wp2_with fail
          go_at_call 9
          refine name_calls (fun W hW => ?_)
          have x4 : boxAt W w2.heap.size [.int .i64 op3, .int .i64 pos3, .int .u64 (wd s3 0), .int .u64 (wd s3 1), .int .u64 (wd s3 2), .int .u64 (wd s3 3), .string text3, .int .i64 mn3, .int .i64 mx3, (.slice p3 n3 c3)] := boxAt.new _ _ hW
          have hb1 : Gr w2 W := by rw [hW]; exact Gr.alloc _ _
          clear hW
          have HO2 := Lib.hid (HO.out.later hb1)
          replace hg := hg.trans hb1
          clear hb1
          have hbo := both a w s HF.out
          obtain ⟨z, er, cc, hb1, hb2, hb3⟩ := hbo
          have HB2 := Lib.hid hb2
          have HB3 := Lib.hid hb3
          have HEQ := Lib.hid (fun (cur : World) (h : Gr W cur) => (eqExpr_any _ a (Nat.le_refl _) a _ _ cur (HO2.out.later h) (HIN.out.later (hg.trans h))))
          rw [eqE_refl] at HEQ
          unfold exCells at HEQ
          have hc := hb1 _ W hg HO2.out
          unfold exCells at hc
          clear hb1 hb2 hb3
          refine hc.mono ?_; clear hc; rintro e' w3 ⟨rfl, hb1⟩
          replace x4 := x4.later hb1
          have hg3 := hg.trans hb1
          have HG3 := Lib.hid hb1
          clear hb1
          obtain ⟨hbr, hcell⟩ := HAT.out w3 hg3
          unfold exCells at hcell
          have d0 := hcell 0 _ (by omega) rfl
          have d1 := hcell 1 _ (by omega) rfl
          have d2 := hcell 2 _ (by omega) rfl
          have d3 := hcell 3 _ (by omega) rfl
          have d4 := hcell 4 _ (by omega) rfl
          have d5 := hcell 5 _ (by omega) rfl
          have d6 := hcell 6 _ (by omega) rfl
          have d7 := hcell 7 _ (by omega) rfl
          have d8 := hcell 8 _ (by omega) rfl
          have d9 := hcell 9 _ (by omega) rfl
          simp only [Nat.add_zero] at d0
          clear hcell
          go_wp2_with fail
          go_at_call 12
          refine name_calls (fun W5 hW => ?_)
          have x5 : boxAt W5 w3.heap.size [.bool z.none, .int .i64 z.least, .int .i64 z.most] := boxAt.new _ _ hW
          have hb1 : Gr w3 W5 := by rw [hW]; exact Gr.alloc _ _
          clear hW d0 d1 d2 d3 d4 d5 d6 d7 d8 d9 hbr
          replace x4 := x4.later hb1
          replace hg3 := hg3.trans hb1
          replace HG3 := Lib.hid (HG3.out.trans hb1)
          clear hb1
          have hc := HB2.out _ W5 (HIN.out.later hg3)
          unfold exCells at hc
          refine hc.mono ?_; clear hc; rintro e' w6 ⟨rfl, hb1⟩
          replace x4 := x4.later hb1
          replace x5 := x5.later hb1
          replace hg3 := hg3.trans hb1
          replace HG3 := Lib.hid (HG3.out.trans hb1)
          clear hb1
          go_wp2_with fail
          refine name_world (fun W7 hW => ?_)
          obtain ⟨x7, x8, hb1⟩ : boxAt W7 w6.heap.size [.bool z.none, .int .i64 z.least, .int .i64 z.most] ∧ boxAt W7 (w6.heap.size + 1) [.int .i64 cc, .int .i64 0, .int .i64 0, .int .i64 0, .slice none 0 0] ∧ Gr w6 W7 := by
            have h := bx2 w6 [.bool z.none, .int .i64 z.least, .int .i64 z.most] [.int .i64 cc, .int .i64 0, .int .i64 0, .int .i64 0, .slice none 0 0] 33 43
            rw [hW]; exact ⟨h.1, h.2.1, h.2.2.1⟩
          clear hW
          replace x4 := x4.later hb1
          replace x5 := x5.later hb1
          replace hg3 := hg3.trans hb1
          replace HG3 := Lib.hid (HG3.out.trans hb1)
          clear hb1
          obtain ⟨hbr, hcell⟩ := HAT.out W7 hg3
          unfold exCells at hcell
          have d0 := hcell 0 _ (by omega) rfl
          have d1 := hcell 1 _ (by omega) rfl
          have d2 := hcell 2 _ (by omega) rfl
          have d3 := hcell 3 _ (by omega) rfl
          have d4 := hcell 4 _ (by omega) rfl
          have d5 := hcell 5 _ (by omega) rfl
          have d6 := hcell 6 _ (by omega) rfl
          have d7 := hcell 7 _ (by omega) rfl
          have d8 := hcell 8 _ (by omega) rfl
          have d9 := hcell 9 _ (by omega) rfl
          simp only [Nat.add_zero] at d0
          clear hcell
          have c_a0 := x4.cell 0 _ rfl
          have c_a1 := x4.cell 1 _ rfl
          have c_a2 := x4.cell 2 _ rfl
          have c_a3 := x4.cell 3 _ rfl
          have c_a4 := x4.cell 4 _ rfl
          have c_a5 := x4.cell 5 _ rfl
          have c_a6 := x4.cell 6 _ rfl
          have c_a7 := x4.cell 7 _ rfl
          have c_a8 := x4.cell 8 _ rfl
          have c_a9 := x4.cell 9 _ rfl
          have m_a0 := x4.mark 0 _ rfl
          have m_a1 := x4.mark 1 _ rfl
          have m_a2 := x4.mark 2 _ rfl
          have m_a3 := x4.mark 3 _ rfl
          have m_a4 := x4.mark 4 _ rfl
          have m_a5 := x4.mark 5 _ rfl
          have m_a6 := x4.mark 6 _ rfl
          have m_a7 := x4.mark 7 _ rfl
          have m_a8 := x4.mark 8 _ rfl
          have m_a9 := x4.mark 9 _ rfl
          have l_a := x4.lt (Nat.succ_pos _)
          have c_b0 := x5.cell 0 _ rfl
          have c_b1 := x5.cell 1 _ rfl
          have c_b2 := x5.cell 2 _ rfl
          have m_b0 := x5.mark 0 _ rfl
          have m_b1 := x5.mark 1 _ rfl
          have m_b2 := x5.mark 2 _ rfl
          have l_b := x5.lt (Nat.succ_pos _)
          have c_c0 := x7.cell 0 _ rfl
          have c_c1 := x7.cell 1 _ rfl
          have c_c2 := x7.cell 2 _ rfl
          have m_c0 := x7.mark 0 _ rfl
          have m_c1 := x7.mark 1 _ rfl
          have m_c2 := x7.mark 2 _ rfl
          have l_c := x7.lt (Nat.succ_pos _)
          have c_d0 := x8.cell 0 _ rfl
          have c_d1 := x8.cell 1 _ rfl
          have c_d2 := x8.cell 2 _ rfl
          have c_d3 := x8.cell 3 _ rfl
          have c_d4 := x8.cell 4 _ rfl
          have m_d0 := x8.mark 0 _ rfl
          have m_d1 := x8.mark 1 _ rfl
          have m_d2 := x8.mark 2 _ rfl
          have m_d3 := x8.mark 3 _ rfl
          have m_d4 := x8.mark 4 _ rfl
          have l_d := x8.lt (Nat.succ_pos _)
          refine wp_region_G (.take 0 (.take 1 (.take 2 (.take 3 (.take 4 (.take 5 (.run 6 false (.take 7 (.take 8 (.take 9 (.take 10 (.take 11 (.take 12 (.take 13 (.take 14 (.run 15 false (.take 16 (.take 17 .nil)))))))))))))))))) (by kernel_rfl) (by kernel_rfl) ?_
          simp only [pickOps, nthOp]
          intro wq hG
          repeat (first | (refine wpG_skip_take ?_ ?_; (focus rfl); try simp only [Act.put, List.setIfInBounds_toArray, List.set_cons_zero, List.set_cons_succ]) | (refine wpG_skip_run ?_ ?_; (focus rfl); try simp only [Act.put, List.setIfInBounds_toArray, List.set_cons_zero, List.set_cons_succ]) | (refine wpG_take ?_ ?_; (focus rfl); apply Exists.intro; refine ⟨fun w' hw' => ?_, ?_⟩; (focus (have hc := Gr.cells hw'; go_simp; (try rfl); done)); try simp only [Act.put, List.setIfInBounds_toArray, List.set_cons_zero, List.set_cons_succ]) | (refine wpG_run ?_ (fun K hK => ?_); (focus rfl); go_simp; (first | (go_at_call 13; (with_reducible refine (HB3.out _ (hg3.trans hG)).mono ?_); rintro e' w9 ⟨rfl, hb⟩) | (go_at_call 14; (with_reducible refine (HEQ.out _ (HG3.out.trans hG)).mono ?_); rintro e' w9 ⟨rfl, hb⟩)); (try dsimp only); replace hG := hG.trans hb; refine hK.out _ _ hG ?_; clear hK K hb; try simp only [Act.put, List.setIfInBounds_toArray, List.set_cons_zero, List.set_cons_succ]))
          refine wpG_done ?_
          clear d0 d1 d2 d3 d4 d5 d6 d7 d8 d9 hbr
          clear c_a0 c_a1 c_a2 c_a3 c_a4 c_a5 c_a6 c_a7 c_a8 c_a9 m_a0 m_a1 m_a2 m_a3 m_a4 m_a5 m_a6 m_a7 m_a8 m_a9 l_a
          clear c_b0 c_b1 c_b2 m_b0 m_b1 m_b2 l_b
          clear c_c0 c_c1 c_c2 m_c0 m_c1 m_c2 l_c
          clear c_d0 c_d1 c_d2 c_d3 c_d4 m_d0 m_d1 m_d2 m_d3 m_d4 l_d
          go_wp2_with fail
          go_roundw
          case rel => exact ⟨j + 1, by have := HLT.out; omega, by go_num, hg3.trans hG⟩
          case measure => have := HLT.out; simp [intOf]; omega
      · have hjI : (j : Int) < (l.length : Int) := by omega
        have hjF : ¬ (j : Int) < 20 := by omega
        clear hlt hfew hj
        go_wp2_with fail
        go_at_call 8
        refine (HWK.out _ hg).mono ?_; rintro e' w1 ⟨rfl, hb1⟩
        go_wp2_with fail
        go_ret
        exact ⟨rfl, hg.trans hb1⟩
    · have hjE : j = l.length := by omega
      clear hlt hj
      subst hjE
      go_wp2_with fail
      go_at_call 8
      refine (HWK.out _ hg).mono ?_; rintro e' w1 ⟨rfl, hb1⟩
      go_wp2_with fail
      go_ret
      exact ⟨rfl, hg.trans hb1⟩

end Go.Proofs.YtpcmgkohebihmaaDoor
