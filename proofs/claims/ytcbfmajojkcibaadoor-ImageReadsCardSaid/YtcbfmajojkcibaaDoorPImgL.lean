/- image: the reader's rules. No condition but that the reader lies elsewhere than its bytes. -/
import Derived.Test.YtcbfmajojkcibaaDoorPImgK
namespace Go.Proofs.YtcbfmajojkcibaaDoor
open Go Go.RowKit

/-- How the reader's rules end. -/
def RulEnd (w : World) (B rb tb : Nat) (pb : Option Addr) (c : Nat) (bs : List UInt8) (k : Nat) (X : List Nat) (mo : List (List UInt8)) (sta : List Int) (e : Ending) (w' : World) : Prop := KpQ B rb X tb w w' ∧ match listR 200 (ruleR 2 3) (bs.drop k) with
  | some (rs, r) => e = .returned (.tuple #[]) ∧ ∃ v k', Rst w' B rb tb pb c bs k' X ⟨mo, rs.map (·.1), rs.map (·.2.1), rs.map (·.2.2), [], 0, sta, [], [], [], [], []⟩ v [] ∧ bs.drop k' = r
  | none => e = .panicked [{ v := refusalV, recovered := false }]

set_option maxRecDepth 100000 in
set_option maxHeartbeats 8000000 in
theorem rules_any (w : World) (B rb tb : Nat) (pb : Option Addr) (c : Nat) (bs : List UInt8) (k : Nat) (X : List Nat) (mo : List (List UInt8)) (sta : List Int) (v : TbV)
    (h : Rst w B rb tb pb c bs k X ⟨mo, [], [], [], [], 0, sta, [], [], [], [], []⟩ v []) :
    Calls Tryd.prog 67 #[.pointer (some ⟨rb, 0, none⟩), .pointer (some ⟨tb, 0, none⟩)] w (RulEnd w B rb tb pb c bs k X mo sta) := by
  have H := Lib.hid h
  have HXO := Lib.hid h.rb_out
  obtain ⟨R, hR⟩ : ∃ R, listR 200 (ruleR 2 3) (bs.drop k) = R := ⟨_, rfl⟩
  have HR := Lib.hid hR
  clear h hR
  have NONE := Lib.hid (fun (hn : R = none) (w' : World) (hk : KpQ B rb X tb w w') => (show RulEnd w B rb tb pb c bs k X mo sta (.panicked [{ v := refusalV, recovered := false }]) w' from ⟨hk, by rw [HR.out, hn]⟩))
  obtain ⟨iS, hiS, hiS0, hiS1, hiS2⟩ := info_parts info_string
  obtain ⟨iC, hiC, hiC0, hiC1, hiC2⟩ := info_parts info_cut
  obtain ⟨iT, hiT, hiT0, hiT1, hiT2⟩ := info_parts info_step
  obtain ⟨iA, hiA, hiA0, hiA1, hiA2⟩ := info_parts info_steps
  go_enter Tryd.func67, Tryd.ntmps67
  go_wp2_with fail
  go_at_call 65
  cases hn1 : numR 200 (bs.drop k) with
  | none =>
    have hR0 : R = none := by rw [← HR.out]; exact list_none hn1
    (with_reducible refine (num_none w rb pb c bs k 200 200 rfl H.out.rd (by omega) hn1).mono ?_); rintro e w9 ⟨rfl, hk9⟩
    have Z := Lib.hid (NONE.out hR0 w9 (KpQ.of_p hk9 HXO.out))
    unfold refusalV at Z ⊢
    clear hR0 hn1
    go_wp2_with fail
    exact ⟨rfl, Z.out⟩
  | some y =>
    obtain ⟨n, l1⟩ := y
    (with_reducible refine (num_some w rb pb c bs k 200 200 rfl n l1 H.out.rd (by omega) hn1).mono ?_); rintro e w1 ⟨rfl, hk1, k1, hr1, hd1⟩
    have hS1 := H.out.num hk1 hr1
    have hQ1 : KpQ B rb X tb w w1 := KpQ.of_p hk1 HXO.out
    have hn200 := num_le hn1
    have HL1 := Lib.hid (list_some (f := ruleR 2 3) hn1)
    clear hr1 hn1 hk1
    go_wp2_with fail
    go_loopw [9] (fun i wr => ∃ (j : Nat) (done : List (List UInt8 × ((Int × Int) × List (Int × Int)))) (v : TbV) (q : Nat), i = .int .i64 (j : Int) ∧ j ≤ n ∧ done.length = j ∧ Rst wr B rb tb pb c bs q X ⟨mo, done.map (·.1), done.map (·.2.1), done.map (·.2.2), [], 0, sta, [], [], [], [], []⟩ v [] ∧ KpQ B rb X tb w wr ∧ Hid (listR 200 (ruleR 2 3) (bs.drop k) = appD done (manyR (ruleR 2 3) (n - j) (bs.drop q)))) (fun i _ => n - (intOf i).toNat)
    case atStart => exact ⟨0, [], _, k1, rfl, Nat.zero_le _, rfl, hS1, hQ1, Lib.hid (by rw [HL1.out, appD_nil, hd1]; rfl)⟩
    case round =>
      obtain ⟨j, done, v, q, rfl, hj, hdl, hS, hQ, HM⟩ := hrel
      obtain ⟨vm, vl, vc, va, vrows, vcl, vst, vlb, vba, vdf, vne, vch⟩ := v
      have HDL := Lib.hid hdl
      clear hdl
      by_cases hjn : j < n
      · have hjI : (j : Int) < (n : Int) := by omega
        have xb := hS.box
        unfold tbC at xb
        dsimp only at xb
        have FAILR := Lib.hid (fun (hf : ruleR 2 3 (bs.drop q) = none) => (show R = none by rw [← HR.out, HM.out]; exact many_none hf _ (by omega) _))
        cases hs : txR (bs.drop q) with
        | none =>
          have hR0 : R = none := FAILR.out (seq_none1 hs)
          have Z := Lib.hid (NONE.out hR0)
          have HS := Lib.hid hS
          have HTX := Lib.hid hs
          clear hS hR0 hs
          go_wp2_with fail
          refine wp_region_T (fun cc w' => RulEnd w B rb tb pb c bs k X mo sta (.panicked cc) w') (fun w' => boxAt w' tb [vm, vl, vc, va, vcl, .int .i64 0, vst, vlb, vba, vdf, vne, vch]) (.take 0 (.take 1 (.take 2 (.take 3 (.take 4 (.take 5 (.run 6 false (.run 7 false (.run 8 false (.take 9 (.take 10 (.run 11 true .nil)))))))))))) (fun cc a w' h1 h2 => ⟨h1, h2⟩) (xb.later (Gr.drew _)) (by kernel_rfl) (by kernel_rfl) ?_
          simp only [pickOps, nthOp]
          intro wq hG hSq
          repeat (first | (refine wpP_skip_take ?_ ?_; (focus rfl); try simp only [Act.put, List.setIfInBounds_toArray, List.set_cons_zero, List.set_cons_succ]) | (refine wpP_skip_run ?_ ?_; (focus rfl); try simp only [Act.put, List.setIfInBounds_toArray, List.set_cons_zero, List.set_cons_succ]) | (refine wpP_take ?_ ?_; (focus rfl); apply Exists.intro; refine ⟨fun w' hw' => ?_, ?_⟩; (focus (have z0 := hw'.cell 1 _ rfl; go_simp; (try rfl); done)); try simp only [Act.put, List.setIfInBounds_toArray, List.set_cons_zero, List.set_cons_succ]))
          refine wpP_run ?_ (fun K hK => ?_); (focus rfl)
          go_simp
          go_at_call 66
          (with_reducible refine (text_none wq rb pb c bs q (HS.out.rd.later hG) HTX.out).mono ?_); rintro e w2 ⟨rfl, hk2⟩
          exact ⟨rfl, Z.out w2 (hQ.trans ((KpQ.gr hG).trans (KpQ.of_p hk2 HS.out.rb_out)))⟩
        | some y =>
          obtain ⟨s, l2⟩ := y
          have hsl := tx_len hs
          have HTX := Lib.hid hs
          obtain ⟨pl, cl_, rfl⟩ : ∃ p c, vl = .slice p done.length c := by
            obtain ⟨p, c, hv⟩ := (Sl.of_owns (hS.row_own (i := 1) rfl)).len
            exact ⟨p, c, by rw [← List.length_map (fun x : List UInt8 × ((Int × Int) × List (Int × Int)) => x.1)]; exact hv⟩
          have HS := Lib.hid hS
          clear hS hs
          go_wp2_with fail
          refine wp_region_T (fun _ _ => False) (fun w' => boxAt w' tb [vm, .slice pl done.length cl_, vc, va, vcl, .int .i64 0, vst, vlb, vba, vdf, vne, vch]) (.take 0 (.take 1 (.take 2 (.take 3 (.take 4 (.take 5 (.run 6 false (.run 7 false (.run 8 false (.take 9 (.take 10 (.run 11 true .nil)))))))))))) (fun _ _ _ _ h => h.elim) (xb.later (Gr.drew _)) (by kernel_rfl) (by kernel_rfl) ?_
          simp only [pickOps, nthOp]
          intro wq hG hSq
          have hS := HS.out.later hG
          have hQ2 := hQ.trans (KpQ.gr hG)
          clear hG hSq
          repeat (first | (refine wpP_skip_take ?_ ?_; (focus rfl); try simp only [Act.put, List.setIfInBounds_toArray, List.set_cons_zero, List.set_cons_succ]) | (refine wpP_skip_run ?_ ?_; (focus rfl); try simp only [Act.put, List.setIfInBounds_toArray, List.set_cons_zero, List.set_cons_succ]) | (refine wpP_take ?_ ?_; (focus rfl); apply Exists.intro; refine ⟨fun w' hw' => ?_, ?_⟩; (focus (have z0 := hw'.cell 1 _ rfl; go_simp; (try rfl); done)); try simp only [Act.put, List.setIfInBounds_toArray, List.set_cons_zero, List.set_cons_succ]))
          refine wpP_run ?_ (fun K hK => ?_); (focus rfl)
          go_simp
          go_at_call 66
          (with_reducible refine (text_some wq rb pb c bs q s l2 hS.rd HTX.out).mono ?_); rintro e w2 ⟨rfl, hk2, q2a, hr2, hd2a⟩
          try dsimp only
          replace hS := hS.num hk2 hr2
          replace hQ2 := hQ2.trans (KpQ.of_p hk2 hS.rb_out)
          refine hK.out _ _ hS.box ?_
          clear hK K hk2 hr2
          try simp only [Act.put, List.setIfInBounds_toArray, List.set_cons_zero, List.set_cons_succ]
          repeat (first | (refine wpP_skip_take ?_ ?_; (focus rfl); try simp only [Act.put, List.setIfInBounds_toArray, List.set_cons_zero, List.set_cons_succ]) | (refine wpP_skip_run ?_ ?_; (focus rfl); try simp only [Act.put, List.setIfInBounds_toArray, List.set_cons_zero, List.set_cons_succ]) | (refine wpP_take ?_ ?_; (focus rfl); apply Exists.intro; refine ⟨fun w' hw' => ?_, ?_⟩; (focus (have z0 := hw'.cell 1 _ rfl; go_simp; (try rfl); done)); try simp only [Act.put, List.setIfInBounds_toArray, List.set_cons_zero, List.set_cons_succ]))
          refine wpP_run ?_ (fun K hK => ?_); (focus rfl)
          go_simp
          refine name_K (fun w3 hW => ?_)
          have hg3 : Gr w2 w3 := by rw [hW]; exact Gr.alloc _ _
          have hnc : ∀ (j : Nat) (u : Value), [Value.string (st s)][j]? = some u → w3.cell? ((⟨w2.heap.size, 0, none⟩ : Addr).add j) = some u := by rw [hW]; exact new_cells w2 [Value.string (st s)] _
          replace hS := hS.later hg3
          replace hQ2 := hQ2.trans (KpQ.gr hg3)
          refine hK.out _ _ hS.box ?_
          clear hK K hg3 hW
          try simp only [Act.put, List.setIfInBounds_toArray, List.set_cons_zero, List.set_cons_succ]
          repeat (first | (refine wpP_skip_take ?_ ?_; (focus rfl); try simp only [Act.put, List.setIfInBounds_toArray, List.set_cons_zero, List.set_cons_succ]) | (refine wpP_skip_run ?_ ?_; (focus rfl); try simp only [Act.put, List.setIfInBounds_toArray, List.set_cons_zero, List.set_cons_succ]) | (refine wpP_take ?_ ?_; (focus rfl); apply Exists.intro; refine ⟨fun w' hw' => ?_, ?_⟩; (focus (have z0 := hw'.cell 1 _ rfl; go_simp; (try rfl); done)); try simp only [Act.put, List.setIfInBounds_toArray, List.set_cons_zero, List.set_cons_succ]))
          refine wpP_run ?_ (fun K hK => ?_); (focus rfl)
          refine wp_append_at w3 (.tmp 15) (.tmp 18) 26 rfl B 9 iS (.string { data := #[] }) 1 16 Tryd.underlying26 hiS hiS0 hiS1 hiS2 rfl (by decide) _ _ _ rfl (hS.row_own (i := 1) rfl) ⟨w2.heap.size, 0, none⟩ 1 1 [Value.string (st s)] rfl rfl hnc (fun u hu => by simp at hu; (first | (subst hu; rfl) | (rcases hu with rfl | rfl <;> rfl))) ?c3 ?c4 ?c5 ?_
          case c3 => have := HDL.out; simp; unfold maxLen; omega
          case c4 => have := HDL.out; simp; omega
          case c5 => exact hS.base
          intro v' w4 ho hg hat
          have xb4 := hS.box.grown hg (by simp [tbC]) (fun e => hS.row_ne (i := 1) rfl hS.inX e)
          have hQ4 := hS.kp_grown hQ2 (fun _ h => h) (i := 1) rfl hg
          have hS4 := hS.grow (i := 1) rfl hg ho hat 1 (by omega) (rows_labels _ _ [] v' s) rfl hS.len
          obtain ⟨p4a, c4a, rfl⟩ := (Sl.of_owns ho).len
          refine hK.out _ _ xb4 ?_
          clear hK K hg ho hat hS hQ2 hnc
          try simp only [Act.put, List.setIfInBounds_toArray, List.set_cons_zero, List.set_cons_succ]
          repeat (first | (refine wpP_skip_take ?_ ?_; (focus rfl); try simp only [Act.put, List.setIfInBounds_toArray, List.set_cons_zero, List.set_cons_succ]) | (refine wpP_skip_run ?_ ?_; (focus rfl); try simp only [Act.put, List.setIfInBounds_toArray, List.set_cons_zero, List.set_cons_succ]) | (refine wpP_take ?_ ?_; (focus rfl); apply Exists.intro; refine ⟨fun w' hw' => ?_, ?_⟩; (focus (have z0 := hw'.cell 1 _ rfl; go_simp; (try rfl); done)); try simp only [Act.put, List.setIfInBounds_toArray, List.set_cons_zero, List.set_cons_succ]))
          unfold tbC at xb4
          dsimp only at xb4
          have z4 := xb4.cell 1 _ rfl
          have y4 := xb4.mark 1 _ rfl
          have l4 := xb4.lt (Nat.succ_pos _)
          refine wpP_last ?_ (fun K hK => ?_); (focus rfl)
          go_simp
          refine hK.out _ _ ?_
          clear hK K z4 y4 l4
          try simp only [Act.put, List.setIfInBounds_toArray, List.set_cons_zero, List.set_cons_succ]
          refine wpP_done ?_
          have hQ5 := hQ4.store 1 (.slice p4a ((done.map (fun x : List UInt8 × ((Int × Int) × List (Int × Int)) => x.1)).length + 1) c4a) hS4.tlow
          clear hQ4 xb4
          simp only [List.length_map] at hS4 hQ5
          have HDA := Lib.hid hd2a
          have hS5 := hS4
          have hQ := hQ5
          clear hd2a hS4 hQ5
          go_wp2_with fail
          refine name_calls (fun W5 hW5 => ?_)
          rw [← hW5] at hS5 hQ
          clear hW5
          go_at_call 65
          cases hs2 : numR 2 (bs.drop q2a) with
          | none =>
            have hR0 : R = none := FAILR.out (seq_none2 HTX.out (seq_none1 (seq_none1 (by rw [← HDA.out]; exact i_none hs2))))
            (with_reducible refine (num_none W5 rb pb c bs q2a 2 2 rfl hS5.rd (by omega) hs2).mono ?_); rintro e w9 ⟨rfl, hk9⟩
            have Z := Lib.hid (NONE.out hR0 w9 (hQ.trans (KpQ.of_p hk9 HXO.out)))
            unfold refusalV at Z ⊢
            clear hR0 hs2 hS5 hQ
            go_wp2_with fail
            exact ⟨rfl, Z.out⟩
          | some y =>
            obtain ⟨m1, l3⟩ := y
            (with_reducible refine (num_some W5 rb pb c bs q2a 2 2 rfl m1 l3 hS5.rd (by omega) hs2).mono ?_); rintro e w3 ⟨rfl, hk3, q3, hr3, hd3⟩
            replace hQ := hQ.trans (KpQ.of_p hk3 HXO.out)
            replace hS5 := hS5.num hk3 hr3
            have HN2 := Lib.hid hs2
            have HD3 := Lib.hid hd3
            clear hs2 hd3 hk3 hr3
            go_wp2_with fail
            refine name_calls (fun W6 hW6 => ?_)
            have hg6 : Gr w3 W6 := by rw [hW6]; exact Gr.alloc _ _
            have hS6 := hS5.alloc (.cells #[.int .i64 (m1 : Int), .int .i64 0] 58)
            rw [← hW6] at hS6
            have xc : boxAt W6 w3.heap.size [.int .i64 (m1 : Int), .int .i64 0] := by rw [hW6]; exact boxAt.new _ _ rfl
            have hcw : w.heap.size ≤ w3.heap.size := hQ.size
            replace hQ := hQ.trans (KpQ.gr hg6)
            have hcb : tb ≠ w3.heap.size := by have := (hS5.lt tb hS5.inX).2; omega
            clear hW6 hg6 hS5
            generalize w3.heap.size = cb at *
            go_at_call 65
            cases hs3 : numR 65536 (bs.drop q3) with
            | none =>
              have hR0 : R = none := FAILR.out (seq_none2 HTX.out (seq_none1 (seq_none2 (by rw [← HDA.out]; exact i_some HN2.out) (by rw [← HD3.out]; exact i_none hs3))))
              (with_reducible refine (num_none W6 rb pb c bs q3 65536 65536 rfl hS6.rd (by omega) hs3).mono ?_); rintro e w9 ⟨rfl, hk9⟩
              have Z := Lib.hid (NONE.out hR0 w9 (hQ.trans (KpQ.of_p hk9 HXO.out)))
              unfold refusalV at Z ⊢
              clear hR0 hs3 hS6 hQ xc
              go_wp2_with fail
              exact ⟨rfl, Z.out⟩
            | some y =>
              obtain ⟨m2, l4⟩ := y
              (with_reducible refine (num_some W6 rb pb c bs q3 65536 65536 rfl m2 l4 hS6.rd (by omega) hs3).mono ?_); rintro e w5 ⟨rfl, hk5, q4, hr5, hd4⟩
              replace hQ := hQ.trans (KpQ.of_p hk5 HXO.out)
              replace xc := xc.keptP hk5 (by have := hS6.rlow; have := hS6.lt cb (by simp); omega) (by simp)
              replace hS6 := hS6.num hk5 hr5
              have HN3 := Lib.hid hs3
              have HD4 := Lib.hid hd4
              have z0 := xc.cell 0 _ rfl
              have z1 := xc.cell 1 _ rfl
              have y1 := xc.mark 1 _ rfl
              have lc := xc.lt (Nat.succ_pos _)
              have hS7 := hS6.far (p := ⟨cb, 1, none⟩) (.int .i64 (m2 : Int)) (by simp) (Ne.symm hcb)
              have hQ7 := hQ.storeNew ⟨cb, 1, none⟩ (.int .i64 (m2 : Int)) hcw
              have xc7 := xc.put 1 (.int .i64 (m2 : Int)) (by simp)
              simp only [List.set_cons_succ, List.set_cons_zero] at xc7
              clear hs3 hd4 hk5 hr5 hS6 hQ xc
              go_wp2_with fail
              refine name_world (fun W7 hW7 => ?_)
              rw [← hW7] at hS7 hQ7 xc7
              clear hW7 z0 z1 y1 lc
              have hQ := hQ7
              have Hxc := Lib.hid xc7
              have xb := hS7.box
              unfold tbC at xb
              dsimp only at xb
              obtain ⟨pc, cc_, rfl⟩ : ∃ p c, vc = .slice p done.length c := by
                obtain ⟨p, c, hv⟩ := (Sl.of_owns (hS7.row_own (i := 2) rfl)).len
                exact ⟨p, c, by rw [← List.length_map (fun x : List UInt8 × ((Int × Int) × List (Int × Int)) => x.2.1)]; exact hv⟩
              have HS := Lib.hid hS7
              clear hQ7 xc7 hS7
              refine wp_region_T (fun _ _ => False) (fun w' => boxAt w' tb [vm, .slice p4a (done.length + 1) c4a, .slice pc done.length cc_, va, vcl, .int .i64 0, vst, vlb, vba, vdf, vne, vch] ∧ boxAt w' cb [.int .i64 (m1 : Int), .int .i64 (m2 : Int)]) (.take 0 (.take 1 (.take 2 (.take 3 (.take 4 (.take 5 (.run 6 false (.run 7 false (.take 8 (.take 9 (.run 10 true .nil))))))))))) (fun _ _ _ _ h => h.elim) ⟨xb.later (Gr.drew _), Hxc.out.later (Gr.drew _)⟩ (by kernel_rfl) (by kernel_rfl) ?_
              simp only [pickOps, nthOp]
              intro wq hG hSq
              have hS := HS.out.later hG
              have xc := Hxc.out.later hG
              have hQ2 := hQ.trans (KpQ.gr hG)
              clear hG hSq
              repeat (first | (refine wpP_skip_take ?_ ?_; (focus rfl); try simp only [Act.put, List.setIfInBounds_toArray, List.set_cons_zero, List.set_cons_succ]) | (refine wpP_skip_run ?_ ?_; (focus rfl); try simp only [Act.put, List.setIfInBounds_toArray, List.set_cons_zero, List.set_cons_succ]) | (refine wpP_take ?_ ?_; (focus rfl); apply Exists.intro; refine ⟨fun w' hw' => ?_, ?_⟩; (focus (have z0 := hw'.1.cell 2 _ rfl; have z1 := hw'.2.cell 0 _ rfl; have z2 := hw'.2.cell 1 _ rfl; go_simp; (try rfl); done)); try simp only [Act.put, List.setIfInBounds_toArray, List.set_cons_zero, List.set_cons_succ]))
              refine wpP_run ?_ (fun K hK => ?_); (focus rfl)
              go_simp
              go_simp
              refine name_K (fun w3 hW => ?_)
              have hg3 : Gr wq w3 := by rw [hW]; exact Gr.alloc _ _
              have hnc : ∀ (j : Nat) (u : Value), [Value.int .i64 (m1 : Int), .int .i64 (m2 : Int)][j]? = some u → w3.cell? ((⟨wq.heap.size, 0, none⟩ : Addr).add j) = some u := by rw [hW]; exact new_cells wq [Value.int .i64 (m1 : Int), .int .i64 (m2 : Int)] _
              replace hS := hS.later hg3
              replace xc := xc.later hg3
              replace hQ2 := hQ2.trans (KpQ.gr hg3)
              refine hK.out _ _ ⟨hS.box, xc⟩ ?_
              clear hK K hg3 hW
              try simp only [Act.put, List.setIfInBounds_toArray, List.set_cons_zero, List.set_cons_succ]
              repeat (first | (refine wpP_skip_take ?_ ?_; (focus rfl); try simp only [Act.put, List.setIfInBounds_toArray, List.set_cons_zero, List.set_cons_succ]) | (refine wpP_skip_run ?_ ?_; (focus rfl); try simp only [Act.put, List.setIfInBounds_toArray, List.set_cons_zero, List.set_cons_succ]) | (refine wpP_take ?_ ?_; (focus rfl); apply Exists.intro; refine ⟨fun w' hw' => ?_, ?_⟩; (focus (have z0 := hw'.1.cell 2 _ rfl; have z1 := hw'.2.cell 0 _ rfl; have z2 := hw'.2.cell 1 _ rfl; go_simp; (try rfl); done)); try simp only [Act.put, List.setIfInBounds_toArray, List.set_cons_zero, List.set_cons_succ]))
              refine wpP_run ?_ (fun K hK => ?_); (focus rfl)
              refine wp_append_at w3 (.tmp 32) (.tmp 34) 27 rfl B 58 iC (.agg #[.int .i64 0, .int .i64 0]) 2 16 Tryd.underlying27 hiC hiC0 hiC1 hiC2 rfl (by decide) _ _ _ rfl (hS.row_own (i := 2) rfl) ⟨wq.heap.size, 0, none⟩ 1 1 [Value.int .i64 (m1 : Int), .int .i64 (m2 : Int)] rfl rfl hnc (fun u hu => by simp at hu; (first | (subst hu; rfl) | (rcases hu with rfl | rfl <;> rfl))) ?c3 ?c4 ?c5 ?_
              case c3 => have := HDL.out; simp; unfold maxLen; omega
              case c4 => have := HDL.out; simp; omega
              case c5 => exact hS.base
              intro v' w4 ho hg hat
              have xb4 := hS.box.grown hg (by simp [tbC]) (fun e => hS.row_ne (i := 2) rfl hS.inX e)
              have xc4 := xc.grown hg (by simp) (fun e => hS.row_ne (i := 2) rfl (by simp) e)
              have hQ4 := hS.kp_grown hQ2 (fun _ h => List.mem_cons_of_mem _ h) (i := 2) rfl hg
              have hS4 := hS.grow (i := 2) rfl hg ho hat 2 (by omega) (rows_cuts _ _ [] v' ((m1 : Int), (m2 : Int))) rfl hS.len
              obtain ⟨p4b, c4b, rfl⟩ := (Sl.of_owns ho).len
              refine hK.out _ _ ⟨xb4, xc4⟩ ?_
              clear hK K hg ho hat hS hQ2 hnc xc
              try simp only [Act.put, List.setIfInBounds_toArray, List.set_cons_zero, List.set_cons_succ]
              repeat (first | (refine wpP_skip_take ?_ ?_; (focus rfl); try simp only [Act.put, List.setIfInBounds_toArray, List.set_cons_zero, List.set_cons_succ]) | (refine wpP_skip_run ?_ ?_; (focus rfl); try simp only [Act.put, List.setIfInBounds_toArray, List.set_cons_zero, List.set_cons_succ]) | (refine wpP_take ?_ ?_; (focus rfl); apply Exists.intro; refine ⟨fun w' hw' => ?_, ?_⟩; (focus (have z0 := hw'.1.cell 2 _ rfl; have z1 := hw'.2.cell 0 _ rfl; have z2 := hw'.2.cell 1 _ rfl; go_simp; (try rfl); done)); try simp only [Act.put, List.setIfInBounds_toArray, List.set_cons_zero, List.set_cons_succ]))
              unfold tbC at xb4
              dsimp only at xb4
              have z4 := xb4.cell 2 _ rfl
              have y4 := xb4.mark 2 _ rfl
              have l4 := xb4.lt (Nat.succ_pos _)
              refine wpP_last ?_ (fun K hK => ?_); (focus rfl)
              go_simp
              refine hK.out _ _ ?_
              clear hK K z4 y4 l4
              try simp only [Act.put, List.setIfInBounds_toArray, List.set_cons_zero, List.set_cons_succ]
              refine wpP_done ?_
              have hQ5 := hQ4.store 2 (.slice p4b ((done.map (fun x : List UInt8 × ((Int × Int) × List (Int × Int)) => x.2.1)).length + 1) c4b) hS4.tlow
              have xc5 := xc4.far ⟨tb, 2, none⟩ (.slice p4b ((done.map (fun x : List UInt8 × ((Int × Int) × List (Int × Int)) => x.2.1)).length + 1) c4b) hcb
              clear hQ4 xb4 xc4
              simp only [List.length_map] at hS4 hQ5
              have hS6 := hS4
              have hQ := hQ5
              clear hS4 hQ5 xc5
              go_wp2_with fail
              refine name_calls (fun W8 hW8 => ?_)
              rw [← hW8] at hS6 hQ
              clear hW8
              go_at_call 65
              cases hs6 : numR 8 (bs.drop q4) with
              | none =>
                have hR0 : R = none := FAILR.out (seq_none2 HTX.out (seq_none2 (seq_some (by rw [← HDA.out]; exact i_some HN2.out) (by rw [← HD3.out]; exact i_some HN3.out)) (by rw [← HD4.out]; exact list_none hs6)))
                (with_reducible refine (num_none W8 rb pb c bs q4 8 8 rfl hS6.rd (by omega) hs6).mono ?_); rintro e w9 ⟨rfl, hk9⟩
                have Z := Lib.hid (NONE.out hR0 w9 (hQ.trans (KpQ.of_p hk9 HXO.out)))
                unfold refusalV at Z ⊢
                clear hR0 hs6 hS6 hQ
                go_wp2_with fail
                exact ⟨rfl, Z.out⟩
              | some y =>
                obtain ⟨n3, l5⟩ := y
                (with_reducible refine (num_some W8 rb pb c bs q4 8 8 rfl n3 l5 hS6.rd (by omega) hs6).mono ?_); rintro e w6 ⟨rfl, hk6, q6, hr6, hd6⟩
                have hQ6 := hQ.trans (KpQ.of_p hk6 HXO.out)
                replace hS6 := hS6.num hk6 hr6
                have hn8 := num_le hs6
                have HL2 := Lib.hid (list_some (f := actR 3) hs6)
                have HD6 := Lib.hid hd6
                have FAIL := Lib.hid (fun (hf : listR 8 (actR 3) (bs.drop q4) = none) => (show R = none from FAILR.out (seq_none2 HTX.out (seq_none2 (seq_some (by rw [← HDA.out]; exact i_some HN2.out) (by rw [← HD3.out]; exact i_some HN3.out)) (by rw [← HD4.out]; exact hf)))))
                clear hs6 hd6 hk6 hr6 hQ
                go_wp2_with fail
                go_loopw [5, 40] (fun lv i wr => ∃ (j2 : Nat) (dn : List (Int × Int)) (p : Option Addr) (c2 : Nat) (q : Nat), i = .int .i64 (j2 : Int) ∧ j2 ≤ n3 ∧ dn.length = j2 ∧ lv = .slice p dn.length c2 ∧ Rst wr B rb tb pb c bs q (cb :: X) ⟨mo, done.map (·.1) ++ [s], done.map (·.2.1) ++ [((m1 : Int), (m2 : Int))], done.map (·.2.2), [], 0, sta, [], [], [], [], []⟩ ⟨vm, .slice p4a (done.length + 1) c4a, .slice p4b (done.length + 1) c4b, va, vrows, vcl, vst, vlb, vba, vdf, vne, vch⟩ [⟨.slice p dn.length c2, 61, 2, dn.length, dn.flatMap prC⟩] ∧ KpQ B rb X tb w wr ∧ Hid (listR 8 (actR 3) (bs.drop q4) = appD dn (manyR (actR 3) (n3 - j2) (bs.drop q)))) (fun _ i _ => n3 - (intOf i).toNat)
                case atStart => exact ⟨0, [], none, 0, q6, rfl, Nat.zero_le _, rfl, rfl, hS6.push _ 2, hQ6, Lib.hid (by rw [HL2.out, appD_nil, HD6.out]; rfl)⟩
                case round =>
                  obtain ⟨j2, dn, pv, cv, q7, rfl, hj2, hdn, rfl, hS, hQ, HM2⟩ := hrel
                  have HDN := Lib.hid hdn
                  clear hdn
                  by_cases hjn2 : j2 < n3
                  · have hjI2 : (j2 : Int) < (n3 : Int) := by omega
                    have hdn8 : dn.length ≤ 8 := by have := HDN.out; omega
                    go_wp2_with fail
                    go_at_call 65
                    cases hs7 : numR 3 (bs.drop q7) with
                    | none =>
                      have hR0 : R = none := FAIL.out (by rw [HM2.out]; exact many_none (seq_none1 (i_none hs7)) _ (by omega) _)
                      (with_reducible refine (num_none _ rb pb c bs q7 3 3 rfl hS.rd (by omega) hs7).mono ?_); rintro e w9 ⟨rfl, hk9⟩
                      have Z := Lib.hid (NONE.out hR0 w9 (hQ.trans (KpQ.of_p hk9 HXO.out)))
                      unfold refusalV at Z ⊢
                      clear hR0 hs7 hS hQ
                      go_wp2_with fail
                      exact ⟨rfl, Z.out⟩
                    | some y =>
                      obtain ⟨d1, l7⟩ := y
                      (with_reducible refine (num_some _ rb pb c bs q7 3 3 rfl d1 l7 hS.rd (by omega) hs7).mono ?_); rintro e w7 ⟨rfl, hk7, q8, hr7, hd8⟩
                      replace hQ := hQ.trans (KpQ.of_p hk7 HXO.out)
                      replace hS := hS.num hk7 hr7
                      have HN7 := Lib.hid hs7
                      have HD8 := Lib.hid hd8
                      clear hs7 hd8 hk7 hr7
                      go_wp2_with fail
                      refine name_calls (fun W8 hW8 => ?_)
                      have hg8 : Gr w7 W8 := by rw [hW8]; exact Gr.alloc _ _
                      have hSa := hS.alloc (.cells #[.int .i64 (d1 : Int), .int .i64 0] 61)
                      rw [← hW8] at hSa
                      have xa : boxAt W8 w7.heap.size [.int .i64 (d1 : Int), .int .i64 0] := by rw [hW8]; exact boxAt.new _ _ rfl
                      have hQ7 := hQ
                      replace hQ := hQ.trans (KpQ.gr hg8)
                      have hab : tb ≠ w7.heap.size := by have := (hS.lt tb hS.inX).2; omega
                      have hab2 : w.heap.size ≤ w7.heap.size := hQ7.size
                      clear hW8 hg8 hS hQ7
                      generalize w7.heap.size = ab at *
                      go_at_call 65
                      cases hs8 : numR 16 (bs.drop q8) with
                      | none =>
                        have hR0 : R = none := FAIL.out (by rw [HM2.out]; exact many_none (seq_none2 (i_some HN7.out) (by rw [← HD8.out]; exact i_none hs8)) _ (by omega) _)
                        (with_reducible refine (num_none _ rb pb c bs q8 16 16 rfl hSa.rd (by omega) hs8).mono ?_); rintro e w9 ⟨rfl, hk9⟩
                        have Z := Lib.hid (NONE.out hR0 w9 (hQ.trans (KpQ.of_p hk9 HXO.out)))
                        unfold refusalV at Z ⊢
                        clear hR0 hs8 hSa hQ
                        go_wp2_with fail
                        exact ⟨rfl, Z.out⟩
                      | some y =>
                        obtain ⟨d2, l8⟩ := y
                        (with_reducible refine (num_some _ rb pb c bs q8 16 16 rfl d2 l8 hSa.rd (by omega) hs8).mono ?_); rintro e w9 ⟨rfl, hk9, q9, hr9, hd9⟩
                        replace hQ := hQ.trans (KpQ.of_p hk9 HXO.out)
                        replace xa := xa.keptP hk9 (by have := hSa.rlow; have := hSa.lt ab (by simp); omega) (by simp)
                        replace hSa := hSa.num hk9 hr9
                        have HN8 := Lib.hid hs8
                        have HD9 := Lib.hid hd9
                        have z0 := xa.cell 0 _ rfl
                        have z1 := xa.cell 1 _ rfl
                        have y1 := xa.mark 1 _ rfl
                        have la := xa.lt (Nat.succ_pos _)
                        clear hs8 hd9 hk9 hr9
                        have hSb := hSa.far (p := ⟨ab, 1, none⟩) (.int .i64 (d2 : Int)) (by simp) (Ne.symm hab)
                        have hQb := hQ.storeNew ⟨ab, 1, none⟩ (.int .i64 (d2 : Int)) hab2
                        have xb2 := xa.put 1 (.int .i64 (d2 : Int)) (by simp)
                        simp only [List.set_cons_succ, List.set_cons_zero] at xb2
                        have HXA := Lib.hid xb2
                        have HSb := Lib.hid hSb
                        have HQb := Lib.hid hQb
                        clear xa xb2 hSa hSb hQ hQb
                        go_wp2_with (at_builtin; refine wpList_append_own_at _ rfl (.tmp 48) (.tmp 50) 59 rfl B 61 iT (.agg #[.int .i64 0, .int .i64 0]) 2 16 Tryd.underlying59 hiT hiT0 hiT1 hiT2 rfl (by decide) _ _ _ rfl ((HSb.out.later (Gr.alloc _ _)).row_own (i := (rowsOf (⟨mo, done.map (·.1) ++ [s], done.map (·.2.1) ++ [((m1 : Int), (m2 : Int))], done.map (·.2.2), [], 0, sta, [], [], [], [], []⟩ : Tb) (⟨vm, .slice p4a (done.length + 1) c4a, .slice p4b (done.length + 1) c4b, va, vrows, vcl, vst, vlb, vba, vdf, vne, vch⟩ : TbV)).length) (r := ⟨.slice pv dn.length cv, 61, 2, dn.length, dn.flatMap prC⟩) (by simp)) ⟨w9.heap.size, 0, none⟩ 1 1 [.int .i64 (d1 : Int), .int .i64 (d2 : Int)] rfl rfl ?c1 ?c2 ?c3 ?c4 ?c5 ?_)
                        case c1 => have hnc := new_cells (w9.setCell ⟨ab, 1, none⟩ (.int .i64 (d2 : Int))) [.int .i64 (d1 : Int), .int .i64 (d2 : Int)] 61; rw [show (w9.setCell ⟨ab, 1, none⟩ (.int .i64 (d2 : Int))).heap.size = w9.heap.size by simp [World.setCell]] at hnc; exact hnc
                        case c2 => intro u hu; simp at hu; rcases hu with rfl | rfl <;> rfl
                        case c3 => unfold maxLen; omega
                        case c4 => omega
                        case c5 => exact (HSb.out.later (Gr.alloc _ _)).base
                        intro v' wA ho hg _ hat
                        replace ho : wA.ownsRow B 61 2 v' (dn ++ [((d1 : Int), (d2 : Int))]).length ((dn ++ [((d1 : Int), (d2 : Int))]).flatMap prC) := by
                          rw [List.length_append, List.flatMap_append]; exact ho
                        have hSa := HSb.out.later (Gr.alloc _ (.cells #[.int .i64 (d1 : Int), .int .i64 (d2 : Int)] 61))
                        have hQa := hSa.kp_grown (HQb.out.trans (KpQ.gr (Gr.alloc _ (.cells #[.int .i64 (d1 : Int), .int .i64 (d2 : Int)] 61)))) (fun _ h => List.mem_cons_of_mem _ (List.mem_cons_of_mem _ h)) (i := (rowsOf (⟨mo, done.map (·.1) ++ [s], done.map (·.2.1) ++ [((m1 : Int), (m2 : Int))], done.map (·.2.2), [], 0, sta, [], [], [], [], []⟩ : Tb) (⟨vm, .slice p4a (done.length + 1) c4a, .slice p4b (done.length + 1) c4b, va, vrows, vcl, vst, vlb, vba, vdf, vne, vch⟩ : TbV)).length) (r := ⟨.slice pv dn.length cv, 61, 2, dn.length, dn.flatMap prC⟩) (by simp) hg
                        obtain ⟨pA, cA, rfl⟩ := (Sl.of_owns ho).len
                        have hSc := hSa.growEx (i := (rowsOf (⟨mo, done.map (·.1) ++ [s], done.map (·.2.1) ++ [((m1 : Int), (m2 : Int))], done.map (·.2.2), [], 0, sta, [], [], [], [], []⟩ : Tb) (⟨vm, .slice p4a (done.length + 1) c4a, .slice p4b (done.length + 1) c4b, va, vrows, vcl, vst, vlb, vba, vdf, vne, vch⟩ : TbV)).length) (r := ⟨.slice pv dn.length cv, 61, 2, dn.length, dn.flatMap prC⟩) (by simp) hg ho (hat.imp id (fun h => h.trans (by simp [World.setCell]))) (ex2 := [⟨.slice pA (dn ++ [((d1 : Int), (d2 : Int))]).length cA, 61, 2, (dn ++ [((d1 : Int), (d2 : Int))]).length, (dn ++ [((d1 : Int), (d2 : Int))]).flatMap prC⟩]) (by simp [List.set_append_right])
                        have hSd := hSc.dropX (List.mem_cons_of_mem _ (by exact H.out.inX))
                        clear ho hg hat hSa hSc z0 z1 y1 la
                        go_wp2_with fail
                        go_roundw
                        case rel => exact ⟨j2 + 1, dn ++ [((d1 : Int), (d2 : Int))], pA, cA, q9, by go_num, by omega, by rw [List.length_append, HDN.out]; rfl, rfl, hSd, hQa, Lib.hid (by
                          rw [HM2.out, many_some (f := actR 3) (seq_some (i_some HN7.out) (by rw [← HD8.out]; exact i_some HN8.out)) _ (by omega), HD9.out]; rfl)⟩
                        case measure => simp [intOf]; omega
                  · have hjn3 : n3 = j2 := by omega
                    subst hjn3
                    have HAC := Lib.hid (show listR 8 (actR 3) (bs.drop q4) = some (dn, bs.drop q7) by rw [HM2.out, Nat.sub_self]; exact many_end _ _ _)
                    have hdn8 : dn.length ≤ 8 := by have := HDN.out; omega
                    have HSb := Lib.hid hS
                    have HQb := Lib.hid hQ
                    have xb := hS.box
                    unfold tbC at xb
                    dsimp only at xb
                    obtain ⟨pa, ca, rfl⟩ : ∃ p c, va = .slice p done.length c := by
                      obtain ⟨p, c, hv⟩ := (Sl.of_owns (hS.row_own (i := 3) rfl)).len
                      exact ⟨p, c, by rw [← List.length_map (fun x : List UInt8 × ((Int × Int) × List (Int × Int)) => x.2.2)]; exact hv⟩
                    have z3 := xb.cell 3 _ rfl
                    have y3 := xb.mark 3 _ rfl
                    have lb := xb.lt (Nat.succ_pos _)
                    clear xb hS hQ
                    go_wp2_with (at_builtin; refine wpList_append_own_at _ rfl (.tmp 57) (.tmp 59) 28 rfl B 59 iA (.slice none 0 0) 1 24 Tryd.underlying28 hiA hiA0 hiA1 hiA2 rfl (by decide) _ _ _ rfl ((HSb.out.later (Gr.alloc _ _)).row_own (i := 3) rfl) ⟨wr.heap.size, 0, none⟩ 1 1 [.slice pv dn.length cv] rfl rfl ?c1 ?c2 ?c3 ?c4 ?c5 ?_)
                    case c1 => exact new_cells _ [.slice pv dn.length cv] _
                    case c2 => intro u hu; simp at hu; subst hu; rfl
                    case c3 => have := HDL.out; simp; unfold maxLen; omega
                    case c4 => have := HDL.out; simp; omega
                    case c5 => exact (HSb.out.later (Gr.alloc _ _)).base
                    intro v' wA ho hg _ hat
                    replace ho : wA.ownsRow B 59 1 v' ((done.map (fun x : List UInt8 × ((Int × Int) × List (Int × Int)) => x.2.2)).length + 1) (vrows ++ [.slice pv dn.length cv]) := by simpa using ho
                    have hSa := HSb.out.later (Gr.alloc _ (.cells #[.slice pv dn.length cv] 59))
                    have hQa := hSa.kp_grown (HQb.out.trans (KpQ.gr (Gr.alloc _ (.cells #[.slice pv dn.length cv] 59)))) (fun _ h => List.mem_cons_of_mem _ h) (i := 3) rfl hg
                    have xb4 := hSa.box.grown hg (by simp [tbC]) (fun e => hSa.row_ne (i := 3) rfl hSa.inX e)
                    have hlen := hSa.len
                    have hSc := hSa.grow (i := 3) rfl hg ho (hat.imp id (fun h => h.trans (by simp))) 3 (by omega) (rows_acts _ _ v' dn (.slice pv dn.length cv) hlen) rfl (by rw [List.length_append, List.length_append, hlen]; rfl)
                    obtain ⟨pA, cA, rfl⟩ := (Sl.of_owns ho).len
                    have hQc := hQa.store 3 (.slice pA ((done.map (fun x : List UInt8 × ((Int × Int) × List (Int × Int)) => x.2.2)).length + 1) cA) hSa.tlow
                    have hSd := hSc.dropX (by exact H.out.inX)
                    clear ho hg hat hSa hQa hSc z3 y3 lb
                    unfold tbC at xb4
                    dsimp only at xb4
                    have z4 := xb4.cell 3 _ rfl
                    have y4 := xb4.mark 3 _ rfl
                    have l4 := xb4.lt (Nat.succ_pos _)
                    clear xb4
                    simp only [List.length_map] at hSd hQc
                    go_wp2_with fail
                    go_roundw
                    case rel => exact ⟨j + 1, done ++ [(s, (((m1 : Int), (m2 : Int)), dn))], _, q7, by go_num, by omega, by rw [List.length_append, HDL.out]; rfl, by simpa using hSd, hQc, Lib.hid (by
                      rw [HM.out, many_some (f := ruleR 2 3) (seq_some HTX.out (seq_some (seq_some (by rw [← HDA.out]; exact i_some HN2.out) (by rw [← HD3.out]; exact i_some HN3.out)) (by rw [← HD4.out]; exact HAC.out))) _ (by omega)]; rfl)⟩
                    case measure => simp [intOf]; omega
      · have hjn2 : n = j := by omega
        subst hjn2
        have HS2 := Lib.hid (show listR 200 (ruleR 2 3) (bs.drop k) = some (done, bs.drop q) by rw [HM.out, Nat.sub_self]; exact many_end _ _ _)
        have Z := Lib.hid (show RulEnd w B rb tb pb c bs k X mo sta (.returned (.tuple #[])) wr from ⟨hQ, by
          rw [HS2.out]; exact ⟨rfl, _, q, hS, rfl⟩⟩)
        clear hS hQ
        go_wp2_with fail
        go_end0
        exact Z.out

end Go.Proofs.YtcbfmajojkcibaaDoor
