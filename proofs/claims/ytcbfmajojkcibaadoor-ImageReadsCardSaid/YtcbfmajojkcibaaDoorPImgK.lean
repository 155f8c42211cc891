/- image: the reader's states and slots. No condition but that the reader lies elsewhere than its bytes. -/
import Derived.Test.YtcbfmajojkcibaaDoorPImgJ
namespace Go.Proofs.YtcbfmajojkcibaaDoor
open Go Go.RowKit

/-- How the reader's comb ends. -/
def CombEnd (w : World) (B rb tb : Nat) (pb : Option Addr) (c : Nat) (bs : List UInt8) (k : Nat) (X : List Nat) (mo la : List (List UInt8)) (cu : List (Int × Int)) (ac : List (List (Int × Int))) (cl : List Int) (co : Int) (st : List Int) (e : Ending) (w' : World) : Prop := KpQ B rb X tb w w' ∧ match seqR (listR 600 stateR) (fun _ => listR 262144 slotR) (bs.drop k) with
  | some ((ss, sl), r) => e = .returned (.tuple #[]) ∧ ∃ v k', Rst w' B rb tb pb c bs k' X ⟨mo, la, cu, ac, cl, co, st, ss.map (·.1), ss.map (·.2.1), ss.map (·.2.2), sl.map (·.2), sl.map (·.1)⟩ v [] ∧ bs.drop k' = r
  | none => e = .panicked [{ v := refusalV, recovered := false }]

set_option maxRecDepth 100000 in
set_option maxHeartbeats 4000000 in
theorem comb_any (w : World) (B rb tb : Nat) (pb : Option Addr) (c : Nat) (bs : List UInt8) (k : Nat) (X : List Nat) (mo la : List (List UInt8)) (cu : List (Int × Int)) (ac : List (List (Int × Int))) (cl : List Int) (co : Int) (st : List Int) (v : TbV)
    (h : Rst w B rb tb pb c bs k X ⟨mo, la, cu, ac, cl, co, st, [], [], [], [], []⟩ v []) :
    Calls Tryd.prog 68 #[.pointer (some ⟨rb, 0, none⟩), .pointer (some ⟨tb, 0, none⟩)] w (CombEnd w B rb tb pb c bs k X mo la cu ac cl co st) := by
  have H := Lib.hid h
  obtain ⟨R, hR⟩ : ∃ R, seqR (listR 600 stateR) (fun _ => listR 262144 slotR) (bs.drop k) = R := ⟨_, rfl⟩
  have HR := Lib.hid hR
  clear h hR
  have NONE := Lib.hid (fun (hn : R = none) (w' : World) (hk : KpQ B rb X tb w w') => (show CombEnd w B rb tb pb c bs k X mo la cu ac cl co st (.panicked [{ v := refusalV, recovered := false }]) w' from ⟨hk, by rw [HR.out, hn]⟩))
  obtain ⟨iI, hiI, hiI0, hiI1, hiI2⟩ := info_parts info_int
  go_enter Tryd.func68, Tryd.ntmps68
  go_wp2_with fail
  go_at_call 65
  cases hn1 : numR 600 (bs.drop k) with
  | none =>
    have hR0 : R = none := by rw [← HR.out]; exact seq_none1 (list_none hn1)
    (with_reducible refine (num_none w rb pb c bs k 600 600 rfl H.out.rd (by omega) hn1).mono ?_); rintro e w1 ⟨rfl, hk1⟩
    have Z := Lib.hid (NONE.out hR0 w1 (KpQ.of_p hk1 H.out.rb_out))
    unfold refusalV at Z ⊢
    clear hR0 hn1
    go_wp2_with fail
    exact ⟨rfl, Z.out⟩
  | some y =>
    obtain ⟨n, l1⟩ := y
    (with_reducible refine (num_some w rb pb c bs k 600 600 rfl n l1 H.out.rd (by omega) hn1).mono ?_); rintro e w1 ⟨rfl, hk1, k1, hr1, hd1⟩
    have hS1 := H.out.num hk1 hr1
    have hQ1 : KpQ B rb X tb w w1 := KpQ.of_p hk1 H.out.rb_out
    have hn6 := num_le hn1
    have HL1 := Lib.hid (list_some (f := stateR) hn1)
    clear hr1 hn1 hk1
    go_wp2_with fail
    go_loopw [8] (fun i wr => ∃ (j : Nat) (done : List (Int × (Int × Int))) (v : TbV) (q : Nat), i = .int .i64 (j : Int) ∧ j ≤ n ∧ done.length = j ∧ Rst wr B rb tb pb c bs q X ⟨mo, la, cu, ac, cl, co, st, done.map (·.1), done.map (·.2.1), done.map (·.2.2), [], []⟩ v [] ∧ KpQ B rb X tb w wr ∧ Hid (listR 600 stateR (bs.drop k) = appD done (manyR stateR (n - j) (bs.drop q)))) (fun i _ => n - (intOf i).toNat)
    case atStart => exact ⟨0, [], _, k1, rfl, Nat.zero_le _, rfl, hS1, hQ1, Lib.hid (by rw [HL1.out, appD_nil, hd1]; rfl)⟩
    case round =>
      obtain ⟨j, done, v, q, rfl, hj, hdl, hS, hQ, HM⟩ := hrel
      obtain ⟨vm, vl, vc, va, vrows, vcl, vst, vlb, vba, vdf, vne, vch⟩ := v
      have xb := hS.box
      unfold tbC at xb
      dsimp only at xb
      by_cases hjn : j < n
      · have hjI : (j : Int) < (n : Int) := by omega
        have HDL := Lib.hid hdl
        clear hdl
        cases hs1 : numR 200 (bs.drop q) with
        | none =>
          have hR0 : R = none := by rw [← HR.out]; exact seq_none1 (by rw [HM.out]; exact many_none (seq_none1 (d_none hs1)) _ (by omega) _)
          have Z := Lib.hid (NONE.out hR0)
          have HS := Lib.hid hS
          have HN := Lib.hid hs1
          clear hS hR0 hs1
          go_wp2_with fail
          refine wp_region_T (fun cc w' => CombEnd w B rb tb pb c bs k X mo la cu ac cl co st (.panicked cc) w') (fun w' => boxAt w' tb [vm, vl, vc, va, vcl, .int .i64 co, vst, vlb, vba, vdf, vne, vch]) (.take 0 (.take 1 (.take 2 (.take 3 (.take 4 (.take 5 (.run 6 false (.take 7 (.run 8 false (.run 9 false (.take 10 (.take 11 (.run 12 true .nil))))))))))))) (fun cc a w' h1 h2 => ⟨h1, h2⟩) (xb.later (Gr.drew _)) (by kernel_rfl) (by kernel_rfl) ?_
          simp only [pickOps, nthOp]
          intro wq hG hSq
          repeat (first | (refine wpP_skip_take ?_ ?_; (focus rfl); try simp only [Act.put, List.setIfInBounds_toArray, List.set_cons_zero, List.set_cons_succ]) | (refine wpP_skip_run ?_ ?_; (focus rfl); try simp only [Act.put, List.setIfInBounds_toArray, List.set_cons_zero, List.set_cons_succ]) | (refine wpP_take ?_ ?_; (focus rfl); apply Exists.intro; refine ⟨fun w' hw' => ?_, ?_⟩; (focus (have z0 := hw'.cell 7 _ rfl; go_simp; (try rfl); done)); try simp only [Act.put, List.setIfInBounds_toArray, List.set_cons_zero, List.set_cons_succ]))
          refine wpP_run ?_ (fun K hK => ?_); (focus rfl)
          go_simp
          go_at_call 65
          (with_reducible refine (num_none wq rb pb c bs q 200 200 rfl (HS.out.rd.later hG) (by omega) HN.out).mono ?_); rintro e w2 ⟨rfl, hk2⟩
          exact ⟨rfl, Z.out w2 (hQ.trans ((KpQ.gr hG).trans (KpQ.of_p hk2 HS.out.rb_out)))⟩
        | some y =>
          obtain ⟨m1, l2⟩ := y
          have hm1 := num_le hs1
          have HN1 := Lib.hid hs1
          obtain ⟨pb0, cb0, rfl⟩ : ∃ p c, vlb = .slice p done.length c := by
            obtain ⟨p, c, hv⟩ := (Sl.of_owns (hS.row_own (i := 6) rfl)).len
            exact ⟨p, c, by rw [← List.length_map (fun x : Int × (Int × Int) => x.1)]; exact hv⟩
          have HS := Lib.hid hS
          clear hS hs1
          go_wp2_with fail
          have hwr : IntKind.i64.wrap ((m1 : Int) - 1) = (m1 : Int) - 1 := IntWalk.i64_in _ (by omega)
          refine wp_region_T (fun _ _ => False) (fun w' => boxAt w' tb [vm, vl, vc, va, vcl, .int .i64 co, vst, .slice pb0 done.length cb0, vba, vdf, vne, vch]) (.take 0 (.take 1 (.take 2 (.take 3 (.take 4 (.take 5 (.run 6 false (.take 7 (.run 8 false (.run 9 false (.take 10 (.take 11 (.run 12 true .nil))))))))))))) (fun _ _ _ _ h => h.elim) (xb.later (Gr.drew _)) (by kernel_rfl) (by kernel_rfl) ?_
          simp only [pickOps, nthOp]
          intro wq hG hSq
          have hS := HS.out.later hG
          have hQ2 := hQ.trans (KpQ.gr hG)
          clear hG hSq
          repeat (first | (refine wpP_skip_take ?_ ?_; (focus rfl); try simp only [Act.put, List.setIfInBounds_toArray, List.set_cons_zero, List.set_cons_succ]) | (refine wpP_skip_run ?_ ?_; (focus rfl); try simp only [Act.put, List.setIfInBounds_toArray, List.set_cons_zero, List.set_cons_succ]) | (refine wpP_take ?_ ?_; (focus rfl); apply Exists.intro; refine ⟨fun w' hw' => ?_, ?_⟩; (focus (have z0 := hw'.cell 7 _ rfl; go_simp; (try rfl); done)); try simp only [Act.put, List.setIfInBounds_toArray, List.set_cons_zero, List.set_cons_succ]))
          refine wpP_run ?_ (fun K hK => ?_); (focus rfl)
          go_simp
          go_at_call 65
          (with_reducible refine (num_some wq rb pb c bs q 200 200 rfl m1 l2 hS.rd (by omega) HN1.out).mono ?_); rintro e w2 ⟨rfl, hk2, q2a, hr2, hd2a⟩
          try dsimp only
          replace hS := hS.num hk2 hr2
          replace hQ2 := hQ2.trans (KpQ.of_p hk2 hS.rb_out)
          refine hK.out _ _ hS.box ?_
          clear hK K hk2 hr2
          try simp only [Act.put, List.setIfInBounds_toArray, List.set_cons_zero, List.set_cons_succ]
          repeat (first | (refine wpP_skip_take ?_ ?_; (focus rfl); try simp only [Act.put, List.setIfInBounds_toArray, List.set_cons_zero, List.set_cons_succ]) | (refine wpP_skip_run ?_ ?_; (focus rfl); try simp only [Act.put, List.setIfInBounds_toArray, List.set_cons_zero, List.set_cons_succ]) | (refine wpP_take ?_ ?_; (focus rfl); apply Exists.intro; refine ⟨fun w' hw' => ?_, ?_⟩; (focus (have z0 := hw'.cell 7 _ rfl; go_simp; (try rfl); done)); try simp only [Act.put, List.setIfInBounds_toArray, List.set_cons_zero, List.set_cons_succ]))
          refine wpP_run ?_ (fun K hK => ?_); (focus rfl)
          go_simp
          refine name_K (fun w3 hW => ?_)
          have hg3 : Gr w2 w3 := by rw [hW]; exact Gr.alloc _ _
          have hnc : ∀ (j : Nat) (u : Value), [Value.int .i64 ((m1 : Int) - 1)][j]? = some u → w3.cell? ((⟨w2.heap.size, 0, none⟩ : Addr).add j) = some u := by rw [hW]; exact new_cells w2 [Value.int .i64 ((m1 : Int) - 1)] _
          replace hS := hS.later hg3
          replace hQ2 := hQ2.trans (KpQ.gr hg3)
          refine hK.out _ _ hS.box ?_
          clear hK K hg3 hW
          try simp only [Act.put, List.setIfInBounds_toArray, List.set_cons_zero, List.set_cons_succ]
          repeat (first | (refine wpP_skip_take ?_ ?_; (focus rfl); try simp only [Act.put, List.setIfInBounds_toArray, List.set_cons_zero, List.set_cons_succ]) | (refine wpP_skip_run ?_ ?_; (focus rfl); try simp only [Act.put, List.setIfInBounds_toArray, List.set_cons_zero, List.set_cons_succ]) | (refine wpP_take ?_ ?_; (focus rfl); apply Exists.intro; refine ⟨fun w' hw' => ?_, ?_⟩; (focus (have z0 := hw'.cell 7 _ rfl; go_simp; (try rfl); done)); try simp only [Act.put, List.setIfInBounds_toArray, List.set_cons_zero, List.set_cons_succ]))
          refine wpP_run ?_ (fun K hK => ?_); (focus rfl)
          refine wp_append_at w3 (.tmp 14) (.tmp 18) 23 rfl B 3 iI (.int .i64 0) 1 8 Tryd.underlying23 hiI hiI0 hiI1 hiI2 rfl (by decide) _ _ _ rfl (hS.row_own (i := 6) rfl) ⟨w2.heap.size, 0, none⟩ 1 1 [Value.int .i64 ((m1 : Int) - 1)] rfl rfl hnc (fun u hu => by simp at hu; (first | (subst hu; rfl) | (rcases hu with rfl | rfl <;> rfl))) ?c3 ?c4 ?c5 ?_
          case c3 => have := HDL.out; simp; unfold maxLen; omega
          case c4 => have := HDL.out; simp; omega
          case c5 => exact hS.base
          intro v' w4 ho hg hat
          have xb4 := hS.box.grown hg (by simp [tbC]) (fun e => hS.row_ne (i := 6) rfl hS.inX e)
          have hQ4 := hS.kp_grown hQ2 (fun _ h => h) (i := 6) rfl hg
          have hS4 := hS.grow (i := 6) rfl hg ho hat 7 (by omega) (rows_label _ _ [] v' ((m1 : Int) - 1)) rfl hS.len
          obtain ⟨p4a, c4a, rfl⟩ := (Sl.of_owns ho).len
          refine hK.out _ _ xb4 ?_
          clear hK K hg ho hat hS hQ2 hnc
          try simp only [Act.put, List.setIfInBounds_toArray, List.set_cons_zero, List.set_cons_succ]
          repeat (first | (refine wpP_skip_take ?_ ?_; (focus rfl); try simp only [Act.put, List.setIfInBounds_toArray, List.set_cons_zero, List.set_cons_succ]) | (refine wpP_skip_run ?_ ?_; (focus rfl); try simp only [Act.put, List.setIfInBounds_toArray, List.set_cons_zero, List.set_cons_succ]) | (refine wpP_take ?_ ?_; (focus rfl); apply Exists.intro; refine ⟨fun w' hw' => ?_, ?_⟩; (focus (have z0 := hw'.cell 7 _ rfl; go_simp; (try rfl); done)); try simp only [Act.put, List.setIfInBounds_toArray, List.set_cons_zero, List.set_cons_succ]))
          unfold tbC at xb4
          dsimp only at xb4
          have z4 := xb4.cell 7 _ rfl
          have y4 := xb4.mark 7 _ rfl
          have l4 := xb4.lt (Nat.succ_pos _)
          refine wpP_last ?_ (fun K hK => ?_); (focus rfl)
          go_simp
          refine hK.out _ _ ?_
          clear hK K z4 y4 l4
          try simp only [Act.put, List.setIfInBounds_toArray, List.set_cons_zero, List.set_cons_succ]
          refine wpP_done ?_
          have hQ5 := hQ4.store 7 (.slice p4a ((done.map (fun x : Int × (Int × Int) => x.1)).length + 1) c4a) hS4.tlow
          clear hQ4 xb4
          simp only [List.length_map] at hS4 hQ5
          clear hwr
          go_wp2_with fail
          refine name_world (fun W5 hW5 => ?_)
          rw [← hW5] at hS4 hQ5
          clear hW5
          have xb := hS4.box
          unfold tbC at xb
          dsimp only at xb
          have hQ := hQ5
          clear hQ5
          have HD1 := Lib.hid hd2a
          clear hd2a
          cases hs2 : numR 262144 (bs.drop q2a) with
          | none =>
            have hR0 : R = none := by rw [← HR.out]; exact seq_none1 (by rw [HM.out]; exact many_none (seq_none2 (d_some HN1.out) (seq_none1 (by rw [← HD1.out]; exact i_none hs2))) _ (by omega) _)
            have Z := Lib.hid (NONE.out hR0)
            have HS := Lib.hid hS4
            have HN := Lib.hid hs2
            clear hS4 hR0 hs2
            go_wp2_with fail
            refine wp_region_T (fun cc w' => CombEnd w B rb tb pb c bs k X mo la cu ac cl co st (.panicked cc) w') (fun w' => boxAt w' tb [vm, vl, vc, va, vcl, .int .i64 co, vst, .slice p4a (done.length + 1) c4a, vba, vdf, vne, vch]) (.take 0 (.take 1 (.take 2 (.take 3 (.take 4 (.take 5 (.take 6 (.run 7 false (.run 8 false (.run 9 false (.take 10 (.take 11 (.take 12 (.run 13 true .nil)))))))))))))) (fun cc a w' h1 h2 => ⟨h1, h2⟩) (xb.later (Gr.drew _)) (by kernel_rfl) (by kernel_rfl) ?_
            simp only [pickOps, nthOp]
            intro wq hG hSq
            repeat (first | (refine wpP_skip_take ?_ ?_; (focus rfl); try simp only [Act.put, List.setIfInBounds_toArray, List.set_cons_zero, List.set_cons_succ]) | (refine wpP_skip_run ?_ ?_; (focus rfl); try simp only [Act.put, List.setIfInBounds_toArray, List.set_cons_zero, List.set_cons_succ]) | (refine wpP_take ?_ ?_; (focus rfl); apply Exists.intro; refine ⟨fun w' hw' => ?_, ?_⟩; (focus (have z0 := hw'.cell 8 _ rfl; go_simp; (try rfl); done)); try simp only [Act.put, List.setIfInBounds_toArray, List.set_cons_zero, List.set_cons_succ]))
            refine wpP_run ?_ (fun K hK => ?_); (focus rfl)
            go_simp
            go_at_call 65
            (with_reducible refine (num_none wq rb pb c bs q2a 262144 262144 rfl (HS.out.rd.later hG) (by omega) HN.out).mono ?_); rintro e w2 ⟨rfl, hk2⟩
            exact ⟨rfl, Z.out w2 (hQ.trans ((KpQ.gr hG).trans (KpQ.of_p hk2 HS.out.rb_out)))⟩
          | some y =>
            obtain ⟨m2, l3⟩ := y
            have hm2 := num_le hs2
            have HN2 := Lib.hid hs2
            obtain ⟨pc, cc, rfl⟩ : ∃ p c, vba = .slice p done.length c := by
              obtain ⟨p, c, hv⟩ := (Sl.of_owns (hS4.row_own (i := 7) rfl)).len
              exact ⟨p, c, by rw [← List.length_map (fun x : Int × (Int × Int) => x.2.1)]; exact hv⟩
            have HS := Lib.hid hS4
            clear hS4 hs2
            go_wp2_with fail
            refine wp_region_T (fun _ _ => False) (fun w' => boxAt w' tb [vm, vl, vc, va, vcl, .int .i64 co, vst, .slice p4a (done.length + 1) c4a, .slice pc done.length cc, vdf, vne, vch]) (.take 0 (.take 1 (.take 2 (.take 3 (.take 4 (.take 5 (.take 6 (.run 7 false (.run 8 false (.run 9 false (.take 10 (.take 11 (.take 12 (.run 13 true .nil)))))))))))))) (fun _ _ _ _ h => h.elim) (xb.later (Gr.drew _)) (by kernel_rfl) (by kernel_rfl) ?_
            simp only [pickOps, nthOp]
            intro wq hG hSq
            have hS := HS.out.later hG
            have hQ2 := hQ.trans (KpQ.gr hG)
            clear hG hSq
            repeat (first | (refine wpP_skip_take ?_ ?_; (focus rfl); try simp only [Act.put, List.setIfInBounds_toArray, List.set_cons_zero, List.set_cons_succ]) | (refine wpP_skip_run ?_ ?_; (focus rfl); try simp only [Act.put, List.setIfInBounds_toArray, List.set_cons_zero, List.set_cons_succ]) | (refine wpP_take ?_ ?_; (focus rfl); apply Exists.intro; refine ⟨fun w' hw' => ?_, ?_⟩; (focus (have z0 := hw'.cell 8 _ rfl; go_simp; (try rfl); done)); try simp only [Act.put, List.setIfInBounds_toArray, List.set_cons_zero, List.set_cons_succ]))
            refine wpP_run ?_ (fun K hK => ?_); (focus rfl)
            go_simp
            go_at_call 65
            (with_reducible refine (num_some wq rb pb c bs q2a 262144 262144 rfl m2 l3 hS.rd (by omega) HN2.out).mono ?_); rintro e w2 ⟨rfl, hk2, q2b, hr2, hd2b⟩
            try dsimp only
            replace hS := hS.num hk2 hr2
            replace hQ2 := hQ2.trans (KpQ.of_p hk2 hS.rb_out)
            refine hK.out _ _ hS.box ?_
            clear hK K hk2 hr2
            try simp only [Act.put, List.setIfInBounds_toArray, List.set_cons_zero, List.set_cons_succ]
            repeat (first | (refine wpP_skip_take ?_ ?_; (focus rfl); try simp only [Act.put, List.setIfInBounds_toArray, List.set_cons_zero, List.set_cons_succ]) | (refine wpP_skip_run ?_ ?_; (focus rfl); try simp only [Act.put, List.setIfInBounds_toArray, List.set_cons_zero, List.set_cons_succ]) | (refine wpP_take ?_ ?_; (focus rfl); apply Exists.intro; refine ⟨fun w' hw' => ?_, ?_⟩; (focus (have z0 := hw'.cell 8 _ rfl; go_simp; (try rfl); done)); try simp only [Act.put, List.setIfInBounds_toArray, List.set_cons_zero, List.set_cons_succ]))
            refine wpP_run ?_ (fun K hK => ?_); (focus rfl)
            go_simp
            refine name_K (fun w3 hW => ?_)
            have hg3 : Gr w2 w3 := by rw [hW]; exact Gr.alloc _ _
            have hnc : ∀ (j : Nat) (u : Value), [Value.int .i64 (m2 : Int)][j]? = some u → w3.cell? ((⟨w2.heap.size, 0, none⟩ : Addr).add j) = some u := by rw [hW]; exact new_cells w2 [Value.int .i64 (m2 : Int)] _
            replace hS := hS.later hg3
            replace hQ2 := hQ2.trans (KpQ.gr hg3)
            refine hK.out _ _ hS.box ?_
            clear hK K hg3 hW
            try simp only [Act.put, List.setIfInBounds_toArray, List.set_cons_zero, List.set_cons_succ]
            repeat (first | (refine wpP_skip_take ?_ ?_; (focus rfl); try simp only [Act.put, List.setIfInBounds_toArray, List.set_cons_zero, List.set_cons_succ]) | (refine wpP_skip_run ?_ ?_; (focus rfl); try simp only [Act.put, List.setIfInBounds_toArray, List.set_cons_zero, List.set_cons_succ]) | (refine wpP_take ?_ ?_; (focus rfl); apply Exists.intro; refine ⟨fun w' hw' => ?_, ?_⟩; (focus (have z0 := hw'.cell 8 _ rfl; go_simp; (try rfl); done)); try simp only [Act.put, List.setIfInBounds_toArray, List.set_cons_zero, List.set_cons_succ]))
            refine wpP_run ?_ (fun K hK => ?_); (focus rfl)
            refine wp_append_at w3 (.tmp 27) (.tmp 30) 23 rfl B 3 iI (.int .i64 0) 1 8 Tryd.underlying23 hiI hiI0 hiI1 hiI2 rfl (by decide) _ _ _ rfl (hS.row_own (i := 7) rfl) ⟨w2.heap.size, 0, none⟩ 1 1 [Value.int .i64 (m2 : Int)] rfl rfl hnc (fun u hu => by simp at hu; (first | (subst hu; rfl) | (rcases hu with rfl | rfl <;> rfl))) ?c3 ?c4 ?c5 ?_
            case c3 => have := HDL.out; simp; unfold maxLen; omega
            case c4 => have := HDL.out; simp; omega
            case c5 => exact hS.base
            intro v' w4 ho hg hat
            have xb4 := hS.box.grown hg (by simp [tbC]) (fun e => hS.row_ne (i := 7) rfl hS.inX e)
            have hQ4 := hS.kp_grown hQ2 (fun _ h => h) (i := 7) rfl hg
            have hS4 := hS.grow (i := 7) rfl hg ho hat 8 (by omega) (rows_base _ _ [] v' (m2 : Int)) rfl hS.len
            obtain ⟨p4b, c4b, rfl⟩ := (Sl.of_owns ho).len
            refine hK.out _ _ xb4 ?_
            clear hK K hg ho hat hS hQ2 hnc
            try simp only [Act.put, List.setIfInBounds_toArray, List.set_cons_zero, List.set_cons_succ]
            repeat (first | (refine wpP_skip_take ?_ ?_; (focus rfl); try simp only [Act.put, List.setIfInBounds_toArray, List.set_cons_zero, List.set_cons_succ]) | (refine wpP_skip_run ?_ ?_; (focus rfl); try simp only [Act.put, List.setIfInBounds_toArray, List.set_cons_zero, List.set_cons_succ]) | (refine wpP_take ?_ ?_; (focus rfl); apply Exists.intro; refine ⟨fun w' hw' => ?_, ?_⟩; (focus (have z0 := hw'.cell 8 _ rfl; go_simp; (try rfl); done)); try simp only [Act.put, List.setIfInBounds_toArray, List.set_cons_zero, List.set_cons_succ]))
            unfold tbC at xb4
            dsimp only at xb4
            have z4 := xb4.cell 8 _ rfl
            have y4 := xb4.mark 8 _ rfl
            have l4 := xb4.lt (Nat.succ_pos _)
            refine wpP_last ?_ (fun K hK => ?_); (focus rfl)
            go_simp
            refine hK.out _ _ ?_
            clear hK K z4 y4 l4
            try simp only [Act.put, List.setIfInBounds_toArray, List.set_cons_zero, List.set_cons_succ]
            refine wpP_done ?_
            have hQ5 := hQ4.store 8 (.slice p4b ((done.map (fun x : Int × (Int × Int) => x.2.1)).length + 1) c4b) hS4.tlow
            clear hQ4 xb4
            simp only [List.length_map] at hS4 hQ5
            go_wp2_with fail
            refine name_world (fun W5 hW5 => ?_)
            rw [← hW5] at hS4 hQ5
            clear hW5
            have xb := hS4.box
            unfold tbC at xb
            dsimp only at xb
            have hQ := hQ5
            clear hQ5
            have HD2 := Lib.hid hd2b
            clear hd2b
            cases hs3 : numR 600 (bs.drop q2b) with
            | none =>
              have hR0 : R = none := by rw [← HR.out]; exact seq_none1 (by rw [HM.out]; exact many_none (seq_none2 (d_some HN1.out) (seq_none2 (by rw [← HD1.out]; exact i_some HN2.out) (by rw [← HD2.out]; exact d_none hs3))) _ (by omega) _)
              have Z := Lib.hid (NONE.out hR0)
              have HS := Lib.hid hS4
              have HN := Lib.hid hs3
              clear hS4 hR0 hs3
              go_wp2_with fail
              refine wp_region_T (fun cc w' => CombEnd w B rb tb pb c bs k X mo la cu ac cl co st (.panicked cc) w') (fun w' => boxAt w' tb [vm, vl, vc, va, vcl, .int .i64 co, vst, .slice p4a (done.length + 1) c4a, .slice p4b (done.length + 1) c4b, vdf, vne, vch]) (.take 0 (.take 1 (.take 2 (.take 3 (.take 4 (.take 5 (.take 6 (.run 7 false (.take 8 (.run 9 false (.run 10 false (.take 11 (.take 12 (.take 13 (.run 14 true .nil))))))))))))))) (fun cc a w' h1 h2 => ⟨h1, h2⟩) (xb.later (Gr.drew _)) (by kernel_rfl) (by kernel_rfl) ?_
              simp only [pickOps, nthOp]
              intro wq hG hSq
              repeat (first | (refine wpP_skip_take ?_ ?_; (focus rfl); try simp only [Act.put, List.setIfInBounds_toArray, List.set_cons_zero, List.set_cons_succ]) | (refine wpP_skip_run ?_ ?_; (focus rfl); try simp only [Act.put, List.setIfInBounds_toArray, List.set_cons_zero, List.set_cons_succ]) | (refine wpP_take ?_ ?_; (focus rfl); apply Exists.intro; refine ⟨fun w' hw' => ?_, ?_⟩; (focus (have z0 := hw'.cell 9 _ rfl; go_simp; (try rfl); done)); try simp only [Act.put, List.setIfInBounds_toArray, List.set_cons_zero, List.set_cons_succ]))
              refine wpP_run ?_ (fun K hK => ?_); (focus rfl)
              go_simp
              go_at_call 65
              (with_reducible refine (num_none wq rb pb c bs q2b 600 600 rfl (HS.out.rd.later hG) (by omega) HN.out).mono ?_); rintro e w2 ⟨rfl, hk2⟩
              exact ⟨rfl, Z.out w2 (hQ.trans ((KpQ.gr hG).trans (KpQ.of_p hk2 HS.out.rb_out)))⟩
            | some y =>
              obtain ⟨m3, l4⟩ := y
              have hm3 := num_le hs3
              have HN3 := Lib.hid hs3
              obtain ⟨pd, cd, rfl⟩ : ∃ p c, vdf = .slice p done.length c := by
                obtain ⟨p, c, hv⟩ := (Sl.of_owns (hS4.row_own (i := 8) rfl)).len
                exact ⟨p, c, by rw [← List.length_map (fun x : Int × (Int × Int) => x.2.2)]; exact hv⟩
              have HS := Lib.hid hS4
              clear hS4 hs3
              go_wp2_with fail
              have hwr : IntKind.i64.wrap ((m3 : Int) - 1) = (m3 : Int) - 1 := IntWalk.i64_in _ (by omega)
              refine wp_region_T (fun _ _ => False) (fun w' => boxAt w' tb [vm, vl, vc, va, vcl, .int .i64 co, vst, .slice p4a (done.length + 1) c4a, .slice p4b (done.length + 1) c4b, .slice pd done.length cd, vne, vch]) (.take 0 (.take 1 (.take 2 (.take 3 (.take 4 (.take 5 (.take 6 (.run 7 false (.take 8 (.run 9 false (.run 10 false (.take 11 (.take 12 (.take 13 (.run 14 true .nil))))))))))))))) (fun _ _ _ _ h => h.elim) (xb.later (Gr.drew _)) (by kernel_rfl) (by kernel_rfl) ?_
              simp only [pickOps, nthOp]
              intro wq hG hSq
              have hS := HS.out.later hG
              have hQ2 := hQ.trans (KpQ.gr hG)
              clear hG hSq
              repeat (first | (refine wpP_skip_take ?_ ?_; (focus rfl); try simp only [Act.put, List.setIfInBounds_toArray, List.set_cons_zero, List.set_cons_succ]) | (refine wpP_skip_run ?_ ?_; (focus rfl); try simp only [Act.put, List.setIfInBounds_toArray, List.set_cons_zero, List.set_cons_succ]) | (refine wpP_take ?_ ?_; (focus rfl); apply Exists.intro; refine ⟨fun w' hw' => ?_, ?_⟩; (focus (have z0 := hw'.cell 9 _ rfl; go_simp; (try rfl); done)); try simp only [Act.put, List.setIfInBounds_toArray, List.set_cons_zero, List.set_cons_succ]))
              refine wpP_run ?_ (fun K hK => ?_); (focus rfl)
              go_simp
              go_at_call 65
              (with_reducible refine (num_some wq rb pb c bs q2b 600 600 rfl m3 l4 hS.rd (by omega) HN3.out).mono ?_); rintro e w2 ⟨rfl, hk2, q2c, hr2, hd2c⟩
              try dsimp only
              replace hS := hS.num hk2 hr2
              replace hQ2 := hQ2.trans (KpQ.of_p hk2 hS.rb_out)
              refine hK.out _ _ hS.box ?_
              clear hK K hk2 hr2
              try simp only [Act.put, List.setIfInBounds_toArray, List.set_cons_zero, List.set_cons_succ]
              repeat (first | (refine wpP_skip_take ?_ ?_; (focus rfl); try simp only [Act.put, List.setIfInBounds_toArray, List.set_cons_zero, List.set_cons_succ]) | (refine wpP_skip_run ?_ ?_; (focus rfl); try simp only [Act.put, List.setIfInBounds_toArray, List.set_cons_zero, List.set_cons_succ]) | (refine wpP_take ?_ ?_; (focus rfl); apply Exists.intro; refine ⟨fun w' hw' => ?_, ?_⟩; (focus (have z0 := hw'.cell 9 _ rfl; go_simp; (try rfl); done)); try simp only [Act.put, List.setIfInBounds_toArray, List.set_cons_zero, List.set_cons_succ]))
              refine wpP_run ?_ (fun K hK => ?_); (focus rfl)
              go_simp
              refine name_K (fun w3 hW => ?_)
              have hg3 : Gr w2 w3 := by rw [hW]; exact Gr.alloc _ _
              have hnc : ∀ (j : Nat) (u : Value), [Value.int .i64 ((m3 : Int) - 1)][j]? = some u → w3.cell? ((⟨w2.heap.size, 0, none⟩ : Addr).add j) = some u := by rw [hW]; exact new_cells w2 [Value.int .i64 ((m3 : Int) - 1)] _
              replace hS := hS.later hg3
              replace hQ2 := hQ2.trans (KpQ.gr hg3)
              refine hK.out _ _ hS.box ?_
              clear hK K hg3 hW
              try simp only [Act.put, List.setIfInBounds_toArray, List.set_cons_zero, List.set_cons_succ]
              repeat (first | (refine wpP_skip_take ?_ ?_; (focus rfl); try simp only [Act.put, List.setIfInBounds_toArray, List.set_cons_zero, List.set_cons_succ]) | (refine wpP_skip_run ?_ ?_; (focus rfl); try simp only [Act.put, List.setIfInBounds_toArray, List.set_cons_zero, List.set_cons_succ]) | (refine wpP_take ?_ ?_; (focus rfl); apply Exists.intro; refine ⟨fun w' hw' => ?_, ?_⟩; (focus (have z0 := hw'.cell 9 _ rfl; go_simp; (try rfl); done)); try simp only [Act.put, List.setIfInBounds_toArray, List.set_cons_zero, List.set_cons_succ]))
              refine wpP_run ?_ (fun K hK => ?_); (focus rfl)
              refine wp_append_at w3 (.tmp 40) (.tmp 44) 23 rfl B 3 iI (.int .i64 0) 1 8 Tryd.underlying23 hiI hiI0 hiI1 hiI2 rfl (by decide) _ _ _ rfl (hS.row_own (i := 8) rfl) ⟨w2.heap.size, 0, none⟩ 1 1 [Value.int .i64 ((m3 : Int) - 1)] rfl rfl hnc (fun u hu => by simp at hu; (first | (subst hu; rfl) | (rcases hu with rfl | rfl <;> rfl))) ?c3 ?c4 ?c5 ?_
              case c3 => have := HDL.out; simp; unfold maxLen; omega
              case c4 => have := HDL.out; simp; omega
              case c5 => exact hS.base
              intro v' w4 ho hg hat
              have xb4 := hS.box.grown hg (by simp [tbC]) (fun e => hS.row_ne (i := 8) rfl hS.inX e)
              have hQ4 := hS.kp_grown hQ2 (fun _ h => h) (i := 8) rfl hg
              have hS4 := hS.grow (i := 8) rfl hg ho hat 9 (by omega) (rows_dflt _ _ [] v' ((m3 : Int) - 1)) rfl hS.len
              obtain ⟨p4c, c4c, rfl⟩ := (Sl.of_owns ho).len
              refine hK.out _ _ xb4 ?_
              clear hK K hg ho hat hS hQ2 hnc
              try simp only [Act.put, List.setIfInBounds_toArray, List.set_cons_zero, List.set_cons_succ]
              repeat (first | (refine wpP_skip_take ?_ ?_; (focus rfl); try simp only [Act.put, List.setIfInBounds_toArray, List.set_cons_zero, List.set_cons_succ]) | (refine wpP_skip_run ?_ ?_; (focus rfl); try simp only [Act.put, List.setIfInBounds_toArray, List.set_cons_zero, List.set_cons_succ]) | (refine wpP_take ?_ ?_; (focus rfl); apply Exists.intro; refine ⟨fun w' hw' => ?_, ?_⟩; (focus (have z0 := hw'.cell 9 _ rfl; go_simp; (try rfl); done)); try simp only [Act.put, List.setIfInBounds_toArray, List.set_cons_zero, List.set_cons_succ]))
              unfold tbC at xb4
              dsimp only at xb4
              have z4 := xb4.cell 9 _ rfl
              have y4 := xb4.mark 9 _ rfl
              have l4 := xb4.lt (Nat.succ_pos _)
              refine wpP_last ?_ (fun K hK => ?_); (focus rfl)
              go_simp
              refine hK.out _ _ ?_
              clear hK K z4 y4 l4
              try simp only [Act.put, List.setIfInBounds_toArray, List.set_cons_zero, List.set_cons_succ]
              refine wpP_done ?_
              have hQ5 := hQ4.store 9 (.slice p4c ((done.map (fun x : Int × (Int × Int) => x.2.2)).length + 1) c4c) hS4.tlow
              clear hQ4 xb4
              simp only [List.length_map] at hS4 hQ5
              clear hwr
              go_wp2_with fail
              go_roundw
              case rel => exact ⟨j + 1, done ++ [((m1 : Int) - 1, ((m2 : Int), (m3 : Int) - 1))], _, q2c, by go_num, by omega, by rw [List.length_append, HDL.out]; rfl, by simpa using hS4, hQ5, Lib.hid (by
                rw [HM.out, many_some (f := stateR) (seq_some (d_some HN1.out) (seq_some (by rw [← HD1.out]; exact i_some HN2.out) (by rw [← HD2.out]; exact d_some HN3.out))) _ (by omega), hd2c]; rfl)⟩
              case measure => simp [intOf]; omega
      · have hjn2 : n = j := by omega
        subst hjn2
        have HS1 := Lib.hid (show listR 600 stateR (bs.drop k) = some (done, bs.drop q) by rw [HM.out, Nat.sub_self]; exact many_end _ _ _)
        have hn600 := hn6
        obtain ⟨ss, hss⟩ : ∃ ss, done = ss := ⟨_, rfl⟩
        subst hss
        go_wp2_with fail
        cases hs4 : numR 262144 (bs.drop q) with
        | none =>
          have hR0 : R = none := by rw [← HR.out]; exact seq_none2 HS1.out (list_none hs4)
          go_at_call 65
          (with_reducible refine (num_none _ rb pb c bs q 262144 262144 rfl hS.rd (by omega) hs4).mono ?_); rintro e w2 ⟨rfl, hk2⟩
          have Z := Lib.hid (NONE.out hR0 w2 (hQ.trans (KpQ.of_p hk2 hS.rb_out)))
          unfold refusalV at Z ⊢
          clear hR0 hs4 hS xb hQ
          go_wp2_with fail
          exact ⟨rfl, Z.out⟩
        | some y =>
          obtain ⟨n2, l5⟩ := y
          have hn2 := num_le hs4
          go_at_call 65
          (with_reducible refine (num_some _ rb pb c bs q 262144 262144 rfl n2 l5 hS.rd (by omega) hs4).mono ?_); rintro e w2 ⟨rfl, hk2, k2, hr2, hd2⟩
          have hS2 := hS.num hk2 hr2
          have hQ2 := hQ.trans (KpQ.of_p hk2 hS.rb_out)
          have HL2 := Lib.hid (list_some (f := slotR) hs4)
          have HDS := Lib.hid hdl
          clear hS hQ xb hs4 hk2 hr2 HM hdl
          generalize hss : done = ss at *
          clear hss
          go_wp2_with fail
          go_loopw [4, 5, 52] (fun _ _ i wr => ∃ (j : Nat) (done : List (Int × Int)) (v : TbV) (q2 : Nat), i = .int .i64 (j : Int) ∧ j ≤ n2 ∧ done.length = j ∧ Rst wr B rb tb pb c bs q2 X ⟨mo, la, cu, ac, cl, co, st, ss.map (·.1), ss.map (·.2.1), ss.map (·.2.2), done.map (·.2), done.map (·.1)⟩ v [] ∧ KpQ B rb X tb w wr ∧ Hid (listR 262144 slotR (bs.drop q) = appD done (manyR slotR (n2 - j) (bs.drop q2)))) (fun _ _ i _ => n2 - (intOf i).toNat)
          case atStart => exact ⟨0, [], _, k2, rfl, Nat.zero_le _, rfl, hS2, hQ2, Lib.hid (by rw [HL2.out, appD_nil, hd2]; rfl)⟩
          case round =>
            obtain ⟨j, done, v, q2, rfl, hj, hdl, hS, hQ, HM⟩ := hrel
            obtain ⟨vm, vl, vc, va, vrows, vcl, vst, vlb, vba, vdf, vne, vch⟩ := v
            have HDL := Lib.hid hdl
            clear hdl
            by_cases hjn : j < n2
            · have hjI : (j : Int) < (n2 : Int) := by omega
              cases hs5 : numR 600 (bs.drop q2) with
              | none =>
                have hR0 : R = none := by rw [← HR.out]; exact seq_none2 HS1.out (by rw [HM.out]; exact many_none (seq_none1 (d_none hs5)) _ (by omega) _)
                go_wp2_with fail
                go_at_call 65
                (with_reducible refine (num_none _ rb pb c bs q2 600 600 rfl hS.rd (by omega) hs5).mono ?_); rintro e w2 ⟨rfl, hk2⟩
                have Z := Lib.hid (NONE.out hR0 w2 (hQ.trans (KpQ.of_p hk2 hS.rb_out)))
                unfold refusalV at Z ⊢
                clear hR0 hs5 hS hQ
                go_wp2_with fail
                exact ⟨rfl, Z.out⟩
              | some y =>
                obtain ⟨m, l6⟩ := y
                have hm := num_le hs5
                go_wp2_with fail
                go_at_call 65
                (with_reducible refine (num_some _ rb pb c bs q2 600 600 rfl m l6 hS.rd (by omega) hs5).mono ?_); rintro e w2 ⟨rfl, hk2, q3, hr2, hd3⟩
                replace hQ := hQ.trans (KpQ.of_p hk2 hS.rb_out)
                replace hS := hS.num hk2 hr2
                have HN5 := Lib.hid hs5
                have HD3 := Lib.hid hd3
                clear hs5 hk2 hr2 hd3
                rcases Nat.eq_zero_or_pos m with hm0 | hm0
                · subst hm0
                  have xb := hS.box
                  unfold tbC at xb
                  dsimp only at xb
                  obtain ⟨pk, ck, rfl⟩ : ∃ p c, vch = .slice p done.length c := by
                    obtain ⟨p, c, hv⟩ := (Sl.of_owns (hS.row_own (i := 10) rfl)).len
                    exact ⟨p, c, by rw [← List.length_map (fun x : Int × Int => x.1)]; exact hv⟩
                  obtain ⟨pn, cn, rfl⟩ : ∃ p c, vne = .slice p done.length c := by
                    obtain ⟨p, c, hv⟩ := (Sl.of_owns (hS.row_own (i := 9) rfl)).len
                    exact ⟨p, c, by rw [← List.length_map (fun x : Int × Int => x.2)]; exact hv⟩
                  have z11 := xb.cell 11 _ rfl
                  have y11 := xb.mark 11 _ rfl
                  have z10 := xb.cell 10 _ rfl
                  have lb := xb.lt (Nat.succ_pos _)
                  have HS := Lib.hid hS
                  have HQ := Lib.hid hQ
                  clear hS hQ xb
                  go_wp2_with (at_builtin; refine wpList_append_own_at _ rfl (.tmp 67) (.tmp 69) 23 rfl B 3 iI (.int .i64 0) 1 8 Tryd.underlying23 hiI hiI0 hiI1 hiI2 rfl (by decide) _ _ _ rfl ((HS.out.later (Gr.alloc _ _)).row_own (i := 10) rfl) ⟨w2.heap.size, 0, none⟩ 1 1 [.int .i64 (-1)] rfl rfl ?c1 ?c2 ?c3 ?c4 ?c5 ?_)
                  case c1 => exact new_cells _ [.int .i64 (-1)] _
                  case c2 => first | rfl | (intro u hu; simp at hu; subst hu; rfl)
                  case c3 => have := HDL.out; simp; unfold maxLen; omega
                  case c4 => have := HDL.out; simp; omega
                  case c5 => exact (HS.out.later (Gr.alloc _ _)).base
                  intro v' w4a ho hg _ hat
                  replace ho : w4a.ownsRow B 3 1 v' ((done.map (fun x : Int × Int => x.1)).length + 1) (List.map vI (done.map (fun x : Int × Int => x.1)) ++ [.int .i64 (-1)]) := by simpa using ho
                  have hSa := HS.out.later (Gr.alloc _ (.cells #[.int .i64 (-1)] 3))
                  have hQa := hSa.kp_grown (HQ.out.trans (KpQ.gr (Gr.alloc _ (.cells #[.int .i64 (-1)] 3)))) (fun _ h => h) (i := 10) rfl hg
                  have xb4 := hSa.box.grown hg (by simp [tbC]) (fun e => hSa.row_ne (i := 10) rfl hSa.inX e)
                  have hS4a := hSa.grow (i := 10) rfl hg ho (hat.imp id (fun h => h.trans (by simp))) 11 (by omega) (rows_check _ _ [] v' (-1)) rfl hSa.len
                  obtain ⟨p4a, c4a, rfl⟩ := (Sl.of_owns ho).len
                  have hQ4a := hQa.store 11 (.slice p4a ((done.map (fun x : Int × Int => x.1)).length + 1) c4a) hSa.tlow
                  clear ho hg hat hSa hQa
                  unfold tbC at xb4
                  dsimp only at xb4
                  have z4a := xb4.cell 11 _ rfl
                  have y4a := xb4.mark 11 _ rfl
                  have l4a := xb4.lt (Nat.succ_pos _)
                  simp only [List.length_map] at hS4a hQ4a
                  clear z11 y11 z10
                  have z10a := xb4.cell 10 _ rfl
                  clear xb4
                  have HSa := Lib.hid hS4a
                  have HQa := Lib.hid hQ4a
                  clear hS4a hQ4a
                  go_wp2_with (at_builtin; refine wpList_append_own_at _ rfl (.tmp 79) (.tmp 81) 23 rfl B 3 iI (.int .i64 0) 1 8 Tryd.underlying23 hiI hiI0 hiI1 hiI2 rfl (by decide) _ _ _ rfl ((HSa.out.later (Gr.alloc _ _)).row_own (i := 9) rfl) ⟨w4a.heap.size, 0, none⟩ 1 1 [.int .i64 (-1)] rfl rfl ?c1 ?c2 ?c3 ?c4 ?c5 ?_)
                  case c1 => have hnc := new_cells (w4a.setCell ⟨tb, 11, none⟩ (.slice p4a (done.length + 1) c4a)) [.int .i64 (-1)] 3; rw [show (w4a.setCell ⟨tb, 11, none⟩ (.slice p4a (done.length + 1) c4a)).heap.size = w4a.heap.size by simp [World.setCell]] at hnc; exact hnc
                  case c2 => first | rfl | (intro u hu; simp at hu; subst hu; rfl)
                  case c3 => have := HDL.out; simp; unfold maxLen; omega
                  case c4 => have := HDL.out; simp; omega
                  case c5 => exact (HSa.out.later (Gr.alloc _ _)).base
                  intro v' w4b ho hg _ hat
                  replace ho : w4b.ownsRow B 3 1 v' ((done.map (fun x : Int × Int => x.2)).length + 1) (List.map vI (done.map (fun x : Int × Int => x.2)) ++ [.int .i64 (-1)]) := by simpa using ho
                  have hSa := HSa.out.later (Gr.alloc _ (.cells #[.int .i64 (-1)] 3))
                  have hQa := hSa.kp_grown (HQa.out.trans (KpQ.gr (Gr.alloc _ (.cells #[.int .i64 (-1)] 3)))) (fun _ h => h) (i := 9) rfl hg
                  have xb4 := hSa.box.grown hg (by simp [tbC]) (fun e => hSa.row_ne (i := 9) rfl hSa.inX e)
                  have hS4b := hSa.grow (i := 9) rfl hg ho (hat.imp id (fun h => h.trans (by simp))) 10 (by omega) (rows_next _ _ [] v' (-1)) rfl hSa.len
                  obtain ⟨p4b, c4b, rfl⟩ := (Sl.of_owns ho).len
                  have hQ4b := hQa.store 10 (.slice p4b ((done.map (fun x : Int × Int => x.2)).length + 1) c4b) hSa.tlow
                  clear ho hg hat hSa hQa
                  unfold tbC at xb4
                  dsimp only at xb4
                  have z4b := xb4.cell 10 _ rfl
                  have y4b := xb4.mark 10 _ rfl
                  have l4b := xb4.lt (Nat.succ_pos _)
                  simp only [List.length_map] at hS4b hQ4b
                  clear z4a y4a z10a xb4
                  go_wp2_with fail
                  go_roundw
                  case rel => exact ⟨j + 1, done ++ [(-1, -1)], _, q3, by go_num, by omega, by rw [List.length_append, HDL.out]; rfl, by simpa using hS4b, hQ4b, Lib.hid (by
                    rw [HM.out, many_some (f := slotR) (seq_some (d_some HN5.out) (b := -1) (by unfold nextR; rw [if_neg (by omega)])) _ (by omega), HD3.out]; rfl)⟩
                  case measure => simp [intOf]; omega
                · have hm1 : (1 : Int) ≤ (m : Int) := by omega
                  have hm2 : (0 : Int) ≤ (m : Int) - 1 := by omega
                  cases hs6 : numR 600 (bs.drop q3) with
                  | none =>
                    have hR0 : R = none := by rw [← HR.out]; exact seq_none2 HS1.out (by rw [HM.out]; exact many_none (seq_none2 (d_some HN5.out) (by unfold nextR; rw [if_pos hm2, ← HD3.out]; exact d_none hs6)) _ (by omega) _)
                    go_wp2_with fail
                    go_at_call 65
                    (with_reducible refine (num_none _ rb pb c bs q3 600 600 rfl hS.rd (by omega) hs6).mono ?_); rintro e w3 ⟨rfl, hk3⟩
                    have Z := Lib.hid (NONE.out hR0 w3 (hQ.trans (KpQ.of_p hk3 hS.rb_out)))
                    unfold refusalV at Z ⊢
                    clear hR0 hs6 hS hQ
                    go_wp2_with fail
                    exact ⟨rfl, Z.out⟩
                  | some y =>
                    obtain ⟨m2, l7⟩ := y
                    have hm2 := num_le hs6
                    go_wp2_with fail
                    go_at_call 65
                    (with_reducible refine (num_some _ rb pb c bs q3 600 600 rfl m2 l7 hS.rd (by omega) hs6).mono ?_); rintro e w3 ⟨rfl, hk3, q4, hr3, hd4⟩
                    replace hQ := hQ.trans (KpQ.of_p hk3 hS.rb_out)
                    replace hS := hS.num hk3 hr3
                    have HN6 := Lib.hid hs6
                    have HD4 := Lib.hid hd4
                    clear hs6 hk3 hr3 hd4
                    have xb := hS.box
                    unfold tbC at xb
                    dsimp only at xb
                    obtain ⟨pk, ck, rfl⟩ : ∃ p c, vch = .slice p done.length c := by
                      obtain ⟨p, c, hv⟩ := (Sl.of_owns (hS.row_own (i := 10) rfl)).len
                      exact ⟨p, c, by rw [← List.length_map (fun x : Int × Int => x.1)]; exact hv⟩
                    obtain ⟨pn, cn, rfl⟩ : ∃ p c, vne = .slice p done.length c := by
                      obtain ⟨p, c, hv⟩ := (Sl.of_owns (hS.row_own (i := 9) rfl)).len
                      exact ⟨p, c, by rw [← List.length_map (fun x : Int × Int => x.2)]; exact hv⟩
                    have z11 := xb.cell 11 _ rfl
                    have y11 := xb.mark 11 _ rfl
                    have z10 := xb.cell 10 _ rfl
                    have lb := xb.lt (Nat.succ_pos _)
                    have HS := Lib.hid hS
                    have HQ := Lib.hid hQ
                    clear hS hQ xb
                    go_wp2_with (at_builtin; refine wpList_append_own_at _ rfl (.tmp 67) (.tmp 69) 23 rfl B 3 iI (.int .i64 0) 1 8 Tryd.underlying23 hiI hiI0 hiI1 hiI2 rfl (by decide) _ _ _ rfl ((HS.out.later (Gr.alloc _ _)).row_own (i := 10) rfl) ⟨w3.heap.size, 0, none⟩ 1 1 [.int .i64 ((m : Int) - 1)] rfl rfl ?c1 ?c2 ?c3 ?c4 ?c5 ?_)
                    case c1 => exact new_cells _ [.int .i64 ((m : Int) - 1)] _
                    case c2 => first | rfl | (intro u hu; simp at hu; subst hu; rfl)
                    case c3 => have := HDL.out; simp; unfold maxLen; omega
                    case c4 => have := HDL.out; simp; omega
                    case c5 => exact (HS.out.later (Gr.alloc _ _)).base
                    intro v' w4a ho hg _ hat
                    replace ho : w4a.ownsRow B 3 1 v' ((done.map (fun x : Int × Int => x.1)).length + 1) (List.map vI (done.map (fun x : Int × Int => x.1)) ++ [.int .i64 ((m : Int) - 1)]) := by simpa using ho
                    have hSa := HS.out.later (Gr.alloc _ (.cells #[.int .i64 ((m : Int) - 1)] 3))
                    have hQa := hSa.kp_grown (HQ.out.trans (KpQ.gr (Gr.alloc _ (.cells #[.int .i64 ((m : Int) - 1)] 3)))) (fun _ h => h) (i := 10) rfl hg
                    have xb4 := hSa.box.grown hg (by simp [tbC]) (fun e => hSa.row_ne (i := 10) rfl hSa.inX e)
                    have hS4a := hSa.grow (i := 10) rfl hg ho (hat.imp id (fun h => h.trans (by simp))) 11 (by omega) (rows_check _ _ [] v' ((m : Int) - 1)) rfl hSa.len
                    obtain ⟨p4a, c4a, rfl⟩ := (Sl.of_owns ho).len
                    have hQ4a := hQa.store 11 (.slice p4a ((done.map (fun x : Int × Int => x.1)).length + 1) c4a) hSa.tlow
                    clear ho hg hat hSa hQa
                    unfold tbC at xb4
                    dsimp only at xb4
                    have z4a := xb4.cell 11 _ rfl
                    have y4a := xb4.mark 11 _ rfl
                    have l4a := xb4.lt (Nat.succ_pos _)
                    simp only [List.length_map] at hS4a hQ4a
                    clear z11 y11 z10
                    have z10a := xb4.cell 10 _ rfl
                    clear xb4
                    have HSa := Lib.hid hS4a
                    have HQa := Lib.hid hQ4a
                    clear hS4a hQ4a
                    go_wp2_with (at_builtin; refine wpList_append_own_at _ rfl (.tmp 79) (.tmp 81) 23 rfl B 3 iI (.int .i64 0) 1 8 Tryd.underlying23 hiI hiI0 hiI1 hiI2 rfl (by decide) _ _ _ rfl ((HSa.out.later (Gr.alloc _ _)).row_own (i := 9) rfl) ⟨w4a.heap.size, 0, none⟩ 1 1 [.int .i64 ((m2 : Int) - 1)] rfl rfl ?c1 ?c2 ?c3 ?c4 ?c5 ?_)
                    case c1 => have hnc := new_cells (w4a.setCell ⟨tb, 11, none⟩ (.slice p4a (done.length + 1) c4a)) [.int .i64 ((m2 : Int) - 1)] 3; rw [show (w4a.setCell ⟨tb, 11, none⟩ (.slice p4a (done.length + 1) c4a)).heap.size = w4a.heap.size by simp [World.setCell]] at hnc; exact hnc
                    case c2 => first | rfl | (intro u hu; simp at hu; subst hu; rfl)
                    case c3 => have := HDL.out; simp; unfold maxLen; omega
                    case c4 => have := HDL.out; simp; omega
                    case c5 => exact (HSa.out.later (Gr.alloc _ _)).base
                    intro v' w4b ho hg _ hat
                    replace ho : w4b.ownsRow B 3 1 v' ((done.map (fun x : Int × Int => x.2)).length + 1) (List.map vI (done.map (fun x : Int × Int => x.2)) ++ [.int .i64 ((m2 : Int) - 1)]) := by simpa using ho
                    have hSa := HSa.out.later (Gr.alloc _ (.cells #[.int .i64 ((m2 : Int) - 1)] 3))
                    have hQa := hSa.kp_grown (HQa.out.trans (KpQ.gr (Gr.alloc _ (.cells #[.int .i64 ((m2 : Int) - 1)] 3)))) (fun _ h => h) (i := 9) rfl hg
                    have xb4 := hSa.box.grown hg (by simp [tbC]) (fun e => hSa.row_ne (i := 9) rfl hSa.inX e)
                    have hS4b := hSa.grow (i := 9) rfl hg ho (hat.imp id (fun h => h.trans (by simp))) 10 (by omega) (rows_next _ _ [] v' ((m2 : Int) - 1)) rfl hSa.len
                    obtain ⟨p4b, c4b, rfl⟩ := (Sl.of_owns ho).len
                    have hQ4b := hQa.store 10 (.slice p4b ((done.map (fun x : Int × Int => x.2)).length + 1) c4b) hSa.tlow
                    clear ho hg hat hSa hQa
                    unfold tbC at xb4
                    dsimp only at xb4
                    have z4b := xb4.cell 10 _ rfl
                    have y4b := xb4.mark 10 _ rfl
                    have l4b := xb4.lt (Nat.succ_pos _)
                    simp only [List.length_map] at hS4b hQ4b
                    clear z4a y4a z10a xb4
                    go_wp2_with fail
                    go_roundw
                    case rel => exact ⟨j + 1, done ++ [((m : Int) - 1, (m2 : Int) - 1)], _, q4, by go_num, by omega, by rw [List.length_append, HDL.out]; rfl, by simpa using hS4b, hQ4b, Lib.hid (by
                      rw [HM.out, many_some (f := slotR) (seq_some (d_some HN5.out) (b := (m2 : Int) - 1) (r2 := l7) (by unfold nextR; rw [if_pos (by omega), ← HD3.out]; exact d_some HN6.out)) _ (by omega), HD4.out]; rfl)⟩
                    case measure => simp [intOf]; omega
            · have hjn2 : n2 = j := by omega
              subst hjn2
              have HS2 := Lib.hid (show listR 262144 slotR (bs.drop q) = some (done, bs.drop q2) by rw [HM.out, Nat.sub_self]; exact many_end _ _ _)
              have Z := Lib.hid (show CombEnd w B rb tb pb c bs k X mo la cu ac cl co st (.returned (.tuple #[])) wr from ⟨hQ, by
                rw [seq_some HS1.out HS2.out]; exact ⟨rfl, _, q2, hS, rfl⟩⟩)
              clear hS hQ
              go_wp2_with fail
              go_end0
              exact Z.out

end Go.Proofs.YtcbfmajojkcibaaDoor
