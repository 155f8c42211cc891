/- image: the reader's tables. No condition. -/
import Derived.Test.YtcbfmajojkcibaaDoorPImgL
namespace Go.Proofs.YtcbfmajojkcibaaDoor
open Go Go.RowKit

/-- Tables that have been read lie in rows of the call's own. -/
structure TbO (w : World) (B : Nat) (t : Tb) (v : TbV) : Prop where
  rows : Rws w B [] (rowsOf t v)
  len : v.rows.length = t.acts.length
def TabEnd (w : World) (rb : Nat) (pb : Option Addr) (c : Nat) (bs : List UInt8) (k : Nat) (e : Ending) (w' : World) : Prop := KpP rb w w' ∧ match rcR 2 3 255 (bs.drop k) with
  | some (x, r) => ∃ v, e = .returned (tbV (tbOf x) v) ∧ TbO w' w.heap.size (tbOf x) v ∧ ∃ k', RdI w' rb pb c bs k' ∧ bs.drop k' = r
  | none => e = .panicked [{ v := refusalV, recovered := false }]

set_option maxRecDepth 100000 in
set_option maxHeartbeats 4000000 in
theorem tables_any (w : World) (rb : Nat) (pb : Option Addr) (c : Nat) (bs : List UInt8) (k : Nat) (h : RdI w rb pb c bs k) (hrb : rb < w.heap.size) (hpb : ∀ b off, pb = some ⟨b, off, none⟩ → b < w.heap.size) :
    Calls Tryd.prog 54 #[.pointer (some ⟨rb, 0, none⟩)] w (TabEnd w rb pb c bs k) := by
  have H := Lib.hid h
  have HP := Lib.hid hpb
  obtain ⟨R, hR⟩ : ∃ R, rcR 2 3 255 (bs.drop k) = R := ⟨_, rfl⟩
  have HR := Lib.hid hR
  clear h hR hpb
  have NONE := Lib.hid (fun (hn : R = none) (w' : World) (hk : KpP rb w w') => (show TabEnd w rb pb c bs k (.panicked [{ v := refusalV, recovered := false }]) w' from ⟨hk, by rw [HR.out, hn]⟩))
  go_enter Tryd.func54, Tryd.ntmps54
  go_wp2_with fail
  refine name_calls (fun W0 hW0 => ?_)
  have hG0 : Gr w W0 := by rw [hW0]; exact (Gr.alloc _ _).trans (Gr.alloc _ _)
  generalize htb : w.heap.size + 1 = tb
  have hS : Rst W0 w.heap.size rb tb pb c bs k [tb, w.heap.size] ⟨[], [], [], [], [], 0, [], [], [], [], [], []⟩ ⟨.slice none 0 0, .slice none 0 0, .slice none 0 0, .slice none 0 0, [], .slice none 0 0, .slice none 0 0, .slice none 0 0, .slice none 0 0, .slice none 0 0, .slice none 0 0, .slice none 0 0⟩ [] := by
    refine ⟨H.out.later hG0, ?_, ⟨fun r hr => ?_, ?_, fun r hr g hg => ?_⟩, rfl, by simp, fun x hx => ?_, hrb, HP.out⟩
    · rw [hW0, ← htb, show w.heap.size + 1 = (w.alloc (.cells #[.slice none 0 0, .slice none 0 0, .slice none 0 0, .slice none 0 0, .slice none 0 0, .int .i64 0, .slice none 0 0, .slice none 0 0, .slice none 0 0, .slice none 0 0, .slice none 0 0, .slice none 0 0] 30)).heap.size by simp]
      exact boxAt.new _ _ rfl
    · simp only [rowsOf, actRows, List.append_nil, List.mem_cons, List.not_mem_nil, or_false] at hr
      rcases hr with rfl | rfl | rfl | rfl | rfl | rfl | rfl | rfl | rfl | rfl | rfl <;> exact World.ownsRow_nil ..
    · simp [rowsOf, actRows, Value.ownBlock]
    · simp only [rowsOf, actRows, List.append_nil, List.mem_cons, List.not_mem_nil, or_false] at hr
      rcases hr with rfl | rfl | rfl | rfl | rfl | rfl | rfl | rfl | rfl | rfl | rfl <;> cases hg
    · rw [hW0]
      simp only [List.mem_cons, List.not_mem_nil, or_false] at hx
      rcases hx with rfl | rfl <;> (simp; try omega)
  have xr2 : boxAt W0 w.heap.size [.slice none 0 0, .slice none 0 0, .slice none 0 0, .slice none 0 0, .slice none 0 0, .int .i64 0, .slice none 0 0, .slice none 0 0, .slice none 0 0, .slice none 0 0, .slice none 0 0, .slice none 0 0] := by
    rw [hW0]; exact (boxAt.new _ _ rfl).later (Gr.alloc _ _)
  have htb2 : tb ≠ w.heap.size := by omega
  have HTB := Lib.hid htb
  clear htb
  cases hn1 : numR 16 (bs.drop k) with
  | none =>
    have hR0 : R = none := by rw [← HR.out]; exact rc_none (seq_none1 (list_none hn1))
    go_at_call 65
    (with_reducible refine (num_none W0 rb pb c bs k 16 16 rfl hS.rd (by omega) hn1).mono ?_); rintro e w1 ⟨rfl, hk1⟩
    have Z := Lib.hid (NONE.out hR0 w1 ((KpP.gr hG0).trans hk1))
    unfold refusalV at Z ⊢
    clear hR0 hn1 hS xr2
    go_wp2_with fail
    exact ⟨rfl, Z.out⟩
  | some y =>
    obtain ⟨n, l1⟩ := y
    go_at_call 65
    (with_reducible refine (num_some W0 rb pb c bs k 16 16 rfl n l1 hS.rd (by omega) hn1).mono ?_); rintro e w1 ⟨rfl, hk1, k1, hr1, hd1⟩
    have hS1 := hS.num hk1 hr1
    have hQ1 : KpQ w.heap.size rb [tb, w.heap.size] tb W0 w1 := KpQ.of_p hk1 hS.rb_out
    have hn16 := num_le hn1
    have HL1 := Lib.hid (list_some (f := modeR) hn1)
    have HXR := Lib.hid xr2
    clear hS hr1 xr2 hn1 hk1
    obtain ⟨iS, hiS, hiS0, hiS1, hiS2⟩ := info_parts info_string
    obtain ⟨iI, hiI, hiI0, hiI1, hiI2⟩ := info_parts info_int
    go_wp2_with fail
    go_loopw [6] (fun i wr => ∃ (j : Nat) (done : List (List UInt8 × Int)) (v : TbV) (q : Nat), i = .int .i64 (j : Int) ∧ j ≤ n ∧ done.length = j ∧ Rst wr w.heap.size rb tb pb c bs q [tb, w.heap.size] ⟨done.map (·.1), [], [], [], [], 0, done.map (·.2), [], [], [], [], []⟩ v [] ∧ KpQ w.heap.size rb [tb, w.heap.size] tb W0 wr ∧ Hid (listR 16 modeR (bs.drop k) = appD done (manyR modeR (n - j) (bs.drop q)))) (fun i _ => n - (intOf i).toNat)
    case atStart => exact ⟨0, [], _, k1, rfl, Nat.zero_le _, rfl, hS1, hQ1, Lib.hid (by rw [HL1.out, appD_nil, hd1]; rfl)⟩
    case round =>
      obtain ⟨j, done, v, q, rfl, hj, hdl, hS, hQ, HM⟩ := hrel
      obtain ⟨vm, vl, vc, va, vrows, vcl, vst, vlb, vba, vdf, vne, vch⟩ := v
      have xb := hS.box
      unfold tbC at xb
      dsimp only at xb
      by_cases hjn : j < n
      · have hjI : (j : Int) < (n : Int) := by omega
        cases hs : txR (bs.drop q) with
        | none =>
          have hR0 : R = none := by rw [← HR.out]; exact rc_none (seq_none1 (by rw [HM.out]; exact many_none (seq_none1 hs) _ (by omega) _))
          have Z := Lib.hid (NONE.out hR0)
          have HS := Lib.hid hS
          have HDL := Lib.hid hdl
          have HTX := Lib.hid hs
          clear hS hdl hR0 hs
          go_wp2_with fail
          refine wp_region_T (fun cc w' => TabEnd w rb pb c bs k (.panicked cc) w') (fun w' => boxAt w' tb [vm, vl, vc, va, vcl, .int .i64 0, vst, vlb, vba, vdf, vne, vch]) (.take 0 (.take 1 (.take 2 (.run 3 false (.run 4 false (.run 5 false (.take 6 (.run 7 true .nil)))))))) (fun cc a w' h1 h2 => ⟨h1, h2⟩) (xb.later (Gr.drew _)) (by kernel_rfl) (by kernel_rfl) ?_
          simp only [pickOps, nthOp]
          intro wq hG hSq
          repeat (first | (refine wpP_skip_take ?_ ?_; (focus rfl); try simp only [Act.put, List.setIfInBounds_toArray, List.set_cons_zero, List.set_cons_succ]) | (refine wpP_skip_run ?_ ?_; (focus rfl); try simp only [Act.put, List.setIfInBounds_toArray, List.set_cons_zero, List.set_cons_succ]) | (refine wpP_take ?_ ?_; (focus rfl); apply Exists.intro; refine ⟨fun w' hw' => ?_, ?_⟩; (focus (have z0 := hw'.cell 0 _ rfl; go_simp; (try rfl); done)); try simp only [Act.put, List.setIfInBounds_toArray, List.set_cons_zero, List.set_cons_succ]))
          refine wpP_run ?_ (fun K hK => ?_); (focus rfl)
          go_simp
          go_at_call 66
          (with_reducible refine (text_none wq rb pb c bs q (HS.out.rd.later hG) HTX.out).mono ?_); rintro e w2 ⟨rfl, hk2⟩
          exact ⟨rfl, Z.out w2 (((hQ.trans (KpQ.gr hG)).toP0 hG0).trans hk2)⟩
        | some y =>
          obtain ⟨s, l2⟩ := y
          have hsl := tx_len hs
          have HDL := Lib.hid hdl
          have HTX := Lib.hid hs
          obtain ⟨pm, cm, rfl⟩ : ∃ p c, vm = .slice p done.length c := by
            obtain ⟨p, c, hv⟩ := (Sl.of_owns (hS.row_own (i := 0) rfl)).len
            exact ⟨p, c, by rw [← List.length_map (fun x : List UInt8 × Int => x.1)]; exact hv⟩
          have HS := Lib.hid hS
          clear hS hdl hs
          go_wp2_with fail
          refine wp_region_T (fun _ _ => False) (fun w' => boxAt w' tb [.slice pm done.length cm, vl, vc, va, vcl, .int .i64 0, vst, vlb, vba, vdf, vne, vch]) (.take 0 (.take 1 (.take 2 (.run 3 false (.run 4 false (.run 5 false (.take 6 (.run 7 true .nil)))))))) (fun _ _ _ _ h => h.elim) (xb.later (Gr.drew _)) (by kernel_rfl) (by kernel_rfl) ?_
          simp only [pickOps, nthOp]
          intro wq hG hSq
          have hS := HS.out.later hG
          have hQ2 := hQ.trans (KpQ.gr hG)
          clear hG hSq
          repeat (first | (refine wpP_skip_take ?_ ?_; (focus rfl); try simp only [Act.put, List.setIfInBounds_toArray, List.set_cons_zero, List.set_cons_succ]) | (refine wpP_skip_run ?_ ?_; (focus rfl); try simp only [Act.put, List.setIfInBounds_toArray, List.set_cons_zero, List.set_cons_succ]) | (refine wpP_take ?_ ?_; (focus rfl); apply Exists.intro; refine ⟨fun w' hw' => ?_, ?_⟩; (focus (have z0 := hw'.cell 0 _ rfl; go_simp; (try rfl); done)); try simp only [Act.put, List.setIfInBounds_toArray, List.set_cons_zero, List.set_cons_succ]))
          refine wpP_run ?_ (fun K hK => ?_); (focus rfl)
          go_simp
          go_at_call 66
          (with_reducible refine (text_some wq rb pb c bs q s l2 hS.rd HTX.out).mono ?_); rintro e w2 ⟨rfl, hk2, q2a, hr2, hd2a⟩
          try dsimp only
          replace hS := hS.num hk2 hr2
          replace hQ2 := hQ2.trans (KpQ.of_p hk2 hS.rb_out)
          refine hK.out _ _ hS.box ?_
          clear hK K hk2 hr2
          try simp only [Act.put, List.setIfInBounds_toArray, List.set_cons_zero, List.set_cons_succ]
          repeat (first | (refine wpP_skip_take ?_ ?_; (focus rfl); try simp only [Act.put, List.setIfInBounds_toArray, List.set_cons_zero, List.set_cons_succ]) | (refine wpP_skip_run ?_ ?_; (focus rfl); try simp only [Act.put, List.setIfInBounds_toArray, List.set_cons_zero, List.set_cons_succ]) | (refine wpP_take ?_ ?_; (focus rfl); apply Exists.intro; refine ⟨fun w' hw' => ?_, ?_⟩; (focus (have z0 := hw'.cell 0 _ rfl; go_simp; (try rfl); done)); try simp only [Act.put, List.setIfInBounds_toArray, List.set_cons_zero, List.set_cons_succ]))
          refine wpP_run ?_ (fun K hK => ?_); (focus rfl)
          go_simp
          refine name_K (fun w3 hW => ?_)
          have hg3 : Gr w2 w3 := by rw [hW]; exact Gr.alloc _ _
          have hnc : ∀ (j : Nat) (u : Value), [Value.string (st s)][j]? = some u → w3.cell? ((⟨w2.heap.size, 0, none⟩ : Addr).add j) = some u := by rw [hW]; exact new_cells w2 [Value.string (st s)] _
          replace hS := hS.later hg3
          replace hQ2 := hQ2.trans (KpQ.gr hg3)
          refine hK.out _ _ hS.box ?_
          clear hK K hg3 hW
          try simp only [Act.put, List.setIfInBounds_toArray, List.set_cons_zero, List.set_cons_succ]
          repeat (first | (refine wpP_skip_take ?_ ?_; (focus rfl); try simp only [Act.put, List.setIfInBounds_toArray, List.set_cons_zero, List.set_cons_succ]) | (refine wpP_skip_run ?_ ?_; (focus rfl); try simp only [Act.put, List.setIfInBounds_toArray, List.set_cons_zero, List.set_cons_succ]) | (refine wpP_take ?_ ?_; (focus rfl); apply Exists.intro; refine ⟨fun w' hw' => ?_, ?_⟩; (focus (have z0 := hw'.cell 0 _ rfl; go_simp; (try rfl); done)); try simp only [Act.put, List.setIfInBounds_toArray, List.set_cons_zero, List.set_cons_succ]))
          refine wpP_run ?_ (fun K hK => ?_); (focus rfl)
          refine wp_append_at w3 (.tmp 9) (.tmp 12) 26 rfl w.heap.size 9 iS (.string { data := #[] }) 1 16 Tryd.underlying26 hiS hiS0 hiS1 hiS2 rfl (by decide) _ _ _ rfl (hS.row_own (i := 0) rfl) ⟨w2.heap.size, 0, none⟩ 1 1 [Value.string (st s)] rfl rfl hnc (fun u hu => by simp at hu; (first | (subst hu; rfl) | (rcases hu with rfl | rfl <;> rfl))) ?c3 ?c4 ?c5 ?_
          case c3 => have := HDL.out; simp; unfold maxLen; omega
          case c4 => have := HDL.out; simp; omega
          case c5 => exact hS.base
          intro v' w4 ho hg hat
          have xb4 := hS.box.grown hg (by simp [tbC]) (fun e => hS.row_ne (i := 0) rfl hS.inX e)
          have hQ4 := hS.kp_grown hQ2 (fun _ h => h) (i := 0) rfl hg
          have hS4 := hS.grow (i := 0) rfl hg ho hat 0 (by omega) (rows_modes _ _ [] v' s) rfl hS.len
          obtain ⟨p4a, c4a, rfl⟩ := (Sl.of_owns ho).len
          refine hK.out _ _ xb4 ?_
          clear hK K hg ho hat hS hQ2 hnc
          try simp only [Act.put, List.setIfInBounds_toArray, List.set_cons_zero, List.set_cons_succ]
          repeat (first | (refine wpP_skip_take ?_ ?_; (focus rfl); try simp only [Act.put, List.setIfInBounds_toArray, List.set_cons_zero, List.set_cons_succ]) | (refine wpP_skip_run ?_ ?_; (focus rfl); try simp only [Act.put, List.setIfInBounds_toArray, List.set_cons_zero, List.set_cons_succ]) | (refine wpP_take ?_ ?_; (focus rfl); apply Exists.intro; refine ⟨fun w' hw' => ?_, ?_⟩; (focus (have z0 := hw'.cell 0 _ rfl; go_simp; (try rfl); done)); try simp only [Act.put, List.setIfInBounds_toArray, List.set_cons_zero, List.set_cons_succ]))
          unfold tbC at xb4
          dsimp only at xb4
          have z4 := xb4.cell 0 _ rfl
          have y4 := xb4.mark 0 _ rfl
          have l4 := xb4.lt (Nat.succ_pos _)
          refine wpP_last ?_ (fun K hK => ?_); (focus rfl)
          go_simp
          refine hK.out _ _ ?_
          clear hK K z4 y4 l4
          try simp only [Act.put, List.setIfInBounds_toArray, List.set_cons_zero, List.set_cons_succ]
          refine wpP_done ?_
          have hQ5 := hQ4.store 0 (.slice p4a ((done.map (fun x : List UInt8 × Int => x.1)).length + 1) c4a) hS4.tlow
          clear hQ4 xb4
          simp only [List.length_map] at hS4 hQ5
          go_wp2_with fail
          refine name_world (fun W5 hW5 => ?_)
          rw [← hW5] at hS4 hQ5
          clear hW5
          have xb := hS4.box
          unfold tbC at xb
          dsimp only at xb
          have hQ := hQ5
          clear hQ5
          cases hs : numR 600 (bs.drop q2a) with
          | none =>
            have hR0 : R = none := by rw [← HR.out]; exact rc_none (seq_none1 (by rw [HM.out]; exact many_none (seq_none2 HTX.out (by rw [← hd2a]; exact i_none hs)) _ (by omega) _))
            have Z := Lib.hid (NONE.out hR0)
            have HS := Lib.hid hS4
            have HN := Lib.hid hs
            clear hS4 hR0 hs
            go_wp2_with fail
            refine wp_region_T (fun cc w' => TabEnd w rb pb c bs k (.panicked cc) w') (fun w' => boxAt w' tb [.slice p4a (done.length + 1) c4a, vl, vc, va, vcl, .int .i64 0, vst, vlb, vba, vdf, vne, vch]) (.take 0 (.take 1 (.take 2 (.run 3 false (.run 4 false (.run 5 false (.take 6 (.run 7 true .nil)))))))) (fun cc a w' h1 h2 => ⟨h1, h2⟩) (xb.later (Gr.drew _)) (by kernel_rfl) (by kernel_rfl) ?_
            simp only [pickOps, nthOp]
            intro wq hG hSq
            repeat (first | (refine wpP_skip_take ?_ ?_; (focus rfl); try simp only [Act.put, List.setIfInBounds_toArray, List.set_cons_zero, List.set_cons_succ]) | (refine wpP_skip_run ?_ ?_; (focus rfl); try simp only [Act.put, List.setIfInBounds_toArray, List.set_cons_zero, List.set_cons_succ]) | (refine wpP_take ?_ ?_; (focus rfl); apply Exists.intro; refine ⟨fun w' hw' => ?_, ?_⟩; (focus (have z0 := hw'.cell 6 _ rfl; go_simp; (try rfl); done)); try simp only [Act.put, List.setIfInBounds_toArray, List.set_cons_zero, List.set_cons_succ]))
            refine wpP_run ?_ (fun K hK => ?_); (focus rfl)
            go_simp
            go_at_call 65
            (with_reducible refine (num_none wq rb pb c bs q2a 600 600 rfl (HS.out.rd.later hG) (by omega) HN.out).mono ?_); rintro e w2 ⟨rfl, hk2⟩
            exact ⟨rfl, Z.out w2 (((hQ.trans (KpQ.gr hG)).toP0 hG0).trans hk2)⟩
          | some y =>
            obtain ⟨m, l3⟩ := y
            have HN := Lib.hid hs
            obtain ⟨ps, cs, rfl⟩ : ∃ p c, vst = .slice p done.length c := by
              obtain ⟨p, c, hv⟩ := (Sl.of_owns (hS4.row_own (i := 5) rfl)).len
              exact ⟨p, c, by rw [← List.length_map (fun x : List UInt8 × Int => x.2)]; exact hv⟩
            have HS := Lib.hid hS4
            clear hS4 hs
            have HD2 := Lib.hid hd2a
            clear hd2a
            go_wp2_with fail
            refine wp_region_T (fun _ _ => False) (fun w' => boxAt w' tb [.slice p4a (done.length + 1) c4a, vl, vc, va, vcl, .int .i64 0, .slice ps done.length cs, vlb, vba, vdf, vne, vch]) (.take 0 (.take 1 (.take 2 (.run 3 false (.run 4 false (.run 5 false (.take 6 (.run 7 true .nil)))))))) (fun _ _ _ _ h => h.elim) (xb.later (Gr.drew _)) (by kernel_rfl) (by kernel_rfl) ?_
            simp only [pickOps, nthOp]
            intro wq hG hSq
            have hS := HS.out.later hG
            have hQ2 := hQ.trans (KpQ.gr hG)
            clear hG hSq
            repeat (first | (refine wpP_skip_take ?_ ?_; (focus rfl); try simp only [Act.put, List.setIfInBounds_toArray, List.set_cons_zero, List.set_cons_succ]) | (refine wpP_skip_run ?_ ?_; (focus rfl); try simp only [Act.put, List.setIfInBounds_toArray, List.set_cons_zero, List.set_cons_succ]) | (refine wpP_take ?_ ?_; (focus rfl); apply Exists.intro; refine ⟨fun w' hw' => ?_, ?_⟩; (focus (have z0 := hw'.cell 6 _ rfl; go_simp; (try rfl); done)); try simp only [Act.put, List.setIfInBounds_toArray, List.set_cons_zero, List.set_cons_succ]))
            refine wpP_run ?_ (fun K hK => ?_); (focus rfl)
            go_simp
            go_at_call 65
            (with_reducible refine (num_some wq rb pb c bs q2a 600 600 rfl m l3 hS.rd (by omega) HN.out).mono ?_); rintro e w2 ⟨rfl, hk2, q2b, hr2, hd2b⟩
            try dsimp only
            replace hS := hS.num hk2 hr2
            replace hQ2 := hQ2.trans (KpQ.of_p hk2 hS.rb_out)
            refine hK.out _ _ hS.box ?_
            clear hK K hk2 hr2
            try simp only [Act.put, List.setIfInBounds_toArray, List.set_cons_zero, List.set_cons_succ]
            repeat (first | (refine wpP_skip_take ?_ ?_; (focus rfl); try simp only [Act.put, List.setIfInBounds_toArray, List.set_cons_zero, List.set_cons_succ]) | (refine wpP_skip_run ?_ ?_; (focus rfl); try simp only [Act.put, List.setIfInBounds_toArray, List.set_cons_zero, List.set_cons_succ]) | (refine wpP_take ?_ ?_; (focus rfl); apply Exists.intro; refine ⟨fun w' hw' => ?_, ?_⟩; (focus (have z0 := hw'.cell 6 _ rfl; go_simp; (try rfl); done)); try simp only [Act.put, List.setIfInBounds_toArray, List.set_cons_zero, List.set_cons_succ]))
            refine wpP_run ?_ (fun K hK => ?_); (focus rfl)
            go_simp
            refine name_K (fun w3 hW => ?_)
            have hg3 : Gr w2 w3 := by rw [hW]; exact Gr.alloc _ _
            have hnc : ∀ (j : Nat) (u : Value), [Value.int .i64 (m : Int)][j]? = some u → w3.cell? ((⟨w2.heap.size, 0, none⟩ : Addr).add j) = some u := by rw [hW]; exact new_cells w2 [Value.int .i64 (m : Int)] _
            replace hS := hS.later hg3
            replace hQ2 := hQ2.trans (KpQ.gr hg3)
            refine hK.out _ _ hS.box ?_
            clear hK K hg3 hW
            try simp only [Act.put, List.setIfInBounds_toArray, List.set_cons_zero, List.set_cons_succ]
            repeat (first | (refine wpP_skip_take ?_ ?_; (focus rfl); try simp only [Act.put, List.setIfInBounds_toArray, List.set_cons_zero, List.set_cons_succ]) | (refine wpP_skip_run ?_ ?_; (focus rfl); try simp only [Act.put, List.setIfInBounds_toArray, List.set_cons_zero, List.set_cons_succ]) | (refine wpP_take ?_ ?_; (focus rfl); apply Exists.intro; refine ⟨fun w' hw' => ?_, ?_⟩; (focus (have z0 := hw'.cell 6 _ rfl; go_simp; (try rfl); done)); try simp only [Act.put, List.setIfInBounds_toArray, List.set_cons_zero, List.set_cons_succ]))
            refine wpP_run ?_ (fun K hK => ?_); (focus rfl)
            refine wp_append_at w3 (.tmp 16) (.tmp 19) 23 rfl w.heap.size 3 iI (.int .i64 0) 1 8 Tryd.underlying23 hiI hiI0 hiI1 hiI2 rfl (by decide) _ _ _ rfl (hS.row_own (i := 5) rfl) ⟨w2.heap.size, 0, none⟩ 1 1 [Value.int .i64 (m : Int)] rfl rfl hnc (fun u hu => by simp at hu; (first | (subst hu; rfl) | (rcases hu with rfl | rfl <;> rfl))) ?c3 ?c4 ?c5 ?_
            case c3 => have := HDL.out; simp; unfold maxLen; omega
            case c4 => have := HDL.out; simp; omega
            case c5 => exact hS.base
            intro v' w4 ho hg hat
            have xb4 := hS.box.grown hg (by simp [tbC]) (fun e => hS.row_ne (i := 5) rfl hS.inX e)
            have hQ4 := hS.kp_grown hQ2 (fun _ h => h) (i := 5) rfl hg
            have hS4 := hS.grow (i := 5) rfl hg ho hat 6 (by omega) (rows_starts _ _ [] v' (m : Int)) rfl hS.len
            obtain ⟨p4b, c4b, rfl⟩ := (Sl.of_owns ho).len
            refine hK.out _ _ xb4 ?_
            clear hK K hg ho hat hS hQ2 hnc
            try simp only [Act.put, List.setIfInBounds_toArray, List.set_cons_zero, List.set_cons_succ]
            repeat (first | (refine wpP_skip_take ?_ ?_; (focus rfl); try simp only [Act.put, List.setIfInBounds_toArray, List.set_cons_zero, List.set_cons_succ]) | (refine wpP_skip_run ?_ ?_; (focus rfl); try simp only [Act.put, List.setIfInBounds_toArray, List.set_cons_zero, List.set_cons_succ]) | (refine wpP_take ?_ ?_; (focus rfl); apply Exists.intro; refine ⟨fun w' hw' => ?_, ?_⟩; (focus (have z0 := hw'.cell 6 _ rfl; go_simp; (try rfl); done)); try simp only [Act.put, List.setIfInBounds_toArray, List.set_cons_zero, List.set_cons_succ]))
            unfold tbC at xb4
            dsimp only at xb4
            have z4 := xb4.cell 6 _ rfl
            have y4 := xb4.mark 6 _ rfl
            have l4 := xb4.lt (Nat.succ_pos _)
            refine wpP_last ?_ (fun K hK => ?_); (focus rfl)
            go_simp
            refine hK.out _ _ ?_
            clear hK K z4 y4 l4
            try simp only [Act.put, List.setIfInBounds_toArray, List.set_cons_zero, List.set_cons_succ]
            refine wpP_done ?_
            have hQ5 := hQ4.store 6 (.slice p4b ((done.map (fun x : List UInt8 × Int => x.2)).length + 1) c4b) hS4.tlow
            clear hQ4 xb4
            simp only [List.length_map] at hS4 hQ5
            go_wp2_with fail
            go_roundw
            case rel => exact ⟨j + 1, done ++ [(s, (m : Int))], _, q2b, by go_num, by omega, by rw [List.length_append, HDL.out]; rfl, by simpa using hS4, hQ5, Lib.hid (by
              rw [HM.out, many_some (f := modeR) (seq_some HTX.out (by rw [← HD2.out]; exact i_some HN.out)) _ (by omega), hd2b]; rfl)⟩
            case measure => simp [intOf]; omega
      · have hjn2 : n = j := by omega
        subst hjn2
        have HA := Lib.hid (show listR 16 modeR (bs.drop k) = some (done, bs.drop q) by rw [HM.out, Nat.sub_self]; exact many_end _ _ _)
        have HRU := Lib.hid (rules_any wr w.heap.size rb tb pb c bs q [tb, w.heap.size] (done.map (·.1)) (done.map (·.2)) _ hS)
        clear hS hdl xb HM
        go_wp2_with fail
        go_at_call 67
        (with_reducible refine HRU.out.mono ?_); rintro e w2 ⟨hk2, hE2⟩
        have hQ2 := hQ.trans hk2
        clear hQ hk2 HRU
        cases hs2 : listR 200 (ruleR 2 3) (bs.drop q) with
        | none =>
          rw [hs2] at hE2
          subst hE2
          have hR0 : R = none := by rw [← HR.out]; exact rc_none (seq_none2 HA.out (seq_none1 hs2))
          have Z := Lib.hid (NONE.out hR0 w2 (hQ2.toP0 hG0))
          unfold refusalV at Z ⊢
          clear hR0 hs2 hQ2
          go_wp2_with fail
          exact ⟨rfl, Z.out⟩
        | some y =>
          obtain ⟨rs, r2⟩ := y
          rw [hs2] at hE2
          obtain ⟨rfl, ⟨vm, vl, vc, va, vrows, vcl, vst, vlb, vba, vdf, vne, vch⟩, q2, hS, hd2⟩ := hE2
          have HB := Lib.hid hs2
          have HD2 := Lib.hid hd2
          clear hs2 hd2
          go_wp2_with fail
          go_at_call 65
          cases hs3 : numR 256 (bs.drop q2) with
          | none =>
            have hR0 : R = none := by rw [← HR.out]; exact rc_none (seq_none2 HA.out (seq_none2 HB.out (seq_none1 (by rw [← HD2.out]; exact i_none hs3))))
            (with_reducible refine (num_none w2 rb pb c bs q2 256 256 rfl hS.rd (by omega) hs3).mono ?_); rintro e w9 ⟨rfl, hk9⟩
            have Z := Lib.hid (NONE.out hR0 w9 ((hQ2.trans (KpQ.of_p hk9 hS.rb_out)).toP0 hG0))
            unfold refusalV at Z ⊢
            clear hR0 hs3 hS hQ2
            go_wp2_with fail
            exact ⟨rfl, Z.out⟩
          | some y =>
            obtain ⟨m3, l3⟩ := y
            (with_reducible refine (num_some w2 rb pb c bs q2 256 256 rfl m3 l3 hS.rd (by omega) hs3).mono ?_); rintro e w3 ⟨rfl, hk3, q3, hr3, hd3⟩
            have hQ3 := hQ2.trans (KpQ.of_p hk3 hS.rb_out)
            have hS3 := hS.num hk3 hr3
            have HN3 := Lib.hid hs3
            have HD3 := Lib.hid hd3
            have xb := hS3.box
            unfold tbC at xb
            dsimp only at xb
            have z5 := xb.cell 5 _ rfl
            have y5 := xb.mark 5 _ rfl
            have l5 := xb.lt (Nat.succ_pos _)
            have hS4 := hS3.cnt (m3 : Int)
            have hQ4 := hQ3.store 5 (.int .i64 (m3 : Int)) hS3.tlow
            clear hs3 hd3 hk3 hr3 hS hQ2 hS3 hQ3 xb
            go_wp2_with fail
            go_loopw [28] (fun i wr => ∃ (j : Nat) (done2 : List Int) (v : TbV) (q4 : Nat), i = .int .i64 (j : Int) ∧ j ≤ 256 ∧ done2.length = j ∧ Rst wr w.heap.size rb tb pb c bs q4 [tb, w.heap.size] ⟨done.map (·.1), rs.map (·.1), rs.map (·.2.1), rs.map (·.2.2), done2, (m3 : Int), done.map (·.2), [], [], [], [], []⟩ v [] ∧ KpQ w.heap.size rb [tb, w.heap.size] tb W0 wr ∧ Hid (manyR (iR 255) 256 (bs.drop q3) = appD done2 (manyR (iR 255) (256 - j) (bs.drop q4)))) (fun i _ => 256 - (intOf i).toNat)
            case atStart => exact ⟨0, [], _, q3, rfl, Nat.zero_le _, rfl, hS4, hQ4, Lib.hid (by rw [appD_nil])⟩
            case round =>
              obtain ⟨j, done2, v, q4, rfl, hj, hdl, hS, hQ, HM⟩ := hrel
              obtain ⟨vm, vl, vc, va, vrows, vcl, vst, vlb, vba, vdf, vne, vch⟩ := v
              have HDL := Lib.hid hdl
              clear hdl
              have xb := hS.box
              unfold tbC at xb
              dsimp only at xb
              by_cases hjn : j < 256
              · have hjI : (j : Int) < 256 := by omega
                cases hs4 : numR 255 (bs.drop q4) with
                | none =>
                  have hR0 : R = none := by rw [← HR.out]; exact rc_none (seq_none2 HA.out (seq_none2 HB.out (seq_none2 (by rw [← HD2.out]; exact i_some HN3.out) (seq_none1 (by rw [← HD3.out, HM.out]; exact many_none (i_none hs4) _ (by omega) _)))))
                  have Z := Lib.hid (NONE.out hR0)
                  have HS := Lib.hid hS
                  have HN := Lib.hid hs4
                  clear hS hR0 hs4
                  go_wp2_with fail
                  refine wp_region_T (fun cc w' => TabEnd w rb pb c bs k (.panicked cc) w') (fun w' => boxAt w' tb [vm, vl, vc, va, vcl, .int .i64 (m3 : Int), vst, vlb, vba, vdf, vne, vch]) (.take 0 (.take 1 (.take 2 (.run 3 false (.run 4 false (.run 5 false (.take 6 (.run 7 true .nil)))))))) (fun cc a w' h1 h2 => ⟨h1, h2⟩) (xb.later (Gr.drew _)) (by kernel_rfl) (by kernel_rfl) ?_
                  simp only [pickOps, nthOp]
                  intro wq hG hSq
                  repeat (first | (refine wpP_skip_take ?_ ?_; (focus rfl); try simp only [Act.put, List.setIfInBounds_toArray, List.set_cons_zero, List.set_cons_succ]) | (refine wpP_skip_run ?_ ?_; (focus rfl); try simp only [Act.put, List.setIfInBounds_toArray, List.set_cons_zero, List.set_cons_succ]) | (refine wpP_take ?_ ?_; (focus rfl); apply Exists.intro; refine ⟨fun w' hw' => ?_, ?_⟩; (focus (have z0 := hw'.cell 4 _ rfl; go_simp; (try rfl); done)); try simp only [Act.put, List.setIfInBounds_toArray, List.set_cons_zero, List.set_cons_succ]))
                  refine wpP_run ?_ (fun K hK => ?_); (focus rfl)
                  go_simp
                  go_at_call 65
                  (with_reducible refine (num_none wq rb pb c bs q4 255 255 rfl (HS.out.rd.later hG) (by omega) HN.out).mono ?_); rintro e w2 ⟨rfl, hk2⟩
                  exact ⟨rfl, Z.out w2 (((hQ.trans (KpQ.gr hG)).toP0 hG0).trans hk2)⟩
                | some y =>
                  obtain ⟨m4, l4⟩ := y
                  have HN := Lib.hid hs4
                  obtain ⟨pc, cc, rfl⟩ : ∃ p c, vcl = .slice p done2.length c := (Sl.of_owns (hS.row_own (i := 4) rfl)).len
                  have HS := Lib.hid hS
                  clear hS hs4
                  go_wp2_with fail
                  refine wp_region_T (fun _ _ => False) (fun w' => boxAt w' tb [vm, vl, vc, va, .slice pc done2.length cc, .int .i64 (m3 : Int), vst, vlb, vba, vdf, vne, vch]) (.take 0 (.take 1 (.take 2 (.run 3 false (.run 4 false (.run 5 false (.take 6 (.run 7 true .nil)))))))) (fun _ _ _ _ h => h.elim) (xb.later (Gr.drew _)) (by kernel_rfl) (by kernel_rfl) ?_
                  simp only [pickOps, nthOp]
                  intro wq hG hSq
                  have hS := HS.out.later hG
                  have hQ2 := hQ.trans (KpQ.gr hG)
                  clear hG hSq
                  repeat (first | (refine wpP_skip_take ?_ ?_; (focus rfl); try simp only [Act.put, List.setIfInBounds_toArray, List.set_cons_zero, List.set_cons_succ]) | (refine wpP_skip_run ?_ ?_; (focus rfl); try simp only [Act.put, List.setIfInBounds_toArray, List.set_cons_zero, List.set_cons_succ]) | (refine wpP_take ?_ ?_; (focus rfl); apply Exists.intro; refine ⟨fun w' hw' => ?_, ?_⟩; (focus (have z0 := hw'.cell 4 _ rfl; go_simp; (try rfl); done)); try simp only [Act.put, List.setIfInBounds_toArray, List.set_cons_zero, List.set_cons_succ]))
                  refine wpP_run ?_ (fun K hK => ?_); (focus rfl)
                  go_simp
                  go_at_call 65
                  (with_reducible refine (num_some wq rb pb c bs q4 255 255 rfl m4 l4 hS.rd (by omega) HN.out).mono ?_); rintro e w2 ⟨rfl, hk2, q2c, hr2, hd2c⟩
                  try dsimp only
                  replace hS := hS.num hk2 hr2
                  replace hQ2 := hQ2.trans (KpQ.of_p hk2 hS.rb_out)
                  refine hK.out _ _ hS.box ?_
                  clear hK K hk2 hr2
                  try simp only [Act.put, List.setIfInBounds_toArray, List.set_cons_zero, List.set_cons_succ]
                  repeat (first | (refine wpP_skip_take ?_ ?_; (focus rfl); try simp only [Act.put, List.setIfInBounds_toArray, List.set_cons_zero, List.set_cons_succ]) | (refine wpP_skip_run ?_ ?_; (focus rfl); try simp only [Act.put, List.setIfInBounds_toArray, List.set_cons_zero, List.set_cons_succ]) | (refine wpP_take ?_ ?_; (focus rfl); apply Exists.intro; refine ⟨fun w' hw' => ?_, ?_⟩; (focus (have z0 := hw'.cell 4 _ rfl; go_simp; (try rfl); done)); try simp only [Act.put, List.setIfInBounds_toArray, List.set_cons_zero, List.set_cons_succ]))
                  refine wpP_run ?_ (fun K hK => ?_); (focus rfl)
                  go_simp
                  refine name_K (fun w3 hW => ?_)
                  have hg3 : Gr w2 w3 := by rw [hW]; exact Gr.alloc _ _
                  have hnc : ∀ (j : Nat) (u : Value), [Value.int .i64 (m4 : Int)][j]? = some u → w3.cell? ((⟨w2.heap.size, 0, none⟩ : Addr).add j) = some u := by rw [hW]; exact new_cells w2 [Value.int .i64 (m4 : Int)] _
                  replace hS := hS.later hg3
                  replace hQ2 := hQ2.trans (KpQ.gr hg3)
                  refine hK.out _ _ hS.box ?_
                  clear hK K hg3 hW
                  try simp only [Act.put, List.setIfInBounds_toArray, List.set_cons_zero, List.set_cons_succ]
                  repeat (first | (refine wpP_skip_take ?_ ?_; (focus rfl); try simp only [Act.put, List.setIfInBounds_toArray, List.set_cons_zero, List.set_cons_succ]) | (refine wpP_skip_run ?_ ?_; (focus rfl); try simp only [Act.put, List.setIfInBounds_toArray, List.set_cons_zero, List.set_cons_succ]) | (refine wpP_take ?_ ?_; (focus rfl); apply Exists.intro; refine ⟨fun w' hw' => ?_, ?_⟩; (focus (have z0 := hw'.cell 4 _ rfl; go_simp; (try rfl); done)); try simp only [Act.put, List.setIfInBounds_toArray, List.set_cons_zero, List.set_cons_succ]))
                  refine wpP_run ?_ (fun K hK => ?_); (focus rfl)
                  refine wp_append_at w3 (.tmp 31) (.tmp 34) 23 rfl w.heap.size 3 iI (.int .i64 0) 1 8 Tryd.underlying23 hiI hiI0 hiI1 hiI2 rfl (by decide) _ _ _ rfl (hS.row_own (i := 4) rfl) ⟨w2.heap.size, 0, none⟩ 1 1 [Value.int .i64 (m4 : Int)] rfl rfl hnc (fun u hu => by simp at hu; (first | (subst hu; rfl) | (rcases hu with rfl | rfl <;> rfl))) ?c3 ?c4 ?c5 ?_
                  case c3 => have := HDL.out; simp; unfold maxLen; omega
                  case c4 => have := HDL.out; simp; omega
                  case c5 => exact hS.base
                  intro v' w4 ho hg hat
                  have xb4 := hS.box.grown hg (by simp [tbC]) (fun e => hS.row_ne (i := 4) rfl hS.inX e)
                  have hQ4 := hS.kp_grown hQ2 (fun _ h => h) (i := 4) rfl hg
                  have hS4 := hS.grow (i := 4) rfl hg ho hat 4 (by omega) (rows_classes _ _ [] v' (m4 : Int)) rfl hS.len
                  obtain ⟨p4c, c4c, rfl⟩ := (Sl.of_owns ho).len
                  refine hK.out _ _ xb4 ?_
                  clear hK K hg ho hat hS hQ2 hnc
                  try simp only [Act.put, List.setIfInBounds_toArray, List.set_cons_zero, List.set_cons_succ]
                  repeat (first | (refine wpP_skip_take ?_ ?_; (focus rfl); try simp only [Act.put, List.setIfInBounds_toArray, List.set_cons_zero, List.set_cons_succ]) | (refine wpP_skip_run ?_ ?_; (focus rfl); try simp only [Act.put, List.setIfInBounds_toArray, List.set_cons_zero, List.set_cons_succ]) | (refine wpP_take ?_ ?_; (focus rfl); apply Exists.intro; refine ⟨fun w' hw' => ?_, ?_⟩; (focus (have z0 := hw'.cell 4 _ rfl; go_simp; (try rfl); done)); try simp only [Act.put, List.setIfInBounds_toArray, List.set_cons_zero, List.set_cons_succ]))
                  unfold tbC at xb4
                  dsimp only at xb4
                  have z4 := xb4.cell 4 _ rfl
                  have y4 := xb4.mark 4 _ rfl
                  have l4 := xb4.lt (Nat.succ_pos _)
                  refine wpP_last ?_ (fun K hK => ?_); (focus rfl)
                  go_simp
                  refine hK.out _ _ ?_
                  clear hK K z4 y4 l4
                  try simp only [Act.put, List.setIfInBounds_toArray, List.set_cons_zero, List.set_cons_succ]
                  refine wpP_done ?_
                  have hQ5 := hQ4.store 4 (.slice p4c (done2.length + 1) c4c) hS4.tlow
                  clear hQ4 xb4
                  go_wp2_with fail
                  go_roundw
                  case rel => exact ⟨j + 1, done2 ++ [(m4 : Int)], _, q2c, by go_num, by omega, by rw [List.length_append, HDL.out]; rfl, hS4, hQ5, Lib.hid (by
                    rw [HM.out, many_some (f := iR 255) (i_some HN.out) _ (by omega), hd2c]; rfl)⟩
                  case measure => simp [intOf]; omega
              · have hjn2 : j = 256 := by omega
                subst hjn2
                have HC := Lib.hid (show manyR (iR 255) 256 (bs.drop q3) = some (done2, bs.drop q4) by rw [HM.out]; exact many_end _ _ _)
                have HCO := Lib.hid (comb_any wr w.heap.size rb tb pb c bs q4 [tb, w.heap.size] _ _ _ _ _ _ _ _ hS)
                clear hS xb HM
                go_wp2_with fail
                go_at_call 68
                (with_reducible refine HCO.out.mono ?_); rintro e w5 ⟨hk5, hE5⟩
                have hQ5 := hQ.trans hk5
                clear hQ hk5 HCO
                cases hs5 : seqR (listR 600 stateR) (fun _ => listR 262144 slotR) (bs.drop q4) with
                | none =>
                  rw [hs5] at hE5
                  subst hE5
                  have hR0 : R = none := by rw [← HR.out]; exact rc_none (seq_none2 HA.out (seq_none2 HB.out (seq_none2 (by rw [← HD2.out]; exact i_some HN3.out) (seq_none2 (by rw [← HD3.out]; exact HC.out) hs5))))
                  have Z := Lib.hid (NONE.out hR0 w5 (hQ5.toP0 hG0))
                  unfold refusalV at Z ⊢
                  clear hR0 hs5 hQ5
                  go_wp2_with fail
                  exact ⟨rfl, Z.out⟩
                | some y =>
                  obtain ⟨⟨ss, sl⟩, r5⟩ := y
                  rw [hs5] at hE5
                  obtain ⟨rfl, ⟨vm, vl, vc, va, vrows, vcl, vst, vlb, vba, vdf, vne, vch⟩, q5, hS, hd5⟩ := hE5
                  obtain ⟨p0, n0, c0, rfl⟩ : ∃ p n c, vm = .slice p n c := by obtain ⟨p, c, hv⟩ := (Sl.of_owns (hS.row_own (i := 0) rfl)).len; exact ⟨p, _, c, hv⟩
                  obtain ⟨p1, n1, c1, rfl⟩ : ∃ p n c, vl = .slice p n c := by obtain ⟨p, c, hv⟩ := (Sl.of_owns (hS.row_own (i := 1) rfl)).len; exact ⟨p, _, c, hv⟩
                  obtain ⟨p2, n2, c2, rfl⟩ : ∃ p n c, vc = .slice p n c := by obtain ⟨p, c, hv⟩ := (Sl.of_owns (hS.row_own (i := 2) rfl)).len; exact ⟨p, _, c, hv⟩
                  obtain ⟨p3, n3, c3, rfl⟩ : ∃ p n c, va = .slice p n c := by obtain ⟨p, c, hv⟩ := (Sl.of_owns (hS.row_own (i := 3) rfl)).len; exact ⟨p, _, c, hv⟩
                  obtain ⟨p4, n4, c4, rfl⟩ : ∃ p n c, vcl = .slice p n c := by obtain ⟨p, c, hv⟩ := (Sl.of_owns (hS.row_own (i := 4) rfl)).len; exact ⟨p, _, c, hv⟩
                  obtain ⟨p5, n5, c5, rfl⟩ : ∃ p n c, vst = .slice p n c := by obtain ⟨p, c, hv⟩ := (Sl.of_owns (hS.row_own (i := 5) rfl)).len; exact ⟨p, _, c, hv⟩
                  obtain ⟨p6, n6, c6, rfl⟩ : ∃ p n c, vlb = .slice p n c := by obtain ⟨p, c, hv⟩ := (Sl.of_owns (hS.row_own (i := 6) rfl)).len; exact ⟨p, _, c, hv⟩
                  obtain ⟨p7, n7, c7, rfl⟩ : ∃ p n c, vba = .slice p n c := by obtain ⟨p, c, hv⟩ := (Sl.of_owns (hS.row_own (i := 7) rfl)).len; exact ⟨p, _, c, hv⟩
                  obtain ⟨p8, n8, c8, rfl⟩ : ∃ p n c, vdf = .slice p n c := by obtain ⟨p, c, hv⟩ := (Sl.of_owns (hS.row_own (i := 8) rfl)).len; exact ⟨p, _, c, hv⟩
                  obtain ⟨p9, n9, c9, rfl⟩ : ∃ p n c, vne = .slice p n c := by obtain ⟨p, c, hv⟩ := (Sl.of_owns (hS.row_own (i := 9) rfl)).len; exact ⟨p, _, c, hv⟩
                  obtain ⟨p10, n10, c10, rfl⟩ : ∃ p n c, vch = .slice p n c := by obtain ⟨p, c, hv⟩ := (Sl.of_owns (hS.row_own (i := 10) rfl)).len; exact ⟨p, _, c, hv⟩
                  have HRR := Lib.hid (show R = some (⟨done, rs, (m3 : Int), done2, ss, sl⟩, r5) by rw [← HR.out]; exact rc_some (seq_some HA.out (seq_some HB.out (seq_some (by rw [← HD2.out]; exact i_some HN3.out) (seq_some (by rw [← HD3.out]; exact HC.out) hs5)))))
                  have xb := hS.box
                  unfold tbC at xb
                  dsimp only at xb
                  have xt := hQ5.box HXR.out (by simp) (Ne.symm htb2) (by simp)
                  have HS := Lib.hid hS
                  have HQ := Lib.hid hQ5
                  clear hs5 hS hQ5
                  have c_e0 := xb.cell 0 _ rfl
                  have c_e1 := xb.cell 1 _ rfl
                  have c_e2 := xb.cell 2 _ rfl
                  have c_e3 := xb.cell 3 _ rfl
                  have c_e4 := xb.cell 4 _ rfl
                  have c_e5 := xb.cell 5 _ rfl
                  have c_e6 := xb.cell 6 _ rfl
                  have c_e7 := xb.cell 7 _ rfl
                  have c_e8 := xb.cell 8 _ rfl
                  have c_e9 := xb.cell 9 _ rfl
                  have c_e10 := xb.cell 10 _ rfl
                  have c_e11 := xb.cell 11 _ rfl
                  have m_e0 := xb.mark 0 _ rfl
                  have m_e1 := xb.mark 1 _ rfl
                  have m_e2 := xb.mark 2 _ rfl
                  have m_e3 := xb.mark 3 _ rfl
                  have m_e4 := xb.mark 4 _ rfl
                  have m_e5 := xb.mark 5 _ rfl
                  have m_e6 := xb.mark 6 _ rfl
                  have m_e7 := xb.mark 7 _ rfl
                  have m_e8 := xb.mark 8 _ rfl
                  have m_e9 := xb.mark 9 _ rfl
                  have m_e10 := xb.mark 10 _ rfl
                  have m_e11 := xb.mark 11 _ rfl
                  have l_e := xb.lt (Nat.succ_pos _)
                  have c_f0 := xt.cell 0 _ rfl
                  have c_f1 := xt.cell 1 _ rfl
                  have c_f2 := xt.cell 2 _ rfl
                  have c_f3 := xt.cell 3 _ rfl
                  have c_f4 := xt.cell 4 _ rfl
                  have c_f5 := xt.cell 5 _ rfl
                  have c_f6 := xt.cell 6 _ rfl
                  have c_f7 := xt.cell 7 _ rfl
                  have c_f8 := xt.cell 8 _ rfl
                  have c_f9 := xt.cell 9 _ rfl
                  have c_f10 := xt.cell 10 _ rfl
                  have c_f11 := xt.cell 11 _ rfl
                  have m_f0 := xt.mark 0 _ rfl
                  have m_f1 := xt.mark 1 _ rfl
                  have m_f2 := xt.mark 2 _ rfl
                  have m_f3 := xt.mark 3 _ rfl
                  have m_f4 := xt.mark 4 _ rfl
                  have m_f5 := xt.mark 5 _ rfl
                  have m_f6 := xt.mark 6 _ rfl
                  have m_f7 := xt.mark 7 _ rfl
                  have m_f8 := xt.mark 8 _ rfl
                  have m_f9 := xt.mark 9 _ rfl
                  have m_f10 := xt.mark 10 _ rfl
                  have m_f11 := xt.mark 11 _ rfl
                  have l_f := xt.lt (Nat.succ_pos _)
                  go_wp2_with fail
                  refine name_endI (fun WF hWF => ?_)
                  have xf : boxAt WF w.heap.size [.slice p0 n0 c0, .slice p1 n1 c1, .slice p2 n2 c2, .slice p3 n3 c3, .slice p4 n4 c4, .int .i64 (m3 : Int), .slice p5 n5 c5, .slice p6 n6 c6, .slice p7 n7 c7, .slice p8 n8 c8, .slice p9 n9 c9, .slice p10 n10 c10] := by rw [hWF]; exact ((((((((((((xt.put 0 _ (by simp)).put 1 _ (by simp)).put 2 _ (by simp)).put 3 _ (by simp)).put 4 _ (by simp)).put 5 _ (by simp)).put 6 _ (by simp)).put 7 _ (by simp)).put 8 _ (by simp)).put 9 _ (by simp)).put 10 _ (by simp)).put 11 _ (by simp))
                  have hblk : ∀ j, j ≠ w.heap.size → WF.heap[j]? = w5.heap[j]? := fun j hj => by
                    rw [hWF]
                    iterate 12 rw [Below.heap_setCell _ _ _ j (by exact hj)]
                  have hsz : WF.heap.size = w5.heap.size := by rw [hWF]; simp [World.setCell]
                  have hos : WF.os = w5.os ∧ WF.tape = w5.tape ∧ WF.output = w5.output := by rw [hWF]; simp only [setCell_os, setCell_tape, setCell_output]; exact ⟨trivial, trivial, trivial⟩
                  clear hWF xb xt
                  have hP := HQ.out.toP0 hG0
                  have hT : TabEnd w rb pb c bs k (.returned (tbV (tbOf ⟨done, rs, (m3 : Int), done2, ss, sl⟩) ⟨.slice p0 n0 c0, .slice p1 n1 c1, .slice p2 n2 c2, .slice p3 n3 c3, vrows, .slice p4 n4 c4, .slice p5 n5 c5, .slice p6 n6 c6, .slice p7 n7 c7, .slice p8 n8 c8, .slice p9 n9 c9, .slice p10 n10 c10⟩)) WF := by
                    refine ⟨⟨hos.1.trans hP.os, hos.2.1.trans hP.tape, hos.2.2.trans hP.output, by rw [hsz]; exact hP.size, fun j h1 h2 => (hblk j (by omega)).trans (hP.block j h1 h2)⟩, ?_⟩
                    rw [HR.out, HRR.out]
                    have hrw := HS.out.rows
                    rw [List.append_nil] at hrw
                    refine ⟨_, rfl, ⟨(hrw.keep (w' := WF) (fun j _ _ hX => hblk j (fun e => hX (by rw [e]; simp)))).dropX.dropX, HS.out.len⟩, q5, HS.out.rd.keepB HS.out.rlow HS.out.plow (by rw [hsz]; exact Nat.le_refl _) (fun j _ hB => hblk j (by omega)), hd5⟩
                  have HT := Lib.hid hT
                  clear hT hP HS HQ HRR hblk hos
                  clear c_e0 c_e1 c_e2 c_e3 c_e4 c_e5 c_e6 c_e7 c_e8 c_e9 c_e10 c_e11 m_e0 m_e1 m_e2 m_e3 m_e4 m_e5 m_e6 m_e7 m_e8 m_e9 m_e10 m_e11 l_e
                  clear c_f0 c_f1 c_f2 c_f3 c_f4 c_f5 c_f6 c_f7 c_f8 c_f9 c_f10 c_f11 m_f0 m_f1 m_f2 m_f3 m_f4 m_f5 m_f6 m_f7 m_f8 m_f9 m_f10 m_f11 l_f
                  have c_g0 := xf.cell 0 _ rfl
                  have c_g1 := xf.cell 1 _ rfl
                  have c_g2 := xf.cell 2 _ rfl
                  have c_g3 := xf.cell 3 _ rfl
                  have c_g4 := xf.cell 4 _ rfl
                  have c_g5 := xf.cell 5 _ rfl
                  have c_g6 := xf.cell 6 _ rfl
                  have c_g7 := xf.cell 7 _ rfl
                  have c_g8 := xf.cell 8 _ rfl
                  have c_g9 := xf.cell 9 _ rfl
                  have c_g10 := xf.cell 10 _ rfl
                  have c_g11 := xf.cell 11 _ rfl
                  have m_g0 := xf.mark 0 _ rfl
                  have m_g1 := xf.mark 1 _ rfl
                  have m_g2 := xf.mark 2 _ rfl
                  have m_g3 := xf.mark 3 _ rfl
                  have m_g4 := xf.mark 4 _ rfl
                  have m_g5 := xf.mark 5 _ rfl
                  have m_g6 := xf.mark 6 _ rfl
                  have m_g7 := xf.mark 7 _ rfl
                  have m_g8 := xf.mark 8 _ rfl
                  have m_g9 := xf.mark 9 _ rfl
                  have m_g10 := xf.mark 10 _ rfl
                  have m_g11 := xf.mark 11 _ rfl
                  have l_g := xf.lt (Nat.succ_pos _)
                  refine bodyPost_ret (v := .agg #[.slice p0 n0 c0, .slice p1 n1 c1, .slice p2 n2 c2, .slice p3 n3 c3, .slice p4 n4 c4, .int .i64 (m3 : Int), .slice p5 n5 c5, .slice p6 n6 c6, .slice p7 n7 c7, .slice p8 n8 c8, .slice p9 n9 c9, .slice p10 n10 c10]) (by simp [results, Tryd.results54, go_sem, c_g0, c_g1, c_g2, c_g3, c_g4, c_g5, c_g6, c_g7, c_g8, c_g9, c_g10, c_g11]) rfl ?_
                  exact HT.out

end Go.Proofs.YtcbfmajojkcibaaDoor
