/- bolterref17's reader: tables. Printed by gen_irt.py. No condition but that reader and bytes lie apart, in what was there. -/
import Derived.Test.YtcbfmajojkcibaaDoorPGn
import Derived.Test.YtcbfmajojkcibaaDoorPGm
import Derived.Deep.DeepCutAuto
import Derived.Deep.CutBlock
namespace Go.Proofs.YtcbfmajojkcibaaDoor
open Go Go.RowKit

theorem modeS_is {s s2 s3 : St17} {x : List UInt8} {m : Nat} (h1 : textS s = (x, s2)) (h2 : numS 600 s2 = (m, s3)) : modeS s = ((x, (m : Int)), s3) := by unfold modeS seqS numI; rw [h1]; dsimp only; rw [h2]
theorem actS_is {s s2 s3 : St17} {d m : Nat} (h1 : numS 9 s = (d, s2)) (h2 : numS 16 s2 = (m, s3)) : actS s = (((d : Int), (m : Int)), s3) := by unfold actS seqS numI; rw [h1]; dsimp only; rw [h2]
theorem ruleS_is {s s2 s3 s4 s5 s6 : St17} {x : List UInt8} {k n q : Nat} {l : List (Int × Int)} (h1 : textS s = (x, s2)) (h2 : numS 9 s2 = (k, s3)) (h3 : numS 65536 s3 = (n, s4)) (h4 : numS 8 s4 = (q, s5)) (h5 : loopS actS q s5 = (l, s6)) :
    ruleS s = ((x, (((k : Int), (n : Int)), l)), s6) := by
  unfold ruleS cutS seqS numI listS; rw [h1]; dsimp only; rw [h2]; dsimp only; rw [h3]; dsimp only; rw [h4]; dsimp only; rw [h5]
theorem classS_is {s s2 : St17} {m : Nat} (h : numS 256 s = (m, s2)) : numI 256 s = ((m : Int), s2) := by unfold numI; rw [h]
theorem stateS_is {s s2 s3 s4 : St17} {a b d : Nat} (h1 : numS 200 s = (a, s2)) (h2 : numS 262144 s2 = (b, s3)) (h3 : numS 600 s3 = (d, s4)) : stateS s = (((a : Int) - 1, ((b : Int), (d : Int) - 1)), s4) := by
  unfold stateS seqS numI numD; rw [h1]; dsimp only; rw [h2]; dsimp only; rw [h3]
theorem slotS_pos {s s2 s3 : St17} {a b : Nat} (h1 : numS 600 s = (a, s2)) (ha : 0 ≤ (a : Int) - 1) (h2 : numS 600 s2 = (b, s3)) : slotS s = (((a : Int) - 1, (b : Int) - 1), s3) := by
  unfold slotS seqS numD; rw [h1]; dsimp only; unfold nextS; rw [if_pos ha]; unfold numD; rw [h2]
theorem slotS_neg {s s2 : St17} {a : Nat} (h1 : numS 600 s = (a, s2)) (ha : ¬ 0 ≤ (a : Int) - 1) : slotS s = (((a : Int) - 1, -1), s2) := by
  unfold slotS seqS numD; rw [h1]; dsimp only; unfold nextS; rw [if_neg ha]

/-- How tables ends. -/
def TabEnd17 (w : World) (rb g : Nat) (s : St17) (e : Ending) (w' : World) : Prop :=
  ∃ v, e = .returned (tbV (tbOf (rcS s).1) v) ∧ OwnL w' w.heap.size (rowsOf (tbOf (rcS s).1) v) ∧ v.rows.length = (tbOf (rcS s).1).acts.length ∧ RdS w' rb g (rcS s).2 ∧ KpP rb w w'

set_option maxRecDepth 100000 in
set_option maxHeartbeats 16000000 in
theorem tables17_any (w : World) (rb g : Nat) (s0 : St17) (h : RdS w rb g s0) (hrb : rb < w.heap.size) (hgb : g < w.heap.size) :
    Calls Tryd.prog 55 #[.pointer (some ⟨rb, 0, none⟩)] w (TabEnd17 w rb g s0) := by
  have H := Lib.hid h
  obtain ⟨n1, a1, hn1⟩ : ∃ m t, numS 16 s0 = (m, t) := ⟨_, _, rfl⟩
  obtain ⟨ml, s1, hl1⟩ : ∃ m t, loopS modeS n1 a1 = (m, t) := ⟨_, _, rfl⟩
  obtain ⟨n2, a2, hn2⟩ : ∃ m t, numS 200 s1 = (m, t) := ⟨_, _, rfl⟩
  obtain ⟨rl, s2, hl2⟩ : ∃ m t, loopS ruleS n2 a2 = (m, t) := ⟨_, _, rfl⟩
  obtain ⟨co, s3, hn3⟩ : ∃ m t, numS 256 s2 = (m, t) := ⟨_, _, rfl⟩
  obtain ⟨cl, s4, hl4⟩ : ∃ m t, loopS (numI 256) 256 s3 = (m, t) := ⟨_, _, rfl⟩
  obtain ⟨n5, a5, hn5⟩ : ∃ m t, numS 600 s4 = (m, t) := ⟨_, _, rfl⟩
  obtain ⟨sl, s5, hl5⟩ : ∃ m t, loopS stateS n5 a5 = (m, t) := ⟨_, _, rfl⟩
  obtain ⟨n6, a6, hn6⟩ : ∃ m t, numS 262144 s5 = (m, t) := ⟨_, _, rfl⟩
  obtain ⟨tl, s6, hl6⟩ : ∃ m t, loopS slotS n6 a6 = (m, t) := ⟨_, _, rfl⟩
  have HRC := Lib.hid (show rcS s0 = (⟨ml, rl, (co : Int), cl, sl, tl⟩, s6) from by
    unfold rcS rcS0 seqS listS numI
    rw [hn1]; dsimp only; rw [hl1]; dsimp only; rw [hn2]; dsimp only; rw [hl2]; dsimp only; rw [hn3]; dsimp only; rw [show loopS (fun s => (((numS 256 s).1 : Int), (numS 256 s).2)) 256 s3 = (cl, s4) from hl4]; dsimp only; rw [hn5]; dsimp only; rw [hl5]; dsimp only; rw [hn6]; dsimp only; rw [hl6]; rfl)
  have HN1 := Lib.hid hn1
  have HL1 := Lib.hid hl1
  have HN2 := Lib.hid hn2
  have HL2 := Lib.hid hl2
  have HN3 := Lib.hid hn3
  have HL4 := Lib.hid hl4
  have HN5 := Lib.hid hn5
  have HL5 := Lib.hid hl5
  have HN6 := Lib.hid hn6
  have HL6 := Lib.hid hl6
  have hb1 := numS_of hn1
  have hb2 := numS_of hn2
  have hb3 := numS_of hn3
  have hb5 := numS_of hn5
  have hb6 := numS_of hn6
  clear h hn1 hl1 hn2 hl2 hn3 hl4 hn5 hl5 hn6 hl6
  obtain ⟨iS, hiS, hiS0, hiS1, hiS2⟩ := info_parts info_string
  obtain ⟨iI, hiI, hiI0, hiI1, hiI2⟩ := info_parts info_int
  obtain ⟨iC, hiC, hiC0, hiC1, hiC2⟩ := info_parts info_cut
  obtain ⟨iT, hiT, hiT0, hiT1, hiT2⟩ := info_parts info_step
  obtain ⟨iA, hiA, hiA0, hiA1, hiA2⟩ := info_parts info_steps
  go_enter Tryd.func55, Tryd.ntmps55
  go_wp2_with fail
  refine name_calls (fun W0 hW0 => ?_)
  have hG0 : Gr w W0 := by rw [hW0]; exact (Gr.alloc _ _).trans (Gr.alloc _ _)
  generalize htb : w.heap.size + 1 = tb
  have hS : Rsu W0 w.heap.size rb tb g s0 [tb, w.heap.size] ⟨[], [], [], [], [], 0, [], [], [], [], [], []⟩ ⟨.slice none 0 0, .slice none 0 0, .slice none 0 0, .slice none 0 0, [], .slice none 0 0, .slice none 0 0, .slice none 0 0, .slice none 0 0, .slice none 0 0, .slice none 0 0, .slice none 0 0⟩ [] := by
    refine ⟨H.out.later hG0, ?_, ⟨fun r hr => ?_, ?_, fun r hr g hg => ?_⟩, rfl, by simp, fun x hx => ?_, hrb, hgb⟩
    · rw [hW0, ← htb, show w.heap.size + 1 = (w.alloc (.cells #[.slice none 0 0, .slice none 0 0, .slice none 0 0, .slice none 0 0, .slice none 0 0, .int .i64 0, .slice none 0 0, .slice none 0 0, .slice none 0 0, .slice none 0 0, .slice none 0 0, .slice none 0 0] 30)).heap.size by simp]
      exact boxAt.new _ _ rfl
    · simp only [rowsOf, actRows, List.append_nil, List.mem_cons, List.not_mem_nil, or_false] at hr
      rcases hr with rfl | rfl | rfl | rfl | rfl | rfl | rfl | rfl | rfl | rfl | rfl <;> exact World.ownsRow_nil ..
    · simp [rowsOf, actRows, Value.ownBlock]
    · simp only [rowsOf, actRows, List.append_nil, List.mem_cons, List.not_mem_nil, or_false] at hr
      rcases hr with rfl | rfl | rfl | rfl | rfl | rfl | rfl | rfl | rfl | rfl | rfl <;> cases hg
    · rw [hW0]
      simp only [List.mem_cons, List.not_mem_nil, or_false] at hx
      rcases hx with rfl | rfl <;> (simp; try omega)
  have xr2 : boxAt W0 w.heap.size [.slice none 0 0, .slice none 0 0, .slice none 0 0, .slice none 0 0, .slice none 0 0, .int .i64 0, .slice none 0 0, .slice none 0 0, .slice none 0 0, .slice none 0 0, .slice none 0 0, .slice none 0 0] := by
    rw [hW0]; exact (boxAt.new _ _ rfl).later (Gr.alloc _ _)
  have htb2 : tb ≠ w.heap.size := by omega
  have HTB := Lib.hid htb
  have HXR := Lib.hid xr2
  clear htb xr2 hW0
  go_at_call 69
  (with_reducible refine (num17_is W0 rb g s0 a1 16 n1 16 rfl hS.rd (by omega) HN1.out).mono ?_); rintro e w1 ⟨rfl, hr, hk⟩
  have hS1 := hS.num hk hr
  have hQ1 : KpQ w.heap.size rb [tb, w.heap.size] tb W0 w1 := KpQ.of_p hk hS.rb_out
  clear hS hr hk
  go_upto_block 0 with fail
  go_cut [5] from 17 to 42 (fun _ wx => ∃ v, Rsu wx w.heap.size rb tb g s1 [tb, w.heap.size] ⟨ml.map (·.1), [], [], [], [], 0, ml.map (·.2), [], [], [], [], []⟩ v [] ∧ KpQ w.heap.size rb [tb, w.heap.size] tb W0 wx)
  case first =>
    go_wp2_with fail
    go_loopw [5] (fun i wr => ∃ (j : Nat) (done : List (List UInt8 × Int)) (v : TbV) (s : St17), i = .int .i64 (j : Int) ∧ j ≤ n1 ∧ done.length = j ∧ Rsu wr w.heap.size rb tb g s [tb, w.heap.size] ⟨done.map (·.1), [], [], [], [], 0, done.map (·.2), [], [], [], [], []⟩ v [] ∧ KpQ w.heap.size rb [tb, w.heap.size] tb W0 wr ∧ Hid (loopS modeS n1 a1 = appS done (loopS modeS (n1 - j) s))) (fun i _ => n1 - (intOf i).toNat)
    case atStart => exact ⟨0, [], _, a1, rfl, Nat.zero_le _, rfl, hS1, hQ1, Lib.hid (by rw [appS_nil]; try rfl)⟩
    case round =>
      obtain ⟨j, done, v, s, rfl, hj, hdl, hS, hQ, HM⟩ := hrel
      obtain ⟨vm, vl, vc, va, vrows, vcl, vst, vlb, vba, vdf, vne, vch⟩ := v
      obtain ⟨o, c, xr, _, _⟩ := hS.rd.box
      by_cases hjn : j < n1
      · have hjI : (j : Int) < (n1 : Int) := by omega
        cases hb : s.2 with
        | true =>
          rw [hb] at xr
          have HX : (ml, s1) = (done, s) := by rw [← HL1.out, HM.out, loop_bad _ _ _ hb]
          injection HX with e1 e2
          have HS := Lib.hid (e1 ▸ e2 ▸ hS)
          have HQ := Lib.hid hQ
          clear hS hQ e1 e2 hdl
          have c_r0 := xr.cell 0 _ rfl
          have c_r1 := xr.cell 1 _ rfl
          have m_r0 := xr.mark 0 _ rfl
          have m_r1 := xr.mark 1 _ rfl
          have l_r := xr.lt (Nat.succ_pos _)
          go_wp2_with fail
          go_meet
          case rel => exact ⟨_, HS.out, HQ.out⟩
        | false =>
          rw [hb] at xr
          have HB := Lib.hid hb
          have HDL := Lib.hid hdl
          have xb := hS.box
          unfold tbC at xb
          dsimp only at xb
          clear hb hdl
          obtain ⟨x, s', hx⟩ : ∃ x t, textS s = (x, t) := ⟨_, _, rfl⟩
          obtain ⟨m, s'', hm⟩ : ∃ m t, numS 600 s' = (m, t) := ⟨_, _, rfl⟩
          have HTX := Lib.hid hx
          have HNM := Lib.hid hm
          clear hx hm
          obtain ⟨pm, cm, rfl⟩ : ∃ p c, vm = .slice p done.length c := by
            obtain ⟨p, c, hv⟩ := (Sl.of_owns (hS.row_own (i := 0) rfl)).len
            exact ⟨p, c, by rw [← List.length_map (fun x : List UInt8 × Int => x.1)]; exact hv⟩
          have HS := Lib.hid hS
          clear hS
          have c_r0 := xr.cell 0 _ rfl
          have c_r1 := xr.cell 1 _ rfl
          have m_r0 := xr.mark 0 _ rfl
          have m_r1 := xr.mark 1 _ rfl
          have l_r := xr.lt (Nat.succ_pos _)
          go_wp2_with fail
          clear c_r0 c_r1 m_r0 m_r1 l_r
          clear xr
          refine wp_region_T (fun _ _ => False) (fun w' => boxAt w' tb [.slice pm done.length cm, vl, vc, va, vcl, .int .i64 0, vst, vlb, vba, vdf, vne, vch]) (.take 0 (.take 1 (.take 2 (.run 3 false (.run 4 false (.run 5 false (.take 6 (.run 7 true .nil)))))))) (fun _ _ _ _ h => h.elim) (xb.later (Gr.drew _)) (by kernel_rfl) (by kernel_rfl) ?_
          simp only [pickOps, nthOp]
          intro wq hG hSq
          have hS := HS.out.later hG
          have hQ2 := hQ.trans (KpQ.gr hG)
          clear hG hSq
          repeat (first | (refine wpP_skip_take ?_ ?_; (focus rfl); try simp only [Act.put, List.setIfInBounds_toArray, List.set_cons_zero, List.set_cons_succ]) | (refine wpP_skip_run ?_ ?_; (focus rfl); try simp only [Act.put, List.setIfInBounds_toArray, List.set_cons_zero, List.set_cons_succ]) | (refine wpP_take ?_ ?_; (focus rfl); apply Exists.intro; refine ⟨fun w' hw' => ?_, ?_⟩; (focus (have z0 := hw'.cell 0 _ rfl; go_simp; (try rfl); done)); try simp only [Act.put, List.setIfInBounds_toArray, List.set_cons_zero, List.set_cons_succ]))
          refine wpP_run ?_ (fun K hK => ?_); (focus rfl)
          go_simp
          go_at_call 70
          (with_reducible refine (text17_is wq rb g s s' x hS.rd HTX.out).mono ?_); rintro e w2a ⟨rfl, hr2, hk2⟩
          try dsimp only
          replace hQ2 := hQ2.trans (KpQ.of_p hk2 hS.rb_out)
          replace hS := hS.num hk2 hr2
          refine hK.out _ _ hS.box ?_
          clear hK K hk2 hr2
          try simp only [Act.put, List.setIfInBounds_toArray, List.set_cons_zero, List.set_cons_succ]
          repeat (first | (refine wpP_skip_take ?_ ?_; (focus rfl); try simp only [Act.put, List.setIfInBounds_toArray, List.set_cons_zero, List.set_cons_succ]) | (refine wpP_skip_run ?_ ?_; (focus rfl); try simp only [Act.put, List.setIfInBounds_toArray, List.set_cons_zero, List.set_cons_succ]) | (refine wpP_take ?_ ?_; (focus rfl); apply Exists.intro; refine ⟨fun w' hw' => ?_, ?_⟩; (focus (have z0 := hw'.cell 0 _ rfl; go_simp; (try rfl); done)); try simp only [Act.put, List.setIfInBounds_toArray, List.set_cons_zero, List.set_cons_succ]))
          refine wpP_run ?_ (fun K hK => ?_); (focus rfl)
          go_simp
          refine name_K (fun w3 hW => ?_)
          have hg3 : Gr w2a w3 := by rw [hW]; exact Gr.alloc _ _
          have hnc : ∀ (j : Nat) (u : Value), [Value.string (st x)][j]? = some u → w3.cell? ((⟨w2a.heap.size, 0, none⟩ : Addr).add j) = some u := by rw [hW]; exact new_cells w2a [Value.string (st x)] _
          replace hS := hS.later hg3
          replace hQ2 := hQ2.trans (KpQ.gr hg3)
          refine hK.out _ _ hS.box ?_
          clear hK K hg3 hW
          try simp only [Act.put, List.setIfInBounds_toArray, List.set_cons_zero, List.set_cons_succ]
          repeat (first | (refine wpP_skip_take ?_ ?_; (focus rfl); try simp only [Act.put, List.setIfInBounds_toArray, List.set_cons_zero, List.set_cons_succ]) | (refine wpP_skip_run ?_ ?_; (focus rfl); try simp only [Act.put, List.setIfInBounds_toArray, List.set_cons_zero, List.set_cons_succ]) | (refine wpP_take ?_ ?_; (focus rfl); apply Exists.intro; refine ⟨fun w' hw' => ?_, ?_⟩; (focus (have z0 := hw'.cell 0 _ rfl; go_simp; (try rfl); done)); try simp only [Act.put, List.setIfInBounds_toArray, List.set_cons_zero, List.set_cons_succ]))
          refine wpP_run ?_ (fun K hK => ?_); (focus rfl)
          refine wp_append_at w3 (.tmp 30) (.tmp 33) 26 rfl w.heap.size 9 iS (.string { data := #[] }) 1 16 Tryd.underlying26 hiS hiS0 hiS1 hiS2 rfl (by decide) _ _ _ rfl (hS.row_own (i := 0) rfl) ⟨w2a.heap.size, 0, none⟩ 1 1 [Value.string (st x)] rfl rfl hnc (fun u hu => by simp at hu; (first | (subst hu; rfl) | (rcases hu with rfl | rfl <;> rfl))) ?c3a ?c4a ?c5a ?_
          case c3a => have := HDL.out; simp; unfold maxLen; omega
          case c4a => have := HDL.out; simp; omega
          case c5a => exact hS.base
          intro v' w4 ho hg hat
          have xb4 := hS.box.grown hg (by simp [tbC]) (fun e => hS.row_ne (i := 0) rfl hS.inX e)
          have hQ4 := hS.kp_grown hQ2 (fun _ h => h) (i := 0) rfl hg
          have hS4 := hS.grow (i := 0) rfl hg ho hat 0 (by omega) (rows_modes _ _ [] v' x) rfl hS.len
          obtain ⟨p4a, c4a, rfl⟩ := (Sl.of_owns ho).len
          refine hK.out _ _ xb4 ?_
          clear hK K hg ho hat hS hQ2 hnc
          try simp only [Act.put, List.setIfInBounds_toArray, List.set_cons_zero, List.set_cons_succ]
          repeat (first | (refine wpP_skip_take ?_ ?_; (focus rfl); try simp only [Act.put, List.setIfInBounds_toArray, List.set_cons_zero, List.set_cons_succ]) | (refine wpP_skip_run ?_ ?_; (focus rfl); try simp only [Act.put, List.setIfInBounds_toArray, List.set_cons_zero, List.set_cons_succ]) | (refine wpP_take ?_ ?_; (focus rfl); apply Exists.intro; refine ⟨fun w' hw' => ?_, ?_⟩; (focus (have z0 := hw'.cell 0 _ rfl; go_simp; (try rfl); done)); try simp only [Act.put, List.setIfInBounds_toArray, List.set_cons_zero, List.set_cons_succ]))
          unfold tbC at xb4
          dsimp only at xb4
          have z4 := xb4.cell 0 _ rfl
          have y4 := xb4.mark 0 _ rfl
          have l4 := xb4.lt (Nat.succ_pos _)
          refine wpP_last ?_ (fun K hK => ?_); (focus rfl)
          go_simp
          refine hK.out _ _ ?_
          clear hK K z4 y4 l4
          try simp only [Act.put, List.setIfInBounds_toArray, List.set_cons_zero, List.set_cons_succ]
          refine wpP_done ?_
          have hQ5 := hQ4.store 0 (.slice p4a ((done.map (fun x : List UInt8 × Int => x.1)).length + 1) c4a) hS4.tlow
          clear hQ4 xb4
          simp only [List.length_map] at hS4 hQ5
          go_wp2_with fail
          refine name_world (fun W5 hW5 => ?_)
          rw [← hW5] at hS4 hQ5
          clear hW5
          have xb := hS4.box
          unfold tbC at xb
          dsimp only at xb
          have hQ := hQ5
          clear hQ5
          obtain ⟨ps, cs, rfl⟩ : ∃ p c, vst = .slice p done.length c := by
            obtain ⟨p, c, hv⟩ := (Sl.of_owns (hS4.row_own (i := 5) rfl)).len
            exact ⟨p, c, by rw [← List.length_map (fun x : List UInt8 × Int => x.2)]; exact hv⟩
          have HS := Lib.hid hS4
          clear hS4
          go_wp2_with fail
          refine wp_region_T (fun _ _ => False) (fun w' => boxAt w' tb [.slice p4a (done.length + 1) c4a, vl, vc, va, vcl, .int .i64 0, .slice ps done.length cs, vlb, vba, vdf, vne, vch]) (.take 0 (.take 1 (.take 2 (.run 3 false (.run 4 false (.run 5 false (.take 6 (.run 7 true .nil)))))))) (fun _ _ _ _ h => h.elim) (xb.later (Gr.drew _)) (by kernel_rfl) (by kernel_rfl) ?_
          simp only [pickOps, nthOp]
          intro wq hG hSq
          have hS := HS.out.later hG
          have hQ2 := hQ.trans (KpQ.gr hG)
          clear hG hSq
          repeat (first | (refine wpP_skip_take ?_ ?_; (focus rfl); try simp only [Act.put, List.setIfInBounds_toArray, List.set_cons_zero, List.set_cons_succ]) | (refine wpP_skip_run ?_ ?_; (focus rfl); try simp only [Act.put, List.setIfInBounds_toArray, List.set_cons_zero, List.set_cons_succ]) | (refine wpP_take ?_ ?_; (focus rfl); apply Exists.intro; refine ⟨fun w' hw' => ?_, ?_⟩; (focus (have z0 := hw'.cell 6 _ rfl; go_simp; (try rfl); done)); try simp only [Act.put, List.setIfInBounds_toArray, List.set_cons_zero, List.set_cons_succ]))
          refine wpP_run ?_ (fun K hK => ?_); (focus rfl)
          go_simp
          go_at_call 69
          (with_reducible refine (num17_is wq rb g s' s'' 600 m 600 rfl hS.rd (by omega) HNM.out).mono ?_); rintro e w2a ⟨rfl, hr2, hk2⟩
          try dsimp only
          replace hQ2 := hQ2.trans (KpQ.of_p hk2 hS.rb_out)
          replace hS := hS.num hk2 hr2
          refine hK.out _ _ hS.box ?_
          clear hK K hk2 hr2
          try simp only [Act.put, List.setIfInBounds_toArray, List.set_cons_zero, List.set_cons_succ]
          repeat (first | (refine wpP_skip_take ?_ ?_; (focus rfl); try simp only [Act.put, List.setIfInBounds_toArray, List.set_cons_zero, List.set_cons_succ]) | (refine wpP_skip_run ?_ ?_; (focus rfl); try simp only [Act.put, List.setIfInBounds_toArray, List.set_cons_zero, List.set_cons_succ]) | (refine wpP_take ?_ ?_; (focus rfl); apply Exists.intro; refine ⟨fun w' hw' => ?_, ?_⟩; (focus (have z0 := hw'.cell 6 _ rfl; go_simp; (try rfl); done)); try simp only [Act.put, List.setIfInBounds_toArray, List.set_cons_zero, List.set_cons_succ]))
          refine wpP_run ?_ (fun K hK => ?_); (focus rfl)
          go_simp
          refine name_K (fun w3 hW => ?_)
          have hg3 : Gr w2a w3 := by rw [hW]; exact Gr.alloc _ _
          have hnc : ∀ (j : Nat) (u : Value), [Value.int .i64 (m : Int)][j]? = some u → w3.cell? ((⟨w2a.heap.size, 0, none⟩ : Addr).add j) = some u := by rw [hW]; exact new_cells w2a [Value.int .i64 (m : Int)] _
          replace hS := hS.later hg3
          replace hQ2 := hQ2.trans (KpQ.gr hg3)
          refine hK.out _ _ hS.box ?_
          clear hK K hg3 hW
          try simp only [Act.put, List.setIfInBounds_toArray, List.set_cons_zero, List.set_cons_succ]
          repeat (first | (refine wpP_skip_take ?_ ?_; (focus rfl); try simp only [Act.put, List.setIfInBounds_toArray, List.set_cons_zero, List.set_cons_succ]) | (refine wpP_skip_run ?_ ?_; (focus rfl); try simp only [Act.put, List.setIfInBounds_toArray, List.set_cons_zero, List.set_cons_succ]) | (refine wpP_take ?_ ?_; (focus rfl); apply Exists.intro; refine ⟨fun w' hw' => ?_, ?_⟩; (focus (have z0 := hw'.cell 6 _ rfl; go_simp; (try rfl); done)); try simp only [Act.put, List.setIfInBounds_toArray, List.set_cons_zero, List.set_cons_succ]))
          refine wpP_run ?_ (fun K hK => ?_); (focus rfl)
          refine wp_append_at w3 (.tmp 37) (.tmp 40) 23 rfl w.heap.size 3 iI (.int .i64 0) 1 8 Tryd.underlying23 hiI hiI0 hiI1 hiI2 rfl (by decide) _ _ _ rfl (hS.row_own (i := 5) rfl) ⟨w2a.heap.size, 0, none⟩ 1 1 [Value.int .i64 (m : Int)] rfl rfl hnc (fun u hu => by simp at hu; (first | (subst hu; rfl) | (rcases hu with rfl | rfl <;> rfl))) ?c3b ?c4b ?c5b ?_
          case c3b => have := HDL.out; simp; unfold maxLen; omega
          case c4b => have := HDL.out; simp; omega
          case c5b => exact hS.base
          intro v' w4 ho hg hat
          have xb4 := hS.box.grown hg (by simp [tbC]) (fun e => hS.row_ne (i := 5) rfl hS.inX e)
          have hQ4 := hS.kp_grown hQ2 (fun _ h => h) (i := 5) rfl hg
          have hS4 := hS.grow (i := 5) rfl hg ho hat 6 (by omega) (rows_starts _ _ [] v' (m : Int)) rfl hS.len
          obtain ⟨p4b, c4b, rfl⟩ := (Sl.of_owns ho).len
          refine hK.out _ _ xb4 ?_
          clear hK K hg ho hat hS hQ2 hnc
          try simp only [Act.put, List.setIfInBounds_toArray, List.set_cons_zero, List.set_cons_succ]
          repeat (first | (refine wpP_skip_take ?_ ?_; (focus rfl); try simp only [Act.put, List.setIfInBounds_toArray, List.set_cons_zero, List.set_cons_succ]) | (refine wpP_skip_run ?_ ?_; (focus rfl); try simp only [Act.put, List.setIfInBounds_toArray, List.set_cons_zero, List.set_cons_succ]) | (refine wpP_take ?_ ?_; (focus rfl); apply Exists.intro; refine ⟨fun w' hw' => ?_, ?_⟩; (focus (have z0 := hw'.cell 6 _ rfl; go_simp; (try rfl); done)); try simp only [Act.put, List.setIfInBounds_toArray, List.set_cons_zero, List.set_cons_succ]))
          unfold tbC at xb4
          dsimp only at xb4
          have z4 := xb4.cell 6 _ rfl
          have y4 := xb4.mark 6 _ rfl
          have l4 := xb4.lt (Nat.succ_pos _)
          refine wpP_last ?_ (fun K hK => ?_); (focus rfl)
          go_simp
          refine hK.out _ _ ?_
          clear hK K z4 y4 l4
          try simp only [Act.put, List.setIfInBounds_toArray, List.set_cons_zero, List.set_cons_succ]
          refine wpP_done ?_
          have hQ5 := hQ4.store 6 (.slice p4b ((done.map (fun x : List UInt8 × Int => x.2)).length + 1) c4b) hS4.tlow
          clear hQ4 xb4
          simp only [List.length_map] at hS4 hQ5
          go_wp2_with fail
          go_roundw
          case rel => exact ⟨j + 1, done ++ [(x, (m : Int))], _, s'', by go_num, by omega, by rw [List.length_append, HDL.out]; rfl, by simpa using hS4, hQ5, Lib.hid (by
            rw [HM.out, loop_on modeS _ _ HB.out (by omega), modeS_is HTX.out HNM.out]; rfl)⟩
          case measure => simp [intOf]; omega
      · have HX : (ml, s1) = (done, s) := by
          rw [← HL1.out, HM.out, show n1 - j = 0 by omega, loop_end]
        injection HX with e1 e2
        have HS := Lib.hid (e1 ▸ e2 ▸ hS)
        have HQ := Lib.hid hQ
        have hjJ : ¬ (j : Int) < (n1 : Int) := by omega
        clear hS hQ e1 e2 hdl hjn
        go_wp2_with fail
        go_meet
        case rel => exact ⟨_, HS.out, HQ.out⟩
  case rest =>
  obtain ⟨v, hS, hQ⟩ := hcut
  go_wp2_with fail
  go_at_call 69
  (with_reducible refine (num17_is wc rb g s1 a2 200 n2 200 rfl hS.rd (by omega) HN2.out).mono ?_); rintro e w2 ⟨rfl, hr, hk⟩
  have hS1 := hS.num hk hr
  have hQ1 : KpQ w.heap.size rb [tb, w.heap.size] tb W0 w2 := hQ.trans (KpQ.of_p hk hS.rb_out)
  clear hS hr hk hQ
  go_upto_block 2 with fail
  go_cut [6] from 45 to 101 (fun _ wx => ∃ v, Rsu wx w.heap.size rb tb g s2 [tb, w.heap.size] ⟨ml.map (·.1), rl.map (·.1), rl.map (·.2.1), rl.map (·.2.2), [], 0, ml.map (·.2), [], [], [], [], []⟩ v [] ∧ KpQ w.heap.size rb [tb, w.heap.size] tb W0 wx)
  case first =>
    go_wp2_with fail
    go_loopw [6] (fun i wr => ∃ (j : Nat) (done : List (List UInt8 × ((Int × Int) × List (Int × Int)))) (v : TbV) (s : St17), i = .int .i64 (j : Int) ∧ j ≤ n2 ∧ done.length = j ∧ Rsu wr w.heap.size rb tb g s [tb, w.heap.size] ⟨ml.map (·.1), done.map (·.1), done.map (·.2.1), done.map (·.2.2), [], 0, ml.map (·.2), [], [], [], [], []⟩ v [] ∧ KpQ w.heap.size rb [tb, w.heap.size] tb W0 wr ∧ Hid (loopS ruleS n2 a2 = appS done (loopS ruleS (n2 - j) s))) (fun i _ => n2 - (intOf i).toNat)
    case atStart => exact ⟨0, [], _, a2, rfl, Nat.zero_le _, rfl, hS1, hQ1, Lib.hid (by rw [appS_nil]; try rfl)⟩
    case round =>
      obtain ⟨j, done, v, s, rfl, hj, hdl, hS, hQ, HM⟩ := hrel
      obtain ⟨vm, vl, vc, va, vrows, vcl, vst, vlb, vba, vdf, vne, vch⟩ := v
      obtain ⟨o, c, xr, _, _⟩ := hS.rd.box
      by_cases hjn : j < n2
      · have hjI : (j : Int) < (n2 : Int) := by omega
        cases hb : s.2 with
        | true =>
          rw [hb] at xr
          have HX : (rl, s2) = (done, s) := by rw [← HL2.out, HM.out, loop_bad _ _ _ hb]
          injection HX with e1 e2
          have HS := Lib.hid (e1 ▸ e2 ▸ hS)
          have HQ := Lib.hid hQ
          clear hS hQ e1 e2 hdl
          have c_r0 := xr.cell 0 _ rfl
          have c_r1 := xr.cell 1 _ rfl
          have m_r0 := xr.mark 0 _ rfl
          have m_r1 := xr.mark 1 _ rfl
          have l_r := xr.lt (Nat.succ_pos _)
          go_wp2_with fail
          go_meet
          case rel => exact ⟨_, HS.out, HQ.out⟩
        | false =>
          rw [hb] at xr
          have HB := Lib.hid hb
          have HDL := Lib.hid hdl
          have xb := hS.box
          unfold tbC at xb
          dsimp only at xb
          clear hb hdl
          obtain ⟨x, t1, hx⟩ : ∃ x t, textS s = (x, t) := ⟨_, _, rfl⟩
          obtain ⟨k1, t2, hk1⟩ : ∃ m t, numS 9 t1 = (m, t) := ⟨_, _, rfl⟩
          obtain ⟨k2, t3, hk2⟩ : ∃ m t, numS 65536 t2 = (m, t) := ⟨_, _, rfl⟩
          obtain ⟨q, t4, hq⟩ : ∃ m t, numS 8 t3 = (m, t) := ⟨_, _, rfl⟩
          obtain ⟨al, t5, hal⟩ : ∃ m t, loopS actS q t4 = (m, t) := ⟨_, _, rfl⟩
          have HTX := Lib.hid hx
          have HK1 := Lib.hid hk1
          have HK2 := Lib.hid hk2
          have HQ8 := Lib.hid hq
          have HAL := Lib.hid hal
          have hq8 := numS_of hq
          have hall : al.length ≤ q := by have := loop_len actS q t4; rw [hal] at this; exact this
          clear hx hk1 hk2 hq hal
          obtain ⟨pl, cl_, rfl⟩ : ∃ p c, vl = .slice p done.length c := by
            obtain ⟨p, c, hv⟩ := (Sl.of_owns (hS.row_own (i := 1) rfl)).len
            exact ⟨p, c, by rw [← List.length_map (fun x : List UInt8 × ((Int × Int) × List (Int × Int)) => x.1)]; exact hv⟩
          have HS := Lib.hid hS
          clear hS
          have c_r0 := xr.cell 0 _ rfl
          have c_r1 := xr.cell 1 _ rfl
          have m_r0 := xr.mark 0 _ rfl
          have m_r1 := xr.mark 1 _ rfl
          have l_r := xr.lt (Nat.succ_pos _)
          go_wp2_with fail
          clear c_r0 c_r1 m_r0 m_r1 l_r
          clear xr
          refine wp_region_T (fun _ _ => False) (fun w' => boxAt w' tb [vm, .slice pl done.length cl_, vc, va, vcl, .int .i64 0, vst, vlb, vba, vdf, vne, vch]) (.take 0 (.take 1 (.take 2 (.run 3 false (.run 4 false (.run 5 false (.take 6 (.run 7 true .nil)))))))) (fun _ _ _ _ h => h.elim) (xb.later (Gr.drew _)) (by kernel_rfl) (by kernel_rfl) ?_
          simp only [pickOps, nthOp]
          intro wq hG hSq
          have hS := HS.out.later hG
          have hQ2 := hQ.trans (KpQ.gr hG)
          clear hG hSq
          repeat (first | (refine wpP_skip_take ?_ ?_; (focus rfl); try simp only [Act.put, List.setIfInBounds_toArray, List.set_cons_zero, List.set_cons_succ]) | (refine wpP_skip_run ?_ ?_; (focus rfl); try simp only [Act.put, List.setIfInBounds_toArray, List.set_cons_zero, List.set_cons_succ]) | (refine wpP_take ?_ ?_; (focus rfl); apply Exists.intro; refine ⟨fun w' hw' => ?_, ?_⟩; (focus (have z0 := hw'.cell 1 _ rfl; go_simp; (try rfl); done)); try simp only [Act.put, List.setIfInBounds_toArray, List.set_cons_zero, List.set_cons_succ]))
          refine wpP_run ?_ (fun K hK => ?_); (focus rfl)
          go_simp
          go_at_call 70
          (with_reducible refine (text17_is wq rb g s t1 x hS.rd HTX.out).mono ?_); rintro e w2a ⟨rfl, hr2, hk2⟩
          try dsimp only
          replace hQ2 := hQ2.trans (KpQ.of_p hk2 hS.rb_out)
          replace hS := hS.num hk2 hr2
          refine hK.out _ _ hS.box ?_
          clear hK K hk2 hr2
          try simp only [Act.put, List.setIfInBounds_toArray, List.set_cons_zero, List.set_cons_succ]
          repeat (first | (refine wpP_skip_take ?_ ?_; (focus rfl); try simp only [Act.put, List.setIfInBounds_toArray, List.set_cons_zero, List.set_cons_succ]) | (refine wpP_skip_run ?_ ?_; (focus rfl); try simp only [Act.put, List.setIfInBounds_toArray, List.set_cons_zero, List.set_cons_succ]) | (refine wpP_take ?_ ?_; (focus rfl); apply Exists.intro; refine ⟨fun w' hw' => ?_, ?_⟩; (focus (have z0 := hw'.cell 1 _ rfl; go_simp; (try rfl); done)); try simp only [Act.put, List.setIfInBounds_toArray, List.set_cons_zero, List.set_cons_succ]))
          refine wpP_run ?_ (fun K hK => ?_); (focus rfl)
          go_simp
          refine name_K (fun w3 hW => ?_)
          have hg3 : Gr w2a w3 := by rw [hW]; exact Gr.alloc _ _
          have hnc : ∀ (j : Nat) (u : Value), [Value.string (st x)][j]? = some u → w3.cell? ((⟨w2a.heap.size, 0, none⟩ : Addr).add j) = some u := by rw [hW]; exact new_cells w2a [Value.string (st x)] _
          replace hS := hS.later hg3
          replace hQ2 := hQ2.trans (KpQ.gr hg3)
          refine hK.out _ _ hS.box ?_
          clear hK K hg3 hW
          try simp only [Act.put, List.setIfInBounds_toArray, List.set_cons_zero, List.set_cons_succ]
          repeat (first | (refine wpP_skip_take ?_ ?_; (focus rfl); try simp only [Act.put, List.setIfInBounds_toArray, List.set_cons_zero, List.set_cons_succ]) | (refine wpP_skip_run ?_ ?_; (focus rfl); try simp only [Act.put, List.setIfInBounds_toArray, List.set_cons_zero, List.set_cons_succ]) | (refine wpP_take ?_ ?_; (focus rfl); apply Exists.intro; refine ⟨fun w' hw' => ?_, ?_⟩; (focus (have z0 := hw'.cell 1 _ rfl; go_simp; (try rfl); done)); try simp only [Act.put, List.setIfInBounds_toArray, List.set_cons_zero, List.set_cons_succ]))
          refine wpP_run ?_ (fun K hK => ?_); (focus rfl)
          refine wp_append_at w3 (.tmp 58) (.tmp 61) 26 rfl w.heap.size 9 iS (.string { data := #[] }) 1 16 Tryd.underlying26 hiS hiS0 hiS1 hiS2 rfl (by decide) _ _ _ rfl (hS.row_own (i := 1) rfl) ⟨w2a.heap.size, 0, none⟩ 1 1 [Value.string (st x)] rfl rfl hnc (fun u hu => by simp at hu; (first | (subst hu; rfl) | (rcases hu with rfl | rfl <;> rfl))) ?c3a ?c4a ?c5a ?_
          case c3a => have := HDL.out; simp; unfold maxLen; omega
          case c4a => have := HDL.out; simp; omega
          case c5a => exact hS.base
          intro v' w4 ho hg hat
          have xb4 := hS.box.grown hg (by simp [tbC]) (fun e => hS.row_ne (i := 1) rfl hS.inX e)
          have hQ4 := hS.kp_grown hQ2 (fun _ h => h) (i := 1) rfl hg
          have hS4 := hS.grow (i := 1) rfl hg ho hat 1 (by omega) (rows_labels _ _ [] v' x) rfl hS.len
          obtain ⟨p4a, c4a, rfl⟩ := (Sl.of_owns ho).len
          refine hK.out _ _ xb4 ?_
          clear hK K hg ho hat hS hQ2 hnc
          try simp only [Act.put, List.setIfInBounds_toArray, List.set_cons_zero, List.set_cons_succ]
          repeat (first | (refine wpP_skip_take ?_ ?_; (focus rfl); try simp only [Act.put, List.setIfInBounds_toArray, List.set_cons_zero, List.set_cons_succ]) | (refine wpP_skip_run ?_ ?_; (focus rfl); try simp only [Act.put, List.setIfInBounds_toArray, List.set_cons_zero, List.set_cons_succ]) | (refine wpP_take ?_ ?_; (focus rfl); apply Exists.intro; refine ⟨fun w' hw' => ?_, ?_⟩; (focus (have z0 := hw'.cell 1 _ rfl; go_simp; (try rfl); done)); try simp only [Act.put, List.setIfInBounds_toArray, List.set_cons_zero, List.set_cons_succ]))
          unfold tbC at xb4
          dsimp only at xb4
          have z4 := xb4.cell 1 _ rfl
          have y4 := xb4.mark 1 _ rfl
          have l4 := xb4.lt (Nat.succ_pos _)
          refine wpP_last ?_ (fun K hK => ?_); (focus rfl)
          go_simp
          refine hK.out _ _ ?_
          clear hK K z4 y4 l4
          try simp only [Act.put, List.setIfInBounds_toArray, List.set_cons_zero, List.set_cons_succ]
          refine wpP_done ?_
          have hQ5 := hQ4.store 1 (.slice p4a ((done.map (fun x : List UInt8 × ((Int × Int) × List (Int × Int)) => x.1)).length + 1) c4a) hS4.tlow
          clear hQ4 xb4
          simp only [List.length_map] at hS4 hQ5
          go_wp2_with fail
          refine name_world (fun W5 hW5 => ?_)
          rw [← hW5] at hS4 hQ5
          clear hW5
          have xb := hS4.box
          unfold tbC at xb
          dsimp only at xb
          have hQ := hQ5
          clear hQ5
          obtain ⟨pc, cc, rfl⟩ : ∃ p c, vc = .slice p done.length c := by
            obtain ⟨p, c, hv⟩ := (Sl.of_owns (hS4.row_own (i := 2) rfl)).len
            exact ⟨p, c, by rw [← List.length_map (fun x : List UInt8 × ((Int × Int) × List (Int × Int)) => x.2.1)]; exact hv⟩
          have HS := Lib.hid hS4
          clear hS4
          go_wp2_with fail
          refine wp_region_T (fun _ _ => False) (fun w' => boxAt w' tb [vm, .slice p4a (done.length + 1) c4a, .slice pc done.length cc, va, vcl, .int .i64 0, vst, vlb, vba, vdf, vne, vch]) (.take 0 (.take 1 (.take 2 (.take 4 (.run 3 false (.run 5 false (.take 6 (.run 7 false (.run 8 false (.take 9 (.run 10 true .nil))))))))))) (fun _ _ _ _ h => h.elim) (xb.later (Gr.drew _)) (by kernel_rfl) (by kernel_rfl) ?_
          simp only [pickOps, nthOp]
          intro wq hG hSq
          have hS := HS.out.later hG
          have hQ2 := hQ.trans (KpQ.gr hG)
          clear hG hSq
          repeat (first | (refine wpP_skip_take ?_ ?_; (focus rfl); try simp only [Act.put, List.setIfInBounds_toArray, List.set_cons_zero, List.set_cons_succ]) | (refine wpP_skip_run ?_ ?_; (focus rfl); try simp only [Act.put, List.setIfInBounds_toArray, List.set_cons_zero, List.set_cons_succ]) | (refine wpP_take ?_ ?_; (focus rfl); apply Exists.intro; refine ⟨fun w' hw' => ?_, ?_⟩; (focus (have z0 := hw'.cell 2 _ rfl; go_simp; (try rfl); done)); try simp only [Act.put, List.setIfInBounds_toArray, List.set_cons_zero, List.set_cons_succ]))
          refine wpP_run ?_ (fun K hK => ?_); (focus rfl)
          go_simp
          go_at_call 69
          (with_reducible refine (num17_is wq rb g t1 t2 9 k1 9 rfl hS.rd (by omega) HK1.out).mono ?_); rintro e w2a ⟨rfl, hr2, hk2⟩
          try dsimp only
          replace hQ2 := hQ2.trans (KpQ.of_p hk2 hS.rb_out)
          replace hS := hS.num hk2 hr2
          refine hK.out _ _ hS.box ?_
          clear hK K hk2 hr2
          try simp only [Act.put, List.setIfInBounds_toArray, List.set_cons_zero, List.set_cons_succ]
          repeat (first | (refine wpP_skip_take ?_ ?_; (focus rfl); try simp only [Act.put, List.setIfInBounds_toArray, List.set_cons_zero, List.set_cons_succ]) | (refine wpP_skip_run ?_ ?_; (focus rfl); try simp only [Act.put, List.setIfInBounds_toArray, List.set_cons_zero, List.set_cons_succ]) | (refine wpP_take ?_ ?_; (focus rfl); apply Exists.intro; refine ⟨fun w' hw' => ?_, ?_⟩; (focus (have z0 := hw'.cell 2 _ rfl; go_simp; (try rfl); done)); try simp only [Act.put, List.setIfInBounds_toArray, List.set_cons_zero, List.set_cons_succ]))
          refine wpP_run ?_ (fun K hK => ?_); (focus rfl)
          go_simp
          go_at_call 69
          (with_reducible refine (num17_is w2a rb g t2 t3 65536 k2 65536 rfl hS.rd (by omega) HK2.out).mono ?_); rintro e w2b ⟨rfl, hr2, hk2⟩
          try dsimp only
          replace hQ2 := hQ2.trans (KpQ.of_p hk2 hS.rb_out)
          replace hS := hS.num hk2 hr2
          refine hK.out _ _ hS.box ?_
          clear hK K hk2 hr2
          try simp only [Act.put, List.setIfInBounds_toArray, List.set_cons_zero, List.set_cons_succ]
          repeat (first | (refine wpP_skip_take ?_ ?_; (focus rfl); try simp only [Act.put, List.setIfInBounds_toArray, List.set_cons_zero, List.set_cons_succ]) | (refine wpP_skip_run ?_ ?_; (focus rfl); try simp only [Act.put, List.setIfInBounds_toArray, List.set_cons_zero, List.set_cons_succ]) | (refine wpP_take ?_ ?_; (focus rfl); apply Exists.intro; refine ⟨fun w' hw' => ?_, ?_⟩; (focus (have z0 := hw'.cell 2 _ rfl; go_simp; (try rfl); done)); try simp only [Act.put, List.setIfInBounds_toArray, List.set_cons_zero, List.set_cons_succ]))
          refine wpP_run ?_ (fun K hK => ?_); (focus rfl)
          go_simp
          refine name_K (fun w3 hW => ?_)
          have hg3 : Gr w2b w3 := by rw [hW]; exact Gr.alloc _ _
          have hnc : ∀ (j : Nat) (u : Value), [Value.int .i64 (k1 : Int), .int .i64 (k2 : Int)][j]? = some u → w3.cell? ((⟨w2b.heap.size, 0, none⟩ : Addr).add j) = some u := by rw [hW]; exact new_cells w2b [Value.int .i64 (k1 : Int), .int .i64 (k2 : Int)] _
          replace hS := hS.later hg3
          replace hQ2 := hQ2.trans (KpQ.gr hg3)
          refine hK.out _ _ hS.box ?_
          clear hK K hg3 hW
          try simp only [Act.put, List.setIfInBounds_toArray, List.set_cons_zero, List.set_cons_succ]
          repeat (first | (refine wpP_skip_take ?_ ?_; (focus rfl); try simp only [Act.put, List.setIfInBounds_toArray, List.set_cons_zero, List.set_cons_succ]) | (refine wpP_skip_run ?_ ?_; (focus rfl); try simp only [Act.put, List.setIfInBounds_toArray, List.set_cons_zero, List.set_cons_succ]) | (refine wpP_take ?_ ?_; (focus rfl); apply Exists.intro; refine ⟨fun w' hw' => ?_, ?_⟩; (focus (have z0 := hw'.cell 2 _ rfl; go_simp; (try rfl); done)); try simp only [Act.put, List.setIfInBounds_toArray, List.set_cons_zero, List.set_cons_succ]))
          refine wpP_run ?_ (fun K hK => ?_); (focus rfl)
          refine wp_append_at w3 (.tmp 65) (.tmp 71) 27 rfl w.heap.size 58 iC (.agg #[.int .i64 0, .int .i64 0]) 2 16 Tryd.underlying27 hiC hiC0 hiC1 hiC2 rfl (by decide) _ _ _ rfl (hS.row_own (i := 2) rfl) ⟨w2b.heap.size, 0, none⟩ 1 1 [Value.int .i64 (k1 : Int), .int .i64 (k2 : Int)] rfl rfl hnc (fun u hu => by simp at hu; (first | (subst hu; rfl) | (rcases hu with rfl | rfl <;> rfl))) ?c3b ?c4b ?c5b ?_
          case c3b => have := HDL.out; simp; unfold maxLen; omega
          case c4b => have := HDL.out; simp; omega
          case c5b => exact hS.base
          intro v' w4 ho hg hat
          have xb4 := hS.box.grown hg (by simp [tbC]) (fun e => hS.row_ne (i := 2) rfl hS.inX e)
          have hQ4 := hS.kp_grown hQ2 (fun _ h => h) (i := 2) rfl hg
          have hS4 := hS.grow (i := 2) rfl hg ho hat 2 (by omega) (rows_cuts _ _ [] v' ((k1 : Int), (k2 : Int))) rfl hS.len
          obtain ⟨p4b, c4b, rfl⟩ := (Sl.of_owns ho).len
          refine hK.out _ _ xb4 ?_
          clear hK K hg ho hat hS hQ2 hnc
          try simp only [Act.put, List.setIfInBounds_toArray, List.set_cons_zero, List.set_cons_succ]
          repeat (first | (refine wpP_skip_take ?_ ?_; (focus rfl); try simp only [Act.put, List.setIfInBounds_toArray, List.set_cons_zero, List.set_cons_succ]) | (refine wpP_skip_run ?_ ?_; (focus rfl); try simp only [Act.put, List.setIfInBounds_toArray, List.set_cons_zero, List.set_cons_succ]) | (refine wpP_take ?_ ?_; (focus rfl); apply Exists.intro; refine ⟨fun w' hw' => ?_, ?_⟩; (focus (have z0 := hw'.cell 2 _ rfl; go_simp; (try rfl); done)); try simp only [Act.put, List.setIfInBounds_toArray, List.set_cons_zero, List.set_cons_succ]))
          unfold tbC at xb4
          dsimp only at xb4
          have z4 := xb4.cell 2 _ rfl
          have y4 := xb4.mark 2 _ rfl
          have l4 := xb4.lt (Nat.succ_pos _)
          refine wpP_last ?_ (fun K hK => ?_); (focus rfl)
          go_simp
          refine hK.out _ _ ?_
          clear hK K z4 y4 l4
          try simp only [Act.put, List.setIfInBounds_toArray, List.set_cons_zero, List.set_cons_succ]
          refine wpP_done ?_
          have hQ5 := hQ4.store 2 (.slice p4b ((done.map (fun x : List UInt8 × ((Int × Int) × List (Int × Int)) => x.2.1)).length + 1) c4b) hS4.tlow
          clear hQ4 xb4
          simp only [List.length_map] at hS4 hQ5
          go_wp2_with fail
          refine name_calls (fun W5 hW5 => ?_)
          rw [← hW5] at hS4 hQ5
          clear hW5
          have hS := hS4
          have hQ := hQ5
          clear hS4 hQ5
          go_at_call 69
          (with_reducible refine (num17_is W5 rb g t3 t4 8 q 8 rfl hS.rd (by omega) HQ8.out).mono ?_); rintro e w6 ⟨rfl, hr, hk⟩
          replace hQ := hQ.trans (KpQ.of_p hk hS.rb_out)
          replace hS := hS.num hk hr
          obtain ⟨T2, hT2⟩ : ∃ T, (⟨ml.map (·.1), done.map (·.1) ++ [x], done.map (·.2.1) ++ [((k1 : Int), (k2 : Int))], done.map (·.2.2), [], 0, ml.map (·.2), [], [], [], [], []⟩ : Tb) = T := ⟨_, rfl⟩
          obtain ⟨V2, hV2⟩ : ∃ V, (⟨vm, .slice p4a (done.length + 1) c4a, .slice p4b (done.length + 1) c4b, va, vrows, vcl, vst, vlb, vba, vdf, vne, vch⟩ : TbV) = V := ⟨_, rfl⟩
          have HT2 := Lib.hid hT2
          have HV2 := Lib.hid hV2
          replace hS : Rsu w6 w.heap.size rb tb g t4 [tb, w.heap.size] T2 V2 [] := by rw [← hT2, ← hV2]; exact hS
          have hS6 := hS
          have hQ6 := hQ
          clear hk hr hS hQ hT2 hV2
          go_wp2_with fail
          go_loopw [8, 9] (fun lv i wr => ∃ (j2 : Nat) (dn : List (Int × Int)) (p : Option Addr) (c2 : Nat) (s : St17), i = .int .i64 (j2 : Int) ∧ j2 ≤ q ∧ dn.length = j2 ∧ lv = .slice p dn.length c2 ∧ Rsu wr w.heap.size rb tb g s [tb, w.heap.size] T2 V2 [⟨.slice p dn.length c2, 61, 2, dn.length, dn.flatMap prC⟩] ∧ KpQ w.heap.size rb [tb, w.heap.size] tb W0 wr ∧ Hid (loopS actS q t4 = appS dn (loopS actS (q - j2) s))) (fun _ i _ => q - (intOf i).toNat)
          case atStart => exact ⟨0, [], none, 0, t4, rfl, Nat.zero_le _, rfl, rfl, hS6.push _ 2, hQ6, Lib.hid (by rw [appS_nil]; rfl)⟩
          case round =>
            obtain ⟨j2, dn, pv, cv, s, rfl, hj2, hdn, rfl, hS, hQ, HM2⟩ := hrel
            obtain ⟨o, c, xr, _, _⟩ := hS.rd.box
            by_cases hjn2 : j2 < q
            · have hjI2 : (j2 : Int) < (q : Int) := by omega
              cases hb2 : s.2 with
              | true =>
                rw [hb2] at xr
                have HX : (al, t5) = (dn, s) := by rw [← HAL.out, HM2.out, loop_bad _ _ _ hb2]
                injection HX with e1 e2
                subst e1 e2
                clear hdn
                have c_r0 := xr.cell 0 _ rfl
                have c_r1 := xr.cell 1 _ rfl
                have m_r0 := xr.mark 0 _ rfl
                have m_r1 := xr.mark 1 _ rfl
                have l_r := xr.lt (Nat.succ_pos _)
                have HS := Lib.hid hS
                have HQ := Lib.hid hQ
                clear hS hQ
                rw [← HV2.out] at HS
                rw [← HT2.out] at HS
                have xb := HS.out.box
                unfold tbC at xb
                dsimp only at xb
                obtain ⟨pa, ca, rfl⟩ : ∃ p c, va = .slice p done.length c := by
                  obtain ⟨p, c, hv⟩ := (Sl.of_owns (HS.out.row_own (i := 3) rfl)).len
                  exact ⟨p, c, by rw [← List.length_map (fun x : List UInt8 × ((Int × Int) × List (Int × Int)) => x.2.2)]; exact hv⟩
                have hall8 : al.length ≤ 8 := by omega
                have z3 := xb.cell 3 _ rfl
                have y3 := xb.mark 3 _ rfl
                have lb := xb.lt (Nat.succ_pos _)
                clear xb
                go_wp2_with (at_builtin; refine wpList_append_own_at _ rfl (.tmp 97) (.tmp 99) 28 rfl w.heap.size 59 iA (.slice none 0 0) 1 24 Tryd.underlying28 hiA hiA0 hiA1 hiA2 rfl (by decide) _ _ _ rfl ((HS.out.later (Gr.alloc _ _)).row_own (i := 3) rfl) ⟨wr.heap.size, 0, none⟩ 1 1 [.slice pv al.length cv] rfl rfl ?c1p ?c2p ?c3p ?c4p ?c5p ?_)
                try (case c1p => exact new_cells _ [.slice pv al.length cv] _)
                case c2p => first | rfl | (intro u hu; simp at hu; subst hu; rfl)
                case c3p => have := HDL.out; simp; unfold maxLen; omega
                case c4p => have := HDL.out; simp; omega
                case c5p => first | exact (HS.out.later (Gr.alloc _ _)).base | (have := HS.out.base; omega)
                intro v' wA ho hg _ hat
                replace ho : wA.ownsRow w.heap.size 59 1 v' ((done.map (fun x : List UInt8 × ((Int × Int) × List (Int × Int)) => x.2.2)).length + 1) (vrows ++ [.slice pv al.length cv]) := by simpa using ho
                have hSa := HS.out.later (Gr.alloc _ (.cells #[.slice pv al.length cv] 59))
                have hQa := hSa.kp_grown (HQ.out.trans (KpQ.gr (Gr.alloc _ (.cells #[.slice pv al.length cv] 59)))) (fun _ h => h) (i := 3) rfl hg
                have xb4 := hSa.box.grown hg (by simp [tbC]) (fun e => hSa.row_ne (i := 3) rfl hSa.inX e)
                have hlen := hSa.len
                have hSc := hSa.grow (i := 3) rfl hg ho (hat.imp id (fun h => h.trans (by simp))) 3 (by omega) (rows_acts _ _ v' al (.slice pv al.length cv) hlen) rfl (by rw [List.length_append, List.length_append, hlen]; rfl)
                obtain ⟨pA, cA, rfl⟩ := (Sl.of_owns ho).len
                have hQc := hQa.store 3 (.slice pA ((done.map (fun x : List UInt8 × ((Int × Int) × List (Int × Int)) => x.2.2)).length + 1) cA) hSa.tlow
                clear ho hg hat hSa hQa z3 y3 lb
                unfold tbC at xb4
                dsimp only at xb4
                have z4 := xb4.cell 3 _ rfl
                have y4 := xb4.mark 3 _ rfl
                have l4 := xb4.lt (Nat.succ_pos _)
                clear xb4
                simp only [List.length_map] at hSc hQc
                go_wp2_with fail
                go_roundw
                case rel => exact ⟨j + 1, done ++ [(x, (((k1 : Int), (k2 : Int)), al))], _, t5, by go_num, by omega, by rw [List.length_append, HDL.out]; rfl, by simpa using hSc, hQc, Lib.hid (by
                  rw [HM.out, loop_on ruleS _ _ HB.out (by omega), ruleS_is HTX.out HK1.out HK2.out HQ8.out HAL.out]; rfl)⟩
                case measure => simp [intOf]; omega
              | false =>
                rw [hb2] at xr
                have HB2 := Lib.hid hb2
                have HDN := Lib.hid hdn
                obtain ⟨d1, z1, hd1⟩ : ∃ m t, numS 9 s = (m, t) := ⟨_, _, rfl⟩
                obtain ⟨d2, z2, hd2⟩ : ∃ m t, numS 16 z1 = (m, t) := ⟨_, _, rfl⟩
                have HD1 := Lib.hid hd1
                have HD2 := Lib.hid hd2
                have hdn8 : dn.length ≤ 8 := by omega
                clear hb2 hdn hd1 hd2
                have c_r0 := xr.cell 0 _ rfl
                have c_r1 := xr.cell 1 _ rfl
                have m_r0 := xr.mark 0 _ rfl
                have m_r1 := xr.mark 1 _ rfl
                have l_r := xr.lt (Nat.succ_pos _)
                go_wp2_with fail
                clear c_r0 c_r1 m_r0 m_r1 l_r
                clear xr
                go_at_call 69
                (with_reducible refine (num17_is wr rb g s z1 9 d1 9 rfl hS.rd (by omega) HD1.out).mono ?_); rintro e w7 ⟨rfl, hr, hk⟩
                replace hQ := hQ.trans (KpQ.of_p hk hS.rb_out)
                replace hS := hS.num hk hr
                clear hr hk
                go_wp2_with fail
                go_at_call 69
                (with_reducible refine (num17_is w7 rb g z1 z2 16 d2 16 rfl hS.rd (by omega) HD2.out).mono ?_); rintro e w9 ⟨rfl, hr, hk⟩
                replace hQ := hQ.trans (KpQ.of_p hk hS.rb_out)
                replace hS := hS.num hk hr
                have HSb := Lib.hid hS
                have HQb := Lib.hid hQ
                clear hr hk hS hQ
                go_wp2_with (at_builtin; refine wpList_append_own_at _ rfl (.tmp 88) (.tmp 94) 59 rfl w.heap.size 61 iT (.agg #[.int .i64 0, .int .i64 0]) 2 16 Tryd.underlying59 hiT hiT0 hiT1 hiT2 rfl (by decide) _ _ _ rfl ((HSb.out.later (Gr.alloc _ _)).row_own (i := (rowsOf T2 V2).length) (r := ⟨.slice pv dn.length cv, 61, 2, dn.length, dn.flatMap prC⟩) (by simp)) ⟨w9.heap.size, 0, none⟩ 1 1 [.int .i64 (d1 : Int), .int .i64 (d2 : Int)] rfl rfl ?c1 ?c2 ?c3 ?c4 ?c5 ?_)
                try (case c1 => exact new_cells _ [.int .i64 (d1 : Int), .int .i64 (d2 : Int)] _)
                case c2 => intro u hu; simp at hu; rcases hu with rfl | rfl <;> rfl
                case c3 => unfold maxLen; omega
                case c4 => omega
                case c5 => exact (HSb.out.later (Gr.alloc _ _)).base
                intro v' wA ho hg _ hat
                replace ho : wA.ownsRow w.heap.size 61 2 v' (dn ++ [((d1 : Int), (d2 : Int))]).length ((dn ++ [((d1 : Int), (d2 : Int))]).flatMap prC) := by
                  rw [List.length_append, List.flatMap_append]; exact ho
                have hSa := HSb.out.later (Gr.alloc _ (.cells #[.int .i64 (d1 : Int), .int .i64 (d2 : Int)] 61))
                have hQa := hSa.kp_grown (HQb.out.trans (KpQ.gr (Gr.alloc _ (.cells #[.int .i64 (d1 : Int), .int .i64 (d2 : Int)] 61)))) (fun _ h => h) (i := (rowsOf T2 V2).length) (r := ⟨.slice pv dn.length cv, 61, 2, dn.length, dn.flatMap prC⟩) (by simp) hg
                obtain ⟨pA, cA, rfl⟩ := (Sl.of_owns ho).len
                have hSc := hSa.growEx (i := (rowsOf T2 V2).length) (r := ⟨.slice pv dn.length cv, 61, 2, dn.length, dn.flatMap prC⟩) (by simp) hg ho (hat.imp id (fun h => h.trans (by simp [World.setCell]))) (ex2 := [⟨.slice pA (dn ++ [((d1 : Int), (d2 : Int))]).length cA, 61, 2, (dn ++ [((d1 : Int), (d2 : Int))]).length, (dn ++ [((d1 : Int), (d2 : Int))]).flatMap prC⟩]) (by simp [List.set_append_right])
                clear ho hg hat hSa
                go_wp2_with fail
                go_roundw
                case rel => exact ⟨j2 + 1, dn ++ [((d1 : Int), (d2 : Int))], pA, cA, z2, by go_num, by omega, by rw [List.length_append, HDN.out]; rfl, rfl, hSc, hQa, Lib.hid (by
                  rw [HM2.out, loop_on actS _ _ HB2.out (by omega), actS_is HD1.out HD2.out]; rfl)⟩
                case measure => simp [intOf]; omega
            · have hjJ2 : ¬ (j2 : Int) < (q : Int) := by omega
              have HX : (al, t5) = (dn, s) := by rw [← HAL.out, HM2.out, show q - j2 = 0 by omega, loop_end]
              injection HX with e1 e2
              subst e1 e2
              clear hdn
              have HS := Lib.hid hS
              have HQ := Lib.hid hQ
              clear hS hQ
              rw [← HV2.out] at HS
              rw [← HT2.out] at HS
              have xb := HS.out.box
              unfold tbC at xb
              dsimp only at xb
              obtain ⟨pa, ca, rfl⟩ : ∃ p c, va = .slice p done.length c := by
                obtain ⟨p, c, hv⟩ := (Sl.of_owns (HS.out.row_own (i := 3) rfl)).len
                exact ⟨p, c, by rw [← List.length_map (fun x : List UInt8 × ((Int × Int) × List (Int × Int)) => x.2.2)]; exact hv⟩
              have hall8 : al.length ≤ 8 := by omega
              have z3 := xb.cell 3 _ rfl
              have y3 := xb.mark 3 _ rfl
              have lb := xb.lt (Nat.succ_pos _)
              clear xb
              go_wp2_with (at_builtin; refine wpList_append_own_at _ rfl (.tmp 97) (.tmp 99) 28 rfl w.heap.size 59 iA (.slice none 0 0) 1 24 Tryd.underlying28 hiA hiA0 hiA1 hiA2 rfl (by decide) _ _ _ rfl ((HS.out.later (Gr.alloc _ _)).row_own (i := 3) rfl) ⟨wr.heap.size, 0, none⟩ 1 1 [.slice pv al.length cv] rfl rfl ?c1q ?c2q ?c3q ?c4q ?c5q ?_)
              try (case c1q => exact new_cells _ [.slice pv al.length cv] _)
              case c2q => first | rfl | (intro u hu; simp at hu; subst hu; rfl)
              case c3q => have := HDL.out; simp; unfold maxLen; omega
              case c4q => have := HDL.out; simp; omega
              case c5q => first | exact (HS.out.later (Gr.alloc _ _)).base | (have := HS.out.base; omega)
              intro v' wA ho hg _ hat
              replace ho : wA.ownsRow w.heap.size 59 1 v' ((done.map (fun x : List UInt8 × ((Int × Int) × List (Int × Int)) => x.2.2)).length + 1) (vrows ++ [.slice pv al.length cv]) := by simpa using ho
              have hSa := HS.out.later (Gr.alloc _ (.cells #[.slice pv al.length cv] 59))
              have hQa := hSa.kp_grown (HQ.out.trans (KpQ.gr (Gr.alloc _ (.cells #[.slice pv al.length cv] 59)))) (fun _ h => h) (i := 3) rfl hg
              have xb4 := hSa.box.grown hg (by simp [tbC]) (fun e => hSa.row_ne (i := 3) rfl hSa.inX e)
              have hlen := hSa.len
              have hSc := hSa.grow (i := 3) rfl hg ho (hat.imp id (fun h => h.trans (by simp))) 3 (by omega) (rows_acts _ _ v' al (.slice pv al.length cv) hlen) rfl (by rw [List.length_append, List.length_append, hlen]; rfl)
              obtain ⟨pA, cA, rfl⟩ := (Sl.of_owns ho).len
              have hQc := hQa.store 3 (.slice pA ((done.map (fun x : List UInt8 × ((Int × Int) × List (Int × Int)) => x.2.2)).length + 1) cA) hSa.tlow
              clear ho hg hat hSa hQa z3 y3 lb
              unfold tbC at xb4
              dsimp only at xb4
              have z4 := xb4.cell 3 _ rfl
              have y4 := xb4.mark 3 _ rfl
              have l4 := xb4.lt (Nat.succ_pos _)
              clear xb4
              simp only [List.length_map] at hSc hQc
              go_wp2_with fail
              go_roundw
              case rel => exact ⟨j + 1, done ++ [(x, (((k1 : Int), (k2 : Int)), al))], _, t5, by go_num, by omega, by rw [List.length_append, HDL.out]; rfl, by simpa using hSc, hQc, Lib.hid (by
                rw [HM.out, loop_on ruleS _ _ HB.out (by omega), ruleS_is HTX.out HK1.out HK2.out HQ8.out HAL.out]; rfl)⟩
              case measure => simp [intOf]; omega
      · have HX : (rl, s2) = (done, s) := by
          rw [← HL2.out, HM.out, show n2 - j = 0 by omega, loop_end]
        injection HX with e1 e2
        have HS := Lib.hid (e1 ▸ e2 ▸ hS)
        have HQ := Lib.hid hQ
        have hjJ : ¬ (j : Int) < (n2 : Int) := by omega
        clear hS hQ e1 e2 hdl hjn
        go_wp2_with fail
        go_meet
        case rel => exact ⟨_, HS.out, HQ.out⟩
  case rest =>
  obtain ⟨v, hS, hQ⟩ := hcut
  go_wp2_with fail
  go_at_call 69
  (with_reducible refine (num17_is wc rb g s2 s3 256 co 256 rfl hS.rd (by omega) HN3.out).mono ?_); rintro e w3 ⟨rfl, hr, hk⟩
  replace hQ := hQ.trans (KpQ.of_p hk hS.rb_out)
  replace hS := hS.num hk hr
  have xb := hS.box
  unfold tbC at xb
  dsimp only at xb
  have z5 := xb.cell 5 _ rfl
  have y5 := xb.mark 5 _ rfl
  have l5 := xb.lt (Nat.succ_pos _)
  have hS1 := hS.cnt (co : Int)
  have hQ1 := hQ.store 5 (.int .i64 (co : Int)) hS.tlow
  clear hr hk hS hQ xb
  go_upto_block 6 with fail
  go_cut [10] from 105 to 122 (fun _ wx => ∃ v, Rsu wx w.heap.size rb tb g s4 [tb, w.heap.size] ⟨ml.map (·.1), rl.map (·.1), rl.map (·.2.1), rl.map (·.2.2), cl, (co : Int), ml.map (·.2), [], [], [], [], []⟩ v [] ∧ KpQ w.heap.size rb [tb, w.heap.size] tb W0 wx)
  case first =>
    go_wp2_with fail
    go_loopw [10] (fun i wr => ∃ (j : Nat) (done : List (Int)) (v : TbV) (s : St17), i = .int .i64 (j : Int) ∧ j ≤ 256 ∧ done.length = j ∧ Rsu wr w.heap.size rb tb g s [tb, w.heap.size] ⟨ml.map (·.1), rl.map (·.1), rl.map (·.2.1), rl.map (·.2.2), done, (co : Int), ml.map (·.2), [], [], [], [], []⟩ v [] ∧ KpQ w.heap.size rb [tb, w.heap.size] tb W0 wr ∧ Hid (loopS (numI 256) 256 s3 = appS done (loopS (numI 256) (256 - j) s))) (fun i _ => 256 - (intOf i).toNat)
    case atStart => exact ⟨0, [], _, s3, rfl, Nat.zero_le _, rfl, hS1, hQ1, Lib.hid (by rw [appS_nil]; try rfl)⟩
    case round =>
      obtain ⟨j, done, v, s, rfl, hj, hdl, hS, hQ, HM⟩ := hrel
      obtain ⟨vm, vl, vc, va, vrows, vcl, vst, vlb, vba, vdf, vne, vch⟩ := v
      obtain ⟨o, c, xr, _, _⟩ := hS.rd.box
      by_cases hjn : j < 256
      · have hjI : (j : Int) < 256 := by omega
        cases hb : s.2 with
        | true =>
          rw [hb] at xr
          have HX : (cl, s4) = (done, s) := by rw [← HL4.out, HM.out, loop_bad _ _ _ hb]
          injection HX with e1 e2
          have HS := Lib.hid (e1 ▸ e2 ▸ hS)
          have HQ := Lib.hid hQ
          clear hS hQ e1 e2 hdl
          have c_r0 := xr.cell 0 _ rfl
          have c_r1 := xr.cell 1 _ rfl
          have m_r0 := xr.mark 0 _ rfl
          have m_r1 := xr.mark 1 _ rfl
          have l_r := xr.lt (Nat.succ_pos _)
          go_wp2_with fail
          go_meet
          case rel => exact ⟨_, HS.out, HQ.out⟩
        | false =>
          rw [hb] at xr
          have HB := Lib.hid hb
          have HDL := Lib.hid hdl
          have xb := hS.box
          unfold tbC at xb
          dsimp only at xb
          clear hb hdl
          obtain ⟨m, t1, hm⟩ : ∃ m t, numS 256 s = (m, t) := ⟨_, _, rfl⟩
          have HNM := Lib.hid hm
          clear hm
          obtain ⟨pc, cc, rfl⟩ : ∃ p c, vcl = .slice p done.length c := (Sl.of_owns (hS.row_own (i := 4) rfl)).len
          have HS := Lib.hid hS
          clear hS
          have c_r0 := xr.cell 0 _ rfl
          have c_r1 := xr.cell 1 _ rfl
          have m_r0 := xr.mark 0 _ rfl
          have m_r1 := xr.mark 1 _ rfl
          have l_r := xr.lt (Nat.succ_pos _)
          go_wp2_with fail
          clear c_r0 c_r1 m_r0 m_r1 l_r
          clear xr
          refine wp_region_T (fun _ _ => False) (fun w' => boxAt w' tb [vm, vl, vc, va, .slice pc done.length cc, .int .i64 (co : Int), vst, vlb, vba, vdf, vne, vch]) (.take 0 (.take 1 (.take 2 (.run 3 false (.run 4 false (.run 5 false (.take 6 (.run 7 true .nil)))))))) (fun _ _ _ _ h => h.elim) (xb.later (Gr.drew _)) (by kernel_rfl) (by kernel_rfl) ?_
          simp only [pickOps, nthOp]
          intro wq hG hSq
          have hS := HS.out.later hG
          have hQ2 := hQ.trans (KpQ.gr hG)
          clear hG hSq
          repeat (first | (refine wpP_skip_take ?_ ?_; (focus rfl); try simp only [Act.put, List.setIfInBounds_toArray, List.set_cons_zero, List.set_cons_succ]) | (refine wpP_skip_run ?_ ?_; (focus rfl); try simp only [Act.put, List.setIfInBounds_toArray, List.set_cons_zero, List.set_cons_succ]) | (refine wpP_take ?_ ?_; (focus rfl); apply Exists.intro; refine ⟨fun w' hw' => ?_, ?_⟩; (focus (have z0 := hw'.cell 4 _ rfl; go_simp; (try rfl); done)); try simp only [Act.put, List.setIfInBounds_toArray, List.set_cons_zero, List.set_cons_succ]))
          refine wpP_run ?_ (fun K hK => ?_); (focus rfl)
          go_simp
          go_at_call 69
          (with_reducible refine (num17_is wq rb g s t1 256 m 256 rfl hS.rd (by omega) HNM.out).mono ?_); rintro e w2a ⟨rfl, hr2, hk2⟩
          try dsimp only
          replace hQ2 := hQ2.trans (KpQ.of_p hk2 hS.rb_out)
          replace hS := hS.num hk2 hr2
          refine hK.out _ _ hS.box ?_
          clear hK K hk2 hr2
          try simp only [Act.put, List.setIfInBounds_toArray, List.set_cons_zero, List.set_cons_succ]
          repeat (first | (refine wpP_skip_take ?_ ?_; (focus rfl); try simp only [Act.put, List.setIfInBounds_toArray, List.set_cons_zero, List.set_cons_succ]) | (refine wpP_skip_run ?_ ?_; (focus rfl); try simp only [Act.put, List.setIfInBounds_toArray, List.set_cons_zero, List.set_cons_succ]) | (refine wpP_take ?_ ?_; (focus rfl); apply Exists.intro; refine ⟨fun w' hw' => ?_, ?_⟩; (focus (have z0 := hw'.cell 4 _ rfl; go_simp; (try rfl); done)); try simp only [Act.put, List.setIfInBounds_toArray, List.set_cons_zero, List.set_cons_succ]))
          refine wpP_run ?_ (fun K hK => ?_); (focus rfl)
          go_simp
          refine name_K (fun w3 hW => ?_)
          have hg3 : Gr w2a w3 := by rw [hW]; exact Gr.alloc _ _
          have hnc : ∀ (j : Nat) (u : Value), [Value.int .i64 (m : Int)][j]? = some u → w3.cell? ((⟨w2a.heap.size, 0, none⟩ : Addr).add j) = some u := by rw [hW]; exact new_cells w2a [Value.int .i64 (m : Int)] _
          replace hS := hS.later hg3
          replace hQ2 := hQ2.trans (KpQ.gr hg3)
          refine hK.out _ _ hS.box ?_
          clear hK K hg3 hW
          try simp only [Act.put, List.setIfInBounds_toArray, List.set_cons_zero, List.set_cons_succ]
          repeat (first | (refine wpP_skip_take ?_ ?_; (focus rfl); try simp only [Act.put, List.setIfInBounds_toArray, List.set_cons_zero, List.set_cons_succ]) | (refine wpP_skip_run ?_ ?_; (focus rfl); try simp only [Act.put, List.setIfInBounds_toArray, List.set_cons_zero, List.set_cons_succ]) | (refine wpP_take ?_ ?_; (focus rfl); apply Exists.intro; refine ⟨fun w' hw' => ?_, ?_⟩; (focus (have z0 := hw'.cell 4 _ rfl; go_simp; (try rfl); done)); try simp only [Act.put, List.setIfInBounds_toArray, List.set_cons_zero, List.set_cons_succ]))
          refine wpP_run ?_ (fun K hK => ?_); (focus rfl)
          refine wp_append_at w3 (.tmp 117) (.tmp 120) 23 rfl w.heap.size 3 iI (.int .i64 0) 1 8 Tryd.underlying23 hiI hiI0 hiI1 hiI2 rfl (by decide) _ _ _ rfl (hS.row_own (i := 4) rfl) ⟨w2a.heap.size, 0, none⟩ 1 1 [Value.int .i64 (m : Int)] rfl rfl hnc (fun u hu => by simp at hu; (first | (subst hu; rfl) | (rcases hu with rfl | rfl <;> rfl))) ?c3a ?c4a ?c5a ?_
          case c3a => have := HDL.out; simp; unfold maxLen; omega
          case c4a => have := HDL.out; simp; omega
          case c5a => exact hS.base
          intro v' w4 ho hg hat
          have xb4 := hS.box.grown hg (by simp [tbC]) (fun e => hS.row_ne (i := 4) rfl hS.inX e)
          have hQ4 := hS.kp_grown hQ2 (fun _ h => h) (i := 4) rfl hg
          have hS4 := hS.grow (i := 4) rfl hg ho hat 4 (by omega) (rows_classes _ _ [] v' (m : Int)) rfl hS.len
          obtain ⟨p4a, c4a, rfl⟩ := (Sl.of_owns ho).len
          refine hK.out _ _ xb4 ?_
          clear hK K hg ho hat hS hQ2 hnc
          try simp only [Act.put, List.setIfInBounds_toArray, List.set_cons_zero, List.set_cons_succ]
          repeat (first | (refine wpP_skip_take ?_ ?_; (focus rfl); try simp only [Act.put, List.setIfInBounds_toArray, List.set_cons_zero, List.set_cons_succ]) | (refine wpP_skip_run ?_ ?_; (focus rfl); try simp only [Act.put, List.setIfInBounds_toArray, List.set_cons_zero, List.set_cons_succ]) | (refine wpP_take ?_ ?_; (focus rfl); apply Exists.intro; refine ⟨fun w' hw' => ?_, ?_⟩; (focus (have z0 := hw'.cell 4 _ rfl; go_simp; (try rfl); done)); try simp only [Act.put, List.setIfInBounds_toArray, List.set_cons_zero, List.set_cons_succ]))
          unfold tbC at xb4
          dsimp only at xb4
          have z4 := xb4.cell 4 _ rfl
          have y4 := xb4.mark 4 _ rfl
          have l4 := xb4.lt (Nat.succ_pos _)
          refine wpP_last ?_ (fun K hK => ?_); (focus rfl)
          go_simp
          refine hK.out _ _ ?_
          clear hK K z4 y4 l4
          try simp only [Act.put, List.setIfInBounds_toArray, List.set_cons_zero, List.set_cons_succ]
          refine wpP_done ?_
          have hQ5 := hQ4.store 4 (.slice p4a (done.length + 1) c4a) hS4.tlow
          clear hQ4 xb4
          go_wp2_with fail
          go_roundw
          case rel => exact ⟨j + 1, done ++ [(m : Int)], _, t1, by go_num, by omega, by rw [List.length_append, HDL.out]; rfl, hS4, hQ5, Lib.hid (by
            rw [HM.out, loop_on (numI 256) _ _ HB.out (by omega), classS_is HNM.out]; rfl)⟩
          case measure => simp [intOf]; omega
      · have HX : (cl, s4) = (done, s) := by
          rw [← HL4.out, HM.out, show 256 - j = 0 by omega, loop_end]
        injection HX with e1 e2
        have HS := Lib.hid (e1 ▸ e2 ▸ hS)
        have HQ := Lib.hid hQ
        have hjJ : ¬ (j : Int) < 256 := by omega
        clear hS hQ e1 e2 hdl hjn
        go_wp2_with fail
        go_meet
        case rel => exact ⟨_, HS.out, HQ.out⟩
  case rest =>
  obtain ⟨v, hS, hQ⟩ := hcut
  go_wp2_with fail
  go_at_call 69
  (with_reducible refine (num17_is wc rb g s4 a5 600 n5 600 rfl hS.rd (by omega) HN5.out).mono ?_); rintro e w5 ⟨rfl, hr, hk⟩
  have hS1 := hS.num hk hr
  have hQ1 : KpQ w.heap.size rb [tb, w.heap.size] tb W0 w5 := hQ.trans (KpQ.of_p hk hS.rb_out)
  clear hS hr hk hQ
  go_upto_block 8 with fail
  go_cut [11] from 125 to 163 (fun _ wx => ∃ v, Rsu wx w.heap.size rb tb g s5 [tb, w.heap.size] ⟨ml.map (·.1), rl.map (·.1), rl.map (·.2.1), rl.map (·.2.2), cl, (co : Int), ml.map (·.2), sl.map (·.1), sl.map (·.2.1), sl.map (·.2.2), [], []⟩ v [] ∧ KpQ w.heap.size rb [tb, w.heap.size] tb W0 wx)
  case first =>
    go_wp2_with fail
    go_loopw [11] (fun i wr => ∃ (j : Nat) (done : List (Int × (Int × Int))) (v : TbV) (s : St17), i = .int .i64 (j : Int) ∧ j ≤ n5 ∧ done.length = j ∧ Rsu wr w.heap.size rb tb g s [tb, w.heap.size] ⟨ml.map (·.1), rl.map (·.1), rl.map (·.2.1), rl.map (·.2.2), cl, (co : Int), ml.map (·.2), done.map (·.1), done.map (·.2.1), done.map (·.2.2), [], []⟩ v [] ∧ KpQ w.heap.size rb [tb, w.heap.size] tb W0 wr ∧ Hid (loopS stateS n5 a5 = appS done (loopS stateS (n5 - j) s))) (fun i _ => n5 - (intOf i).toNat)
    case atStart => exact ⟨0, [], _, a5, rfl, Nat.zero_le _, rfl, hS1, hQ1, Lib.hid (by rw [appS_nil]; try rfl)⟩
    case round =>
      obtain ⟨j, done, v, s, rfl, hj, hdl, hS, hQ, HM⟩ := hrel
      obtain ⟨vm, vl, vc, va, vrows, vcl, vst, vlb, vba, vdf, vne, vch⟩ := v
      obtain ⟨o, c, xr, _, _⟩ := hS.rd.box
      by_cases hjn : j < n5
      · have hjI : (j : Int) < (n5 : Int) := by omega
        cases hb : s.2 with
        | true =>
          rw [hb] at xr
          have HX : (sl, s5) = (done, s) := by rw [← HL5.out, HM.out, loop_bad _ _ _ hb]
          injection HX with e1 e2
          have HS := Lib.hid (e1 ▸ e2 ▸ hS)
          have HQ := Lib.hid hQ
          clear hS hQ e1 e2 hdl
          have c_r0 := xr.cell 0 _ rfl
          have c_r1 := xr.cell 1 _ rfl
          have m_r0 := xr.mark 0 _ rfl
          have m_r1 := xr.mark 1 _ rfl
          have l_r := xr.lt (Nat.succ_pos _)
          go_wp2_with fail
          go_meet
          case rel => exact ⟨_, HS.out, HQ.out⟩
        | false =>
          rw [hb] at xr
          have HB := Lib.hid hb
          have HDL := Lib.hid hdl
          have xb := hS.box
          unfold tbC at xb
          dsimp only at xb
          clear hb hdl
          obtain ⟨m1, t1, hm1⟩ : ∃ m t, numS 200 s = (m, t) := ⟨_, _, rfl⟩
          obtain ⟨m2, t2, hm2⟩ : ∃ m t, numS 262144 t1 = (m, t) := ⟨_, _, rfl⟩
          obtain ⟨m3, t3, hm3⟩ : ∃ m t, numS 600 t2 = (m, t) := ⟨_, _, rfl⟩
          have hm1b := numS_of hm1
          have hm2b := numS_of hm2
          have hm3b := numS_of hm3
          have HM1 := Lib.hid hm1
          have HM2 := Lib.hid hm2
          have HM3 := Lib.hid hm3
          clear hm1 hm2 hm3
          obtain ⟨pb0, cb0, rfl⟩ : ∃ p c, vlb = .slice p done.length c := by
            obtain ⟨p, c, hv⟩ := (Sl.of_owns (hS.row_own (i := 6) rfl)).len
            exact ⟨p, c, by rw [← List.length_map (fun x : Int × (Int × Int) => x.1)]; exact hv⟩
          have HS := Lib.hid hS
          clear hS
          have c_r0 := xr.cell 0 _ rfl
          have c_r1 := xr.cell 1 _ rfl
          have m_r0 := xr.mark 0 _ rfl
          have m_r1 := xr.mark 1 _ rfl
          have l_r := xr.lt (Nat.succ_pos _)
          go_wp2_with fail
          clear c_r0 c_r1 m_r0 m_r1 l_r
          clear xr
          have hwr : IntKind.i64.wrap ((m1 : Int) - 1) = (m1 : Int) - 1 := IntWalk.i64_in _ (by omega)
          refine wp_region_T (fun _ _ => False) (fun w' => boxAt w' tb [vm, vl, vc, va, vcl, .int .i64 (co : Int), vst, .slice pb0 done.length cb0, vba, vdf, vne, vch]) (.take 0 (.take 1 (.take 2 (.run 3 false (.take 4 (.run 5 false (.run 6 false (.take 7 (.run 8 true .nil))))))))) (fun _ _ _ _ h => h.elim) (xb.later (Gr.drew _)) (by kernel_rfl) (by kernel_rfl) ?_
          simp only [pickOps, nthOp]
          intro wq hG hSq
          have hS := HS.out.later hG
          have hQ2 := hQ.trans (KpQ.gr hG)
          clear hG hSq
          repeat (first | (refine wpP_skip_take ?_ ?_; (focus rfl); try simp only [Act.put, List.setIfInBounds_toArray, List.set_cons_zero, List.set_cons_succ]) | (refine wpP_skip_run ?_ ?_; (focus rfl); try simp only [Act.put, List.setIfInBounds_toArray, List.set_cons_zero, List.set_cons_succ]) | (refine wpP_take ?_ ?_; (focus rfl); apply Exists.intro; refine ⟨fun w' hw' => ?_, ?_⟩; (focus (have z0 := hw'.cell 7 _ rfl; go_simp; (try rfl); done)); try simp only [Act.put, List.setIfInBounds_toArray, List.set_cons_zero, List.set_cons_succ]))
          refine wpP_run ?_ (fun K hK => ?_); (focus rfl)
          go_simp
          go_at_call 69
          (with_reducible refine (num17_is wq rb g s t1 200 m1 200 rfl hS.rd (by omega) HM1.out).mono ?_); rintro e w2a ⟨rfl, hr2, hk2⟩
          try dsimp only
          replace hQ2 := hQ2.trans (KpQ.of_p hk2 hS.rb_out)
          replace hS := hS.num hk2 hr2
          refine hK.out _ _ hS.box ?_
          clear hK K hk2 hr2
          try simp only [Act.put, List.setIfInBounds_toArray, List.set_cons_zero, List.set_cons_succ]
          repeat (first | (refine wpP_skip_take ?_ ?_; (focus rfl); try simp only [Act.put, List.setIfInBounds_toArray, List.set_cons_zero, List.set_cons_succ]) | (refine wpP_skip_run ?_ ?_; (focus rfl); try simp only [Act.put, List.setIfInBounds_toArray, List.set_cons_zero, List.set_cons_succ]) | (refine wpP_take ?_ ?_; (focus rfl); apply Exists.intro; refine ⟨fun w' hw' => ?_, ?_⟩; (focus (have z0 := hw'.cell 7 _ rfl; go_simp; (try rfl); done)); try simp only [Act.put, List.setIfInBounds_toArray, List.set_cons_zero, List.set_cons_succ]))
          refine wpP_run ?_ (fun K hK => ?_); (focus rfl)
          go_simp
          refine name_K (fun w3 hW => ?_)
          have hg3 : Gr w2a w3 := by rw [hW]; exact Gr.alloc _ _
          have hnc : ∀ (j : Nat) (u : Value), [Value.int .i64 ((m1 : Int) - 1)][j]? = some u → w3.cell? ((⟨w2a.heap.size, 0, none⟩ : Addr).add j) = some u := by rw [hW]; exact new_cells w2a [Value.int .i64 ((m1 : Int) - 1)] _
          replace hS := hS.later hg3
          replace hQ2 := hQ2.trans (KpQ.gr hg3)
          refine hK.out _ _ hS.box ?_
          clear hK K hg3 hW
          try simp only [Act.put, List.setIfInBounds_toArray, List.set_cons_zero, List.set_cons_succ]
          repeat (first | (refine wpP_skip_take ?_ ?_; (focus rfl); try simp only [Act.put, List.setIfInBounds_toArray, List.set_cons_zero, List.set_cons_succ]) | (refine wpP_skip_run ?_ ?_; (focus rfl); try simp only [Act.put, List.setIfInBounds_toArray, List.set_cons_zero, List.set_cons_succ]) | (refine wpP_take ?_ ?_; (focus rfl); apply Exists.intro; refine ⟨fun w' hw' => ?_, ?_⟩; (focus (have z0 := hw'.cell 7 _ rfl; go_simp; (try rfl); done)); try simp only [Act.put, List.setIfInBounds_toArray, List.set_cons_zero, List.set_cons_succ]))
          refine wpP_run ?_ (fun K hK => ?_); (focus rfl)
          refine wp_append_at w3 (.tmp 138) (.tmp 142) 23 rfl w.heap.size 3 iI (.int .i64 0) 1 8 Tryd.underlying23 hiI hiI0 hiI1 hiI2 rfl (by decide) _ _ _ rfl (hS.row_own (i := 6) rfl) ⟨w2a.heap.size, 0, none⟩ 1 1 [Value.int .i64 ((m1 : Int) - 1)] rfl rfl hnc (fun u hu => by simp at hu; (first | (subst hu; rfl) | (rcases hu with rfl | rfl <;> rfl))) ?c3a ?c4a ?c5a ?_
          case c3a => have := HDL.out; simp; unfold maxLen; omega
          case c4a => have := HDL.out; simp; omega
          case c5a => exact hS.base
          intro v' w4 ho hg hat
          have xb4 := hS.box.grown hg (by simp [tbC]) (fun e => hS.row_ne (i := 6) rfl hS.inX e)
          have hQ4 := hS.kp_grown hQ2 (fun _ h => h) (i := 6) rfl hg
          have hS4 := hS.grow (i := 6) rfl hg ho hat 7 (by omega) (rows_label _ _ [] v' ((m1 : Int) - 1)) rfl hS.len
          obtain ⟨p4a, c4a, rfl⟩ := (Sl.of_owns ho).len
          refine hK.out _ _ xb4 ?_
          clear hK K hg ho hat hS hQ2 hnc
          try simp only [Act.put, List.setIfInBounds_toArray, List.set_cons_zero, List.set_cons_succ]
          repeat (first | (refine wpP_skip_take ?_ ?_; (focus rfl); try simp only [Act.put, List.setIfInBounds_toArray, List.set_cons_zero, List.set_cons_succ]) | (refine wpP_skip_run ?_ ?_; (focus rfl); try simp only [Act.put, List.setIfInBounds_toArray, List.set_cons_zero, List.set_cons_succ]) | (refine wpP_take ?_ ?_; (focus rfl); apply Exists.intro; refine ⟨fun w' hw' => ?_, ?_⟩; (focus (have z0 := hw'.cell 7 _ rfl; go_simp; (try rfl); done)); try simp only [Act.put, List.setIfInBounds_toArray, List.set_cons_zero, List.set_cons_succ]))
          unfold tbC at xb4
          dsimp only at xb4
          have z4 := xb4.cell 7 _ rfl
          have y4 := xb4.mark 7 _ rfl
          have l4 := xb4.lt (Nat.succ_pos _)
          refine wpP_last ?_ (fun K hK => ?_); (focus rfl)
          go_simp
          refine hK.out _ _ ?_
          clear hK K z4 y4 l4
          try simp only [Act.put, List.setIfInBounds_toArray, List.set_cons_zero, List.set_cons_succ]
          refine wpP_done ?_
          have hQ5 := hQ4.store 7 (.slice p4a ((done.map (fun x : Int × (Int × Int) => x.1)).length + 1) c4a) hS4.tlow
          clear hQ4 xb4
          simp only [List.length_map] at hS4 hQ5
          clear hwr
          go_wp2_with fail
          refine name_world (fun W5 hW5 => ?_)
          rw [← hW5] at hS4 hQ5
          clear hW5
          have xb := hS4.box
          unfold tbC at xb
          dsimp only at xb
          have hQ := hQ5
          clear hQ5
          obtain ⟨pc, cc, rfl⟩ : ∃ p c, vba = .slice p done.length c := by
            obtain ⟨p, c, hv⟩ := (Sl.of_owns (hS4.row_own (i := 7) rfl)).len
            exact ⟨p, c, by rw [← List.length_map (fun x : Int × (Int × Int) => x.2.1)]; exact hv⟩
          have HS := Lib.hid hS4
          clear hS4
          go_wp2_with fail
          refine wp_region_T (fun _ _ => False) (fun w' => boxAt w' tb [vm, vl, vc, va, vcl, .int .i64 (co : Int), vst, .slice p4a (done.length + 1) c4a, .slice pc done.length cc, vdf, vne, vch]) (.take 0 (.take 1 (.take 2 (.take 3 (.run 4 false (.run 5 false (.run 6 false (.take 7 (.take 8 (.run 9 true .nil)))))))))) (fun _ _ _ _ h => h.elim) (xb.later (Gr.drew _)) (by kernel_rfl) (by kernel_rfl) ?_
          simp only [pickOps, nthOp]
          intro wq hG hSq
          have hS := HS.out.later hG
          have hQ2 := hQ.trans (KpQ.gr hG)
          clear hG hSq
          repeat (first | (refine wpP_skip_take ?_ ?_; (focus rfl); try simp only [Act.put, List.setIfInBounds_toArray, List.set_cons_zero, List.set_cons_succ]) | (refine wpP_skip_run ?_ ?_; (focus rfl); try simp only [Act.put, List.setIfInBounds_toArray, List.set_cons_zero, List.set_cons_succ]) | (refine wpP_take ?_ ?_; (focus rfl); apply Exists.intro; refine ⟨fun w' hw' => ?_, ?_⟩; (focus (have z0 := hw'.cell 8 _ rfl; go_simp; (try rfl); done)); try simp only [Act.put, List.setIfInBounds_toArray, List.set_cons_zero, List.set_cons_succ]))
          refine wpP_run ?_ (fun K hK => ?_); (focus rfl)
          go_simp
          go_at_call 69
          (with_reducible refine (num17_is wq rb g t1 t2 262144 m2 262144 rfl hS.rd (by omega) HM2.out).mono ?_); rintro e w2a ⟨rfl, hr2, hk2⟩
          try dsimp only
          replace hQ2 := hQ2.trans (KpQ.of_p hk2 hS.rb_out)
          replace hS := hS.num hk2 hr2
          refine hK.out _ _ hS.box ?_
          clear hK K hk2 hr2
          try simp only [Act.put, List.setIfInBounds_toArray, List.set_cons_zero, List.set_cons_succ]
          repeat (first | (refine wpP_skip_take ?_ ?_; (focus rfl); try simp only [Act.put, List.setIfInBounds_toArray, List.set_cons_zero, List.set_cons_succ]) | (refine wpP_skip_run ?_ ?_; (focus rfl); try simp only [Act.put, List.setIfInBounds_toArray, List.set_cons_zero, List.set_cons_succ]) | (refine wpP_take ?_ ?_; (focus rfl); apply Exists.intro; refine ⟨fun w' hw' => ?_, ?_⟩; (focus (have z0 := hw'.cell 8 _ rfl; go_simp; (try rfl); done)); try simp only [Act.put, List.setIfInBounds_toArray, List.set_cons_zero, List.set_cons_succ]))
          refine wpP_run ?_ (fun K hK => ?_); (focus rfl)
          go_simp
          refine name_K (fun w3 hW => ?_)
          have hg3 : Gr w2a w3 := by rw [hW]; exact Gr.alloc _ _
          have hnc : ∀ (j : Nat) (u : Value), [Value.int .i64 (m2 : Int)][j]? = some u → w3.cell? ((⟨w2a.heap.size, 0, none⟩ : Addr).add j) = some u := by rw [hW]; exact new_cells w2a [Value.int .i64 (m2 : Int)] _
          replace hS := hS.later hg3
          replace hQ2 := hQ2.trans (KpQ.gr hg3)
          refine hK.out _ _ hS.box ?_
          clear hK K hg3 hW
          try simp only [Act.put, List.setIfInBounds_toArray, List.set_cons_zero, List.set_cons_succ]
          repeat (first | (refine wpP_skip_take ?_ ?_; (focus rfl); try simp only [Act.put, List.setIfInBounds_toArray, List.set_cons_zero, List.set_cons_succ]) | (refine wpP_skip_run ?_ ?_; (focus rfl); try simp only [Act.put, List.setIfInBounds_toArray, List.set_cons_zero, List.set_cons_succ]) | (refine wpP_take ?_ ?_; (focus rfl); apply Exists.intro; refine ⟨fun w' hw' => ?_, ?_⟩; (focus (have z0 := hw'.cell 8 _ rfl; go_simp; (try rfl); done)); try simp only [Act.put, List.setIfInBounds_toArray, List.set_cons_zero, List.set_cons_succ]))
          refine wpP_run ?_ (fun K hK => ?_); (focus rfl)
          refine wp_append_at w3 (.tmp 147) (.tmp 150) 23 rfl w.heap.size 3 iI (.int .i64 0) 1 8 Tryd.underlying23 hiI hiI0 hiI1 hiI2 rfl (by decide) _ _ _ rfl (hS.row_own (i := 7) rfl) ⟨w2a.heap.size, 0, none⟩ 1 1 [Value.int .i64 (m2 : Int)] rfl rfl hnc (fun u hu => by simp at hu; (first | (subst hu; rfl) | (rcases hu with rfl | rfl <;> rfl))) ?c3b ?c4b ?c5b ?_
          case c3b => have := HDL.out; simp; unfold maxLen; omega
          case c4b => have := HDL.out; simp; omega
          case c5b => exact hS.base
          intro v' w4 ho hg hat
          have xb4 := hS.box.grown hg (by simp [tbC]) (fun e => hS.row_ne (i := 7) rfl hS.inX e)
          have hQ4 := hS.kp_grown hQ2 (fun _ h => h) (i := 7) rfl hg
          have hS4 := hS.grow (i := 7) rfl hg ho hat 8 (by omega) (rows_base _ _ [] v' (m2 : Int)) rfl hS.len
          obtain ⟨p4b, c4b, rfl⟩ := (Sl.of_owns ho).len
          refine hK.out _ _ xb4 ?_
          clear hK K hg ho hat hS hQ2 hnc
          try simp only [Act.put, List.setIfInBounds_toArray, List.set_cons_zero, List.set_cons_succ]
          repeat (first | (refine wpP_skip_take ?_ ?_; (focus rfl); try simp only [Act.put, List.setIfInBounds_toArray, List.set_cons_zero, List.set_cons_succ]) | (refine wpP_skip_run ?_ ?_; (focus rfl); try simp only [Act.put, List.setIfInBounds_toArray, List.set_cons_zero, List.set_cons_succ]) | (refine wpP_take ?_ ?_; (focus rfl); apply Exists.intro; refine ⟨fun w' hw' => ?_, ?_⟩; (focus (have z0 := hw'.cell 8 _ rfl; go_simp; (try rfl); done)); try simp only [Act.put, List.setIfInBounds_toArray, List.set_cons_zero, List.set_cons_succ]))
          unfold tbC at xb4
          dsimp only at xb4
          have z4 := xb4.cell 8 _ rfl
          have y4 := xb4.mark 8 _ rfl
          have l4 := xb4.lt (Nat.succ_pos _)
          refine wpP_last ?_ (fun K hK => ?_); (focus rfl)
          go_simp
          refine hK.out _ _ ?_
          clear hK K z4 y4 l4
          try simp only [Act.put, List.setIfInBounds_toArray, List.set_cons_zero, List.set_cons_succ]
          refine wpP_done ?_
          have hQ5 := hQ4.store 8 (.slice p4b ((done.map (fun x : Int × (Int × Int) => x.2.1)).length + 1) c4b) hS4.tlow
          clear hQ4 xb4
          simp only [List.length_map] at hS4 hQ5
          go_wp2_with fail
          refine name_world (fun W5 hW5 => ?_)
          rw [← hW5] at hS4 hQ5
          clear hW5
          have xb := hS4.box
          unfold tbC at xb
          dsimp only at xb
          have hQ := hQ5
          clear hQ5
          obtain ⟨pd, cd, rfl⟩ : ∃ p c, vdf = .slice p done.length c := by
            obtain ⟨p, c, hv⟩ := (Sl.of_owns (hS4.row_own (i := 8) rfl)).len
            exact ⟨p, c, by rw [← List.length_map (fun x : Int × (Int × Int) => x.2.2)]; exact hv⟩
          have HS := Lib.hid hS4
          clear hS4
          go_wp2_with fail
          have hwr : IntKind.i64.wrap ((m3 : Int) - 1) = (m3 : Int) - 1 := IntWalk.i64_in _ (by omega)
          refine wp_region_T (fun _ _ => False) (fun w' => boxAt w' tb [vm, vl, vc, va, vcl, .int .i64 (co : Int), vst, .slice p4a (done.length + 1) c4a, .slice p4b (done.length + 1) c4b, .slice pd done.length cd, vne, vch]) (.take 0 (.take 1 (.take 2 (.take 3 (.run 4 false (.take 5 (.run 6 false (.run 7 false (.take 8 (.take 9 (.run 10 true .nil))))))))))) (fun _ _ _ _ h => h.elim) (xb.later (Gr.drew _)) (by kernel_rfl) (by kernel_rfl) ?_
          simp only [pickOps, nthOp]
          intro wq hG hSq
          have hS := HS.out.later hG
          have hQ2 := hQ.trans (KpQ.gr hG)
          clear hG hSq
          repeat (first | (refine wpP_skip_take ?_ ?_; (focus rfl); try simp only [Act.put, List.setIfInBounds_toArray, List.set_cons_zero, List.set_cons_succ]) | (refine wpP_skip_run ?_ ?_; (focus rfl); try simp only [Act.put, List.setIfInBounds_toArray, List.set_cons_zero, List.set_cons_succ]) | (refine wpP_take ?_ ?_; (focus rfl); apply Exists.intro; refine ⟨fun w' hw' => ?_, ?_⟩; (focus (have z0 := hw'.cell 9 _ rfl; go_simp; (try rfl); done)); try simp only [Act.put, List.setIfInBounds_toArray, List.set_cons_zero, List.set_cons_succ]))
          refine wpP_run ?_ (fun K hK => ?_); (focus rfl)
          go_simp
          go_at_call 69
          (with_reducible refine (num17_is wq rb g t2 t3 600 m3 600 rfl hS.rd (by omega) HM3.out).mono ?_); rintro e w2a ⟨rfl, hr2, hk2⟩
          try dsimp only
          replace hQ2 := hQ2.trans (KpQ.of_p hk2 hS.rb_out)
          replace hS := hS.num hk2 hr2
          refine hK.out _ _ hS.box ?_
          clear hK K hk2 hr2
          try simp only [Act.put, List.setIfInBounds_toArray, List.set_cons_zero, List.set_cons_succ]
          repeat (first | (refine wpP_skip_take ?_ ?_; (focus rfl); try simp only [Act.put, List.setIfInBounds_toArray, List.set_cons_zero, List.set_cons_succ]) | (refine wpP_skip_run ?_ ?_; (focus rfl); try simp only [Act.put, List.setIfInBounds_toArray, List.set_cons_zero, List.set_cons_succ]) | (refine wpP_take ?_ ?_; (focus rfl); apply Exists.intro; refine ⟨fun w' hw' => ?_, ?_⟩; (focus (have z0 := hw'.cell 9 _ rfl; go_simp; (try rfl); done)); try simp only [Act.put, List.setIfInBounds_toArray, List.set_cons_zero, List.set_cons_succ]))
          refine wpP_run ?_ (fun K hK => ?_); (focus rfl)
          go_simp
          refine name_K (fun w3 hW => ?_)
          have hg3 : Gr w2a w3 := by rw [hW]; exact Gr.alloc _ _
          have hnc : ∀ (j : Nat) (u : Value), [Value.int .i64 ((m3 : Int) - 1)][j]? = some u → w3.cell? ((⟨w2a.heap.size, 0, none⟩ : Addr).add j) = some u := by rw [hW]; exact new_cells w2a [Value.int .i64 ((m3 : Int) - 1)] _
          replace hS := hS.later hg3
          replace hQ2 := hQ2.trans (KpQ.gr hg3)
          refine hK.out _ _ hS.box ?_
          clear hK K hg3 hW
          try simp only [Act.put, List.setIfInBounds_toArray, List.set_cons_zero, List.set_cons_succ]
          repeat (first | (refine wpP_skip_take ?_ ?_; (focus rfl); try simp only [Act.put, List.setIfInBounds_toArray, List.set_cons_zero, List.set_cons_succ]) | (refine wpP_skip_run ?_ ?_; (focus rfl); try simp only [Act.put, List.setIfInBounds_toArray, List.set_cons_zero, List.set_cons_succ]) | (refine wpP_take ?_ ?_; (focus rfl); apply Exists.intro; refine ⟨fun w' hw' => ?_, ?_⟩; (focus (have z0 := hw'.cell 9 _ rfl; go_simp; (try rfl); done)); try simp only [Act.put, List.setIfInBounds_toArray, List.set_cons_zero, List.set_cons_succ]))
          refine wpP_run ?_ (fun K hK => ?_); (focus rfl)
          refine wp_append_at w3 (.tmp 156) (.tmp 160) 23 rfl w.heap.size 3 iI (.int .i64 0) 1 8 Tryd.underlying23 hiI hiI0 hiI1 hiI2 rfl (by decide) _ _ _ rfl (hS.row_own (i := 8) rfl) ⟨w2a.heap.size, 0, none⟩ 1 1 [Value.int .i64 ((m3 : Int) - 1)] rfl rfl hnc (fun u hu => by simp at hu; (first | (subst hu; rfl) | (rcases hu with rfl | rfl <;> rfl))) ?c3c ?c4c ?c5c ?_
          case c3c => have := HDL.out; simp; unfold maxLen; omega
          case c4c => have := HDL.out; simp; omega
          case c5c => exact hS.base
          intro v' w4 ho hg hat
          have xb4 := hS.box.grown hg (by simp [tbC]) (fun e => hS.row_ne (i := 8) rfl hS.inX e)
          have hQ4 := hS.kp_grown hQ2 (fun _ h => h) (i := 8) rfl hg
          have hS4 := hS.grow (i := 8) rfl hg ho hat 9 (by omega) (rows_dflt _ _ [] v' ((m3 : Int) - 1)) rfl hS.len
          obtain ⟨p4c, c4c, rfl⟩ := (Sl.of_owns ho).len
          refine hK.out _ _ xb4 ?_
          clear hK K hg ho hat hS hQ2 hnc
          try simp only [Act.put, List.setIfInBounds_toArray, List.set_cons_zero, List.set_cons_succ]
          repeat (first | (refine wpP_skip_take ?_ ?_; (focus rfl); try simp only [Act.put, List.setIfInBounds_toArray, List.set_cons_zero, List.set_cons_succ]) | (refine wpP_skip_run ?_ ?_; (focus rfl); try simp only [Act.put, List.setIfInBounds_toArray, List.set_cons_zero, List.set_cons_succ]) | (refine wpP_take ?_ ?_; (focus rfl); apply Exists.intro; refine ⟨fun w' hw' => ?_, ?_⟩; (focus (have z0 := hw'.cell 9 _ rfl; go_simp; (try rfl); done)); try simp only [Act.put, List.setIfInBounds_toArray, List.set_cons_zero, List.set_cons_succ]))
          unfold tbC at xb4
          dsimp only at xb4
          have z4 := xb4.cell 9 _ rfl
          have y4 := xb4.mark 9 _ rfl
          have l4 := xb4.lt (Nat.succ_pos _)
          refine wpP_last ?_ (fun K hK => ?_); (focus rfl)
          go_simp
          refine hK.out _ _ ?_
          clear hK K z4 y4 l4
          try simp only [Act.put, List.setIfInBounds_toArray, List.set_cons_zero, List.set_cons_succ]
          refine wpP_done ?_
          have hQ5 := hQ4.store 9 (.slice p4c ((done.map (fun x : Int × (Int × Int) => x.2.2)).length + 1) c4c) hS4.tlow
          clear hQ4 xb4
          simp only [List.length_map] at hS4 hQ5
          clear hwr
          go_wp2_with fail
          go_roundw
          case rel => exact ⟨j + 1, done ++ [((m1 : Int) - 1, ((m2 : Int), (m3 : Int) - 1))], _, t3, by go_num, by omega, by rw [List.length_append, HDL.out]; rfl, by simpa using hS4, hQ5, Lib.hid (by
            rw [HM.out, loop_on stateS _ _ HB.out (by omega), stateS_is HM1.out HM2.out HM3.out]; rfl)⟩
          case measure => simp [intOf]; omega
      · have HX : (sl, s5) = (done, s) := by
          rw [← HL5.out, HM.out, show n5 - j = 0 by omega, loop_end]
        injection HX with e1 e2
        have HS := Lib.hid (e1 ▸ e2 ▸ hS)
        have HQ := Lib.hid hQ
        have hjJ : ¬ (j : Int) < (n5 : Int) := by omega
        clear hS hQ e1 e2 hdl hjn
        go_wp2_with fail
        go_meet
        case rel => exact ⟨_, HS.out, HQ.out⟩
  case rest =>
  obtain ⟨v, hS, hQ⟩ := hcut
  go_wp2_with fail
  go_at_call 69
  (with_reducible refine (num17_is wc rb g s5 a6 262144 n6 262144 rfl hS.rd (by omega) HN6.out).mono ?_); rintro e w6 ⟨rfl, hr, hk⟩
  have hS1 := hS.num hk hr
  have hQ1 : KpQ w.heap.size rb [tb, w.heap.size] tb W0 w6 := hQ.trans (KpQ.of_p hk hS.rb_out)
  clear hS hr hk hQ
  go_upto_block 10 with fail
  go_cut [12, 13, 14] from 166 to 202 (fun _ _ _ wx => ∃ v, Rsu wx w.heap.size rb tb g s6 [tb, w.heap.size] ⟨ml.map (·.1), rl.map (·.1), rl.map (·.2.1), rl.map (·.2.2), cl, (co : Int), ml.map (·.2), sl.map (·.1), sl.map (·.2.1), sl.map (·.2.2), tl.map (·.2), tl.map (·.1)⟩ v [] ∧ KpQ w.heap.size rb [tb, w.heap.size] tb W0 wx)
  case first =>
    go_wp2_with fail
    go_loopw [12, 13, 14] (fun i _ _ wr => ∃ (j : Nat) (done : List (Int × Int)) (v : TbV) (s : St17), i = .int .i64 (j : Int) ∧ j ≤ n6 ∧ done.length = j ∧ Rsu wr w.heap.size rb tb g s [tb, w.heap.size] ⟨ml.map (·.1), rl.map (·.1), rl.map (·.2.1), rl.map (·.2.2), cl, (co : Int), ml.map (·.2), sl.map (·.1), sl.map (·.2.1), sl.map (·.2.2), done.map (·.2), done.map (·.1)⟩ v [] ∧ KpQ w.heap.size rb [tb, w.heap.size] tb W0 wr ∧ Hid (loopS slotS n6 a6 = appS done (loopS slotS (n6 - j) s))) (fun i _ _ _ => n6 - (intOf i).toNat)
    case atStart => exact ⟨0, [], _, a6, rfl, Nat.zero_le _, rfl, hS1, hQ1, Lib.hid (by rw [appS_nil]; try rfl)⟩
    case round =>
      obtain ⟨j, done, v, s, rfl, hj, hdl, hS, hQ, HM⟩ := hrel
      obtain ⟨vm, vl, vc, va, vrows, vcl, vst, vlb, vba, vdf, vne, vch⟩ := v
      obtain ⟨o, c, xr, _, _⟩ := hS.rd.box
      by_cases hjn : j < n6
      · have hjI : (j : Int) < (n6 : Int) := by omega
        cases hb : s.2 with
        | true =>
          rw [hb] at xr
          have HX : (tl, s6) = (done, s) := by rw [← HL6.out, HM.out, loop_bad _ _ _ hb]
          injection HX with e1 e2
          have HS := Lib.hid (e1 ▸ e2 ▸ hS)
          have HQ := Lib.hid hQ
          clear hS hQ e1 e2 hdl
          have c_r0 := xr.cell 0 _ rfl
          have c_r1 := xr.cell 1 _ rfl
          have m_r0 := xr.mark 0 _ rfl
          have m_r1 := xr.mark 1 _ rfl
          have l_r := xr.lt (Nat.succ_pos _)
          go_wp2_with fail
          go_meet
          case rel => exact ⟨_, HS.out, HQ.out⟩
        | false =>
          rw [hb] at xr
          have HB := Lib.hid hb
          have HDL := Lib.hid hdl
          have xb := hS.box
          unfold tbC at xb
          dsimp only at xb
          clear hb hdl
          obtain ⟨m1, t1, hm1⟩ : ∃ m t, numS 600 s = (m, t) := ⟨_, _, rfl⟩
          have hm1b := numS_of hm1
          have HM1 := Lib.hid hm1
          have hwr : IntKind.i64.wrap ((m1 : Int) - 1) = (m1 : Int) - 1 := IntWalk.i64_in _ (by omega)
          clear hm1 xb
          have c_r0 := xr.cell 0 _ rfl
          have c_r1 := xr.cell 1 _ rfl
          have m_r0 := xr.mark 0 _ rfl
          have m_r1 := xr.mark 1 _ rfl
          have l_r := xr.lt (Nat.succ_pos _)
          go_wp2_with fail
          clear c_r0 c_r1 m_r0 m_r1 l_r
          clear xr
          go_at_call 69
          (with_reducible refine (num17_is wr rb g s t1 600 m1 600 rfl hS.rd (by omega) HM1.out).mono ?_); rintro e w7 ⟨rfl, hr, hk⟩
          replace hQ := hQ.trans (KpQ.of_p hk hS.rb_out)
          replace hS := hS.num hk hr
          clear hr hk
          by_cases hpos : (0 : Int) ≤ (m1 : Int) - 1
          · obtain ⟨m2, t2, hm2⟩ : ∃ m t, numS 600 t1 = (m, t) := ⟨_, _, rfl⟩
            have hm2b := numS_of hm2
            have HM2 := Lib.hid hm2
            have hwr2 : IntKind.i64.wrap ((m2 : Int) - 1) = (m2 : Int) - 1 := IntWalk.i64_in _ (by omega)
            clear hm2
            go_wp2_with fail
            go_at_call 69
            (with_reducible refine (num17_is w7 rb g t1 t2 600 m2 600 rfl hS.rd (by omega) HM2.out).mono ?_); rintro e w8 ⟨rfl, hr, hk⟩
            replace hQ := hQ.trans (KpQ.of_p hk hS.rb_out)
            replace hS := hS.num hk hr
            clear hr hk
            have xb := hS.box
            unfold tbC at xb
            dsimp only at xb
            obtain ⟨pk, ck, rfl⟩ : ∃ p c, vch = .slice p done.length c := by
              obtain ⟨p, c, hv⟩ := (Sl.of_owns (hS.row_own (i := 10) rfl)).len
              exact ⟨p, c, by rw [← List.length_map (fun x : Int × Int => x.1)]; exact hv⟩
            obtain ⟨pn, cn, rfl⟩ : ∃ p c, vne = .slice p done.length c := by
              obtain ⟨p, c, hv⟩ := (Sl.of_owns (hS.row_own (i := 9) rfl)).len
              exact ⟨p, c, by rw [← List.length_map (fun x : Int × Int => x.2)]; exact hv⟩
            have z11 := xb.cell 11 _ rfl
            have y11 := xb.mark 11 _ rfl
            have z10 := xb.cell 10 _ rfl
            have lb := xb.lt (Nat.succ_pos _)
            have HS := Lib.hid hS
            have HQ := Lib.hid hQ
            clear hS hQ xb
            go_wp2_with (at_builtin; refine wpList_append_own_at _ rfl (.tmp 188) (.tmp 190) 23 rfl w.heap.size 3 iI (.int .i64 0) 1 8 Tryd.underlying23 hiI hiI0 hiI1 hiI2 rfl (by decide) _ _ _ rfl ((HS.out.later (Gr.alloc _ _)).row_own (i := 10) rfl) ⟨w8.heap.size, 0, none⟩ 1 1 [.int .i64 ((m1 : Int) - 1)] rfl rfl ?c1xa ?c2xa ?c3xa ?c4xa ?c5xa ?_)
            try (case c1xa => exact new_cells _ [.int .i64 ((m1 : Int) - 1)] _)
            case c2xa => first | rfl | (intro u hu; simp at hu; subst hu; rfl)
            case c3xa => have := HDL.out; simp; unfold maxLen; omega
            case c4xa => have := HDL.out; simp; omega
            case c5xa => exact (HS.out.later (Gr.alloc _ _)).base
            intro v' w4xa ho hg _ hat
            replace ho : w4xa.ownsRow w.heap.size 3 1 v' ((done.map (fun x : Int × Int => x.1)).length + 1) (List.map vI (done.map (fun x : Int × Int => x.1)) ++ [.int .i64 ((m1 : Int) - 1)]) := by simpa using ho
            have hSa := HS.out.later (Gr.alloc _ (.cells #[.int .i64 ((m1 : Int) - 1)] 3))
            have hQa := hSa.kp_grown (HQ.out.trans (KpQ.gr (Gr.alloc _ (.cells #[.int .i64 ((m1 : Int) - 1)] 3)))) (fun _ h => h) (i := 10) rfl hg
            have xb4 := hSa.box.grown hg (by simp [tbC]) (fun e => hSa.row_ne (i := 10) rfl hSa.inX e)
            have hS4xa := hSa.grow (i := 10) rfl hg ho (hat.imp id (fun h => h.trans (by simp))) 11 (by omega) (rows_check _ _ [] v' ((m1 : Int) - 1)) rfl hSa.len
            obtain ⟨p4xa, c4xa, rfl⟩ := (Sl.of_owns ho).len
            have hQ4xa := hQa.store 11 (.slice p4xa ((done.map (fun x : Int × Int => x.1)).length + 1) c4xa) hSa.tlow
            clear ho hg hat hSa hQa
            unfold tbC at xb4
            dsimp only at xb4
            have z4xa := xb4.cell 11 _ rfl
            have y4xa := xb4.mark 11 _ rfl
            have l4xa := xb4.lt (Nat.succ_pos _)
            simp only [List.length_map] at hS4xa hQ4xa
            have z9 := xb4.cell 10 _ rfl
            clear xb4 z10 z11 y11 lb
            have HSa := Lib.hid hS4xa
            have HQa := Lib.hid hQ4xa
            clear hS4xa hQ4xa
            go_wp2_with (at_builtin; refine wpList_append_own_at _ rfl (.tmp 196) (.tmp 198) 23 rfl w.heap.size 3 iI (.int .i64 0) 1 8 Tryd.underlying23 hiI hiI0 hiI1 hiI2 rfl (by decide) _ _ _ rfl ((HSa.out.later (Gr.alloc _ _)).row_own (i := 9) rfl) ⟨w4xa.heap.size, 0, none⟩ 1 1 [.int .i64 ((m2 : Int) - 1)] rfl rfl ?c1xb ?c2xb ?c3xb ?c4xb ?c5xb ?_)
            try (case c1xb => have hnc := new_cells (w4xa.setCell ⟨tb, 11, none⟩ (.slice p4xa (done.length + 1) c4xa)) [.int .i64 ((m2 : Int) - 1)] 3; rw [show (w4xa.setCell ⟨tb, 11, none⟩ (.slice p4xa (done.length + 1) c4xa)).heap.size = w4xa.heap.size by simp [World.setCell]] at hnc; exact hnc)
            case c2xb => first | rfl | (intro u hu; simp at hu; subst hu; rfl)
            case c3xb => have := HDL.out; simp; unfold maxLen; omega
            case c4xb => have := HDL.out; simp; omega
            case c5xb => exact (HSa.out.later (Gr.alloc _ _)).base
            intro v' w4xb ho hg _ hat
            replace ho : w4xb.ownsRow w.heap.size 3 1 v' ((done.map (fun x : Int × Int => x.2)).length + 1) (List.map vI (done.map (fun x : Int × Int => x.2)) ++ [.int .i64 ((m2 : Int) - 1)]) := by simpa using ho
            have hSa := HSa.out.later (Gr.alloc _ (.cells #[.int .i64 ((m2 : Int) - 1)] 3))
            have hQa := hSa.kp_grown (HQa.out.trans (KpQ.gr (Gr.alloc _ (.cells #[.int .i64 ((m2 : Int) - 1)] 3)))) (fun _ h => h) (i := 9) rfl hg
            have xb4 := hSa.box.grown hg (by simp [tbC]) (fun e => hSa.row_ne (i := 9) rfl hSa.inX e)
            have hS4xb := hSa.grow (i := 9) rfl hg ho (hat.imp id (fun h => h.trans (by simp))) 10 (by omega) (rows_next _ _ [] v' ((m2 : Int) - 1)) rfl hSa.len
            obtain ⟨p4xb, c4xb, rfl⟩ := (Sl.of_owns ho).len
            have hQ4xb := hQa.store 10 (.slice p4xb ((done.map (fun x : Int × Int => x.2)).length + 1) c4xb) hSa.tlow
            clear ho hg hat hSa hQa
            unfold tbC at xb4
            dsimp only at xb4
            have z4xb := xb4.cell 10 _ rfl
            have y4xb := xb4.mark 10 _ rfl
            have l4xb := xb4.lt (Nat.succ_pos _)
            simp only [List.length_map] at hS4xb hQ4xb
            clear xb4
            go_wp2_with fail
            go_roundw
            case rel => exact ⟨j + 1, done ++ [((m1 : Int) - 1, (m2 : Int) - 1)], _, t2, by go_num, by omega, by rw [List.length_append, HDL.out]; rfl, by simpa using hS4xb, hQ4xb, Lib.hid (by
              rw [HM.out, loop_on slotS _ _ HB.out (by omega), slotS_pos HM1.out hpos HM2.out]; rfl)⟩
            case measure => simp [intOf]; omega
          · have xb := hS.box
            unfold tbC at xb
            dsimp only at xb
            obtain ⟨pk, ck, rfl⟩ : ∃ p c, vch = .slice p done.length c := by
              obtain ⟨p, c, hv⟩ := (Sl.of_owns (hS.row_own (i := 10) rfl)).len
              exact ⟨p, c, by rw [← List.length_map (fun x : Int × Int => x.1)]; exact hv⟩
            obtain ⟨pn, cn, rfl⟩ : ∃ p c, vne = .slice p done.length c := by
              obtain ⟨p, c, hv⟩ := (Sl.of_owns (hS.row_own (i := 9) rfl)).len
              exact ⟨p, c, by rw [← List.length_map (fun x : Int × Int => x.2)]; exact hv⟩
            have z11 := xb.cell 11 _ rfl
            have y11 := xb.mark 11 _ rfl
            have z10 := xb.cell 10 _ rfl
            have lb := xb.lt (Nat.succ_pos _)
            have HS := Lib.hid hS
            have HQ := Lib.hid hQ
            clear hS hQ xb
            go_wp2_with (at_builtin; refine wpList_append_own_at _ rfl (.tmp 188) (.tmp 190) 23 rfl w.heap.size 3 iI (.int .i64 0) 1 8 Tryd.underlying23 hiI hiI0 hiI1 hiI2 rfl (by decide) _ _ _ rfl ((HS.out.later (Gr.alloc _ _)).row_own (i := 10) rfl) ⟨w7.heap.size, 0, none⟩ 1 1 [.int .i64 ((m1 : Int) - 1)] rfl rfl ?c1ya ?c2ya ?c3ya ?c4ya ?c5ya ?_)
            try (case c1ya => exact new_cells _ [.int .i64 ((m1 : Int) - 1)] _)
            case c2ya => first | rfl | (intro u hu; simp at hu; subst hu; rfl)
            case c3ya => have := HDL.out; simp; unfold maxLen; omega
            case c4ya => have := HDL.out; simp; omega
            case c5ya => exact (HS.out.later (Gr.alloc _ _)).base
            intro v' w4ya ho hg _ hat
            replace ho : w4ya.ownsRow w.heap.size 3 1 v' ((done.map (fun x : Int × Int => x.1)).length + 1) (List.map vI (done.map (fun x : Int × Int => x.1)) ++ [.int .i64 ((m1 : Int) - 1)]) := by simpa using ho
            have hSa := HS.out.later (Gr.alloc _ (.cells #[.int .i64 ((m1 : Int) - 1)] 3))
            have hQa := hSa.kp_grown (HQ.out.trans (KpQ.gr (Gr.alloc _ (.cells #[.int .i64 ((m1 : Int) - 1)] 3)))) (fun _ h => h) (i := 10) rfl hg
            have xb4 := hSa.box.grown hg (by simp [tbC]) (fun e => hSa.row_ne (i := 10) rfl hSa.inX e)
            have hS4ya := hSa.grow (i := 10) rfl hg ho (hat.imp id (fun h => h.trans (by simp))) 11 (by omega) (rows_check _ _ [] v' ((m1 : Int) - 1)) rfl hSa.len
            obtain ⟨p4ya, c4ya, rfl⟩ := (Sl.of_owns ho).len
            have hQ4ya := hQa.store 11 (.slice p4ya ((done.map (fun x : Int × Int => x.1)).length + 1) c4ya) hSa.tlow
            clear ho hg hat hSa hQa
            unfold tbC at xb4
            dsimp only at xb4
            have z4ya := xb4.cell 11 _ rfl
            have y4ya := xb4.mark 11 _ rfl
            have l4ya := xb4.lt (Nat.succ_pos _)
            simp only [List.length_map] at hS4ya hQ4ya
            have z9 := xb4.cell 10 _ rfl
            clear xb4 z10 z11 y11 lb
            have HSa := Lib.hid hS4ya
            have HQa := Lib.hid hQ4ya
            clear hS4ya hQ4ya
            go_wp2_with (at_builtin; refine wpList_append_own_at _ rfl (.tmp 196) (.tmp 198) 23 rfl w.heap.size 3 iI (.int .i64 0) 1 8 Tryd.underlying23 hiI hiI0 hiI1 hiI2 rfl (by decide) _ _ _ rfl ((HSa.out.later (Gr.alloc _ _)).row_own (i := 9) rfl) ⟨w4ya.heap.size, 0, none⟩ 1 1 [.int .i64 (-1)] rfl rfl ?c1yb ?c2yb ?c3yb ?c4yb ?c5yb ?_)
            try (case c1yb => have hnc := new_cells (w4ya.setCell ⟨tb, 11, none⟩ (.slice p4ya (done.length + 1) c4ya)) [.int .i64 (-1)] 3; rw [show (w4ya.setCell ⟨tb, 11, none⟩ (.slice p4ya (done.length + 1) c4ya)).heap.size = w4ya.heap.size by simp [World.setCell]] at hnc; exact hnc)
            case c2yb => first | rfl | (intro u hu; simp at hu; subst hu; rfl)
            case c3yb => have := HDL.out; simp; unfold maxLen; omega
            case c4yb => have := HDL.out; simp; omega
            case c5yb => exact (HSa.out.later (Gr.alloc _ _)).base
            intro v' w4yb ho hg _ hat
            replace ho : w4yb.ownsRow w.heap.size 3 1 v' ((done.map (fun x : Int × Int => x.2)).length + 1) (List.map vI (done.map (fun x : Int × Int => x.2)) ++ [.int .i64 (-1)]) := by simpa using ho
            have hSa := HSa.out.later (Gr.alloc _ (.cells #[.int .i64 (-1)] 3))
            have hQa := hSa.kp_grown (HQa.out.trans (KpQ.gr (Gr.alloc _ (.cells #[.int .i64 (-1)] 3)))) (fun _ h => h) (i := 9) rfl hg
            have xb4 := hSa.box.grown hg (by simp [tbC]) (fun e => hSa.row_ne (i := 9) rfl hSa.inX e)
            have hS4yb := hSa.grow (i := 9) rfl hg ho (hat.imp id (fun h => h.trans (by simp))) 10 (by omega) (rows_next _ _ [] v' (-1)) rfl hSa.len
            obtain ⟨p4yb, c4yb, rfl⟩ := (Sl.of_owns ho).len
            have hQ4yb := hQa.store 10 (.slice p4yb ((done.map (fun x : Int × Int => x.2)).length + 1) c4yb) hSa.tlow
            clear ho hg hat hSa hQa
            unfold tbC at xb4
            dsimp only at xb4
            have z4yb := xb4.cell 10 _ rfl
            have y4yb := xb4.mark 10 _ rfl
            have l4yb := xb4.lt (Nat.succ_pos _)
            simp only [List.length_map] at hS4yb hQ4yb
            clear xb4
            go_wp2_with fail
            go_roundw
            case rel => exact ⟨j + 1, done ++ [((m1 : Int) - 1, -1)], _, t1, by go_num, by omega, by rw [List.length_append, HDL.out]; rfl, by simpa using hS4yb, hQ4yb, Lib.hid (by
              rw [HM.out, loop_on slotS _ _ HB.out (by omega), slotS_neg HM1.out (by omega)]; rfl)⟩
            case measure => simp [intOf]; omega
      · have HX : (tl, s6) = (done, s) := by
          rw [← HL6.out, HM.out, show n6 - j = 0 by omega, loop_end]
        injection HX with e1 e2
        have HS := Lib.hid (e1 ▸ e2 ▸ hS)
        have HQ := Lib.hid hQ
        have hjJ : ¬ (j : Int) < (n6 : Int) := by omega
        clear hS hQ e1 e2 hdl hjn
        go_wp2_with fail
        go_meet
        case rel => exact ⟨_, HS.out, HQ.out⟩
  case rest =>
  obtain ⟨v, hS, hQ⟩ := hcut
  clear hb1 hb2 hb3 hb5 hb6
  obtain ⟨vm, vl, vc, va, vrows, vcl, vst, vlb, vba, vdf, vne, vch⟩ := v
  obtain ⟨p0, n0, c0, rfl⟩ : ∃ p n c, vm = .slice p n c := by obtain ⟨p, c, hv⟩ := (Sl.of_owns (hS.row_own (i := 0) rfl)).len; exact ⟨p, _, c, hv⟩
  obtain ⟨p1, n1, c1, rfl⟩ : ∃ p n c, vl = .slice p n c := by obtain ⟨p, c, hv⟩ := (Sl.of_owns (hS.row_own (i := 1) rfl)).len; exact ⟨p, _, c, hv⟩
  obtain ⟨p2, n2, c2, rfl⟩ : ∃ p n c, vc = .slice p n c := by obtain ⟨p, c, hv⟩ := (Sl.of_owns (hS.row_own (i := 2) rfl)).len; exact ⟨p, _, c, hv⟩
  obtain ⟨p3, n3, c3, rfl⟩ : ∃ p n c, va = .slice p n c := by obtain ⟨p, c, hv⟩ := (Sl.of_owns (hS.row_own (i := 3) rfl)).len; exact ⟨p, _, c, hv⟩
  obtain ⟨p4, n4, c4, rfl⟩ : ∃ p n c, vcl = .slice p n c := by obtain ⟨p, c, hv⟩ := (Sl.of_owns (hS.row_own (i := 4) rfl)).len; exact ⟨p, _, c, hv⟩
  obtain ⟨p5, n5, c5, rfl⟩ : ∃ p n c, vst = .slice p n c := by obtain ⟨p, c, hv⟩ := (Sl.of_owns (hS.row_own (i := 5) rfl)).len; exact ⟨p, _, c, hv⟩
  obtain ⟨p6, n6, c6, rfl⟩ : ∃ p n c, vlb = .slice p n c := by obtain ⟨p, c, hv⟩ := (Sl.of_owns (hS.row_own (i := 6) rfl)).len; exact ⟨p, _, c, hv⟩
  obtain ⟨p7, n7, c7, rfl⟩ : ∃ p n c, vba = .slice p n c := by obtain ⟨p, c, hv⟩ := (Sl.of_owns (hS.row_own (i := 7) rfl)).len; exact ⟨p, _, c, hv⟩
  obtain ⟨p8, n8, c8, rfl⟩ : ∃ p n c, vdf = .slice p n c := by obtain ⟨p, c, hv⟩ := (Sl.of_owns (hS.row_own (i := 8) rfl)).len; exact ⟨p, _, c, hv⟩
  obtain ⟨p9, n9, c9, rfl⟩ : ∃ p n c, vne = .slice p n c := by obtain ⟨p, c, hv⟩ := (Sl.of_owns (hS.row_own (i := 9) rfl)).len; exact ⟨p, _, c, hv⟩
  obtain ⟨p10, n10, c10, rfl⟩ : ∃ p n c, vch = .slice p n c := by obtain ⟨p, c, hv⟩ := (Sl.of_owns (hS.row_own (i := 10) rfl)).len; exact ⟨p, _, c, hv⟩
  have xb := hS.box
  unfold tbC at xb
  dsimp only at xb
  have xt := hQ.box HXR.out (by simp) (Ne.symm htb2) (by simp)
  have HS := Lib.hid hS
  have HQ := Lib.hid hQ
  clear hS hQ
  have c_e0 := xb.cell 0 _ rfl
  have c_e1 := xb.cell 1 _ rfl
  have c_e2 := xb.cell 2 _ rfl
  have c_e3 := xb.cell 3 _ rfl
  have c_e4 := xb.cell 4 _ rfl
  have c_e5 := xb.cell 5 _ rfl
  have c_e6 := xb.cell 6 _ rfl
  have c_e7 := xb.cell 7 _ rfl
  have c_e8 := xb.cell 8 _ rfl
  have c_e9 := xb.cell 9 _ rfl
  have c_e10 := xb.cell 10 _ rfl
  have c_e11 := xb.cell 11 _ rfl
  have m_e0 := xb.mark 0 _ rfl
  have m_e1 := xb.mark 1 _ rfl
  have m_e2 := xb.mark 2 _ rfl
  have m_e3 := xb.mark 3 _ rfl
  have m_e4 := xb.mark 4 _ rfl
  have m_e5 := xb.mark 5 _ rfl
  have m_e6 := xb.mark 6 _ rfl
  have m_e7 := xb.mark 7 _ rfl
  have m_e8 := xb.mark 8 _ rfl
  have m_e9 := xb.mark 9 _ rfl
  have m_e10 := xb.mark 10 _ rfl
  have m_e11 := xb.mark 11 _ rfl
  have l_e := xb.lt (Nat.succ_pos _)
  have c_f0 := xt.cell 0 _ rfl
  have c_f1 := xt.cell 1 _ rfl
  have c_f2 := xt.cell 2 _ rfl
  have c_f3 := xt.cell 3 _ rfl
  have c_f4 := xt.cell 4 _ rfl
  have c_f5 := xt.cell 5 _ rfl
  have c_f6 := xt.cell 6 _ rfl
  have c_f7 := xt.cell 7 _ rfl
  have c_f8 := xt.cell 8 _ rfl
  have c_f9 := xt.cell 9 _ rfl
  have c_f10 := xt.cell 10 _ rfl
  have c_f11 := xt.cell 11 _ rfl
  have m_f0 := xt.mark 0 _ rfl
  have m_f1 := xt.mark 1 _ rfl
  have m_f2 := xt.mark 2 _ rfl
  have m_f3 := xt.mark 3 _ rfl
  have m_f4 := xt.mark 4 _ rfl
  have m_f5 := xt.mark 5 _ rfl
  have m_f6 := xt.mark 6 _ rfl
  have m_f7 := xt.mark 7 _ rfl
  have m_f8 := xt.mark 8 _ rfl
  have m_f9 := xt.mark 9 _ rfl
  have m_f10 := xt.mark 10 _ rfl
  have m_f11 := xt.mark 11 _ rfl
  have l_f := xt.lt (Nat.succ_pos _)
  go_wp2_with fail
  refine name_endI (fun WF hWF => ?_)
  have xf : boxAt WF w.heap.size [.slice p0 n0 c0, .slice p1 n1 c1, .slice p2 n2 c2, .slice p3 n3 c3, .slice p4 n4 c4, .int .i64 (co : Int), .slice p5 n5 c5, .slice p6 n6 c6, .slice p7 n7 c7, .slice p8 n8 c8, .slice p9 n9 c9, .slice p10 n10 c10] := by rw [hWF]; exact ((((((((((((xt).put 0 _ (by simp)).put 1 _ (by simp)).put 2 _ (by simp)).put 3 _ (by simp)).put 4 _ (by simp)).put 5 _ (by simp)).put 6 _ (by simp)).put 7 _ (by simp)).put 8 _ (by simp)).put 9 _ (by simp)).put 10 _ (by simp)).put 11 _ (by simp)
  have hblk : ∀ j, j ≠ w.heap.size → WF.heap[j]? = wc.heap[j]? := fun j hj => by
    rw [hWF]
    iterate 12 rw [Below.heap_setCell _ _ _ j (by exact hj)]
  have hsz : WF.heap.size = wc.heap.size := by rw [hWF]; simp [World.setCell]
  have hos : WF.os = wc.os ∧ WF.tape = wc.tape ∧ WF.output = wc.output := by rw [hWF]; simp only [setCell_os, setCell_tape, setCell_output]; exact ⟨trivial, trivial, trivial⟩
  clear hWF xb xt
  have hP := HQ.out.toP0 hG0
  have hT : TabEnd17 w rb g s0 (.returned (tbV (tbOf ⟨ml, rl, (co : Int), cl, sl, tl⟩) ⟨.slice p0 n0 c0, .slice p1 n1 c1, .slice p2 n2 c2, .slice p3 n3 c3, vrows, .slice p4 n4 c4, .slice p5 n5 c5, .slice p6 n6 c6, .slice p7 n7 c7, .slice p8 n8 c8, .slice p9 n9 c9, .slice p10 n10 c10⟩)) WF := by
    unfold TabEnd17
    rw [HRC.out]
    refine ⟨_, rfl, ?_, HS.out.len, HS.out.rd.keepB HS.out.rlow HS.out.plow (by rw [hsz]; exact Nat.le_refl _) (fun j _ hB => hblk j (by omega)), ⟨hos.1.trans hP.os, hos.2.1.trans hP.tape, hos.2.2.trans hP.output, by rw [hsz]; exact hP.size, fun j h1 h2 => (hblk j (by omega)).trans (hP.block j h1 h2)⟩⟩
    have hrw := HS.out.rows
    rw [List.append_nil] at hrw
    exact (hrw.keep (w' := WF) (fun j _ _ hX => hblk j (fun e => hX (by rw [e]; simp)))).own
  have HT := Lib.hid hT
  clear hT hP HS HQ HRC hblk hos
  clear c_e0 c_e1 c_e2 c_e3 c_e4 c_e5 c_e6 c_e7 c_e8 c_e9 c_e10 c_e11 m_e0 m_e1 m_e2 m_e3 m_e4 m_e5 m_e6 m_e7 m_e8 m_e9 m_e10 m_e11 l_e
  clear c_f0 c_f1 c_f2 c_f3 c_f4 c_f5 c_f6 c_f7 c_f8 c_f9 c_f10 c_f11 m_f0 m_f1 m_f2 m_f3 m_f4 m_f5 m_f6 m_f7 m_f8 m_f9 m_f10 m_f11 l_f
  have c_g0 := xf.cell 0 _ rfl
  have c_g1 := xf.cell 1 _ rfl
  have c_g2 := xf.cell 2 _ rfl
  have c_g3 := xf.cell 3 _ rfl
  have c_g4 := xf.cell 4 _ rfl
  have c_g5 := xf.cell 5 _ rfl
  have c_g6 := xf.cell 6 _ rfl
  have c_g7 := xf.cell 7 _ rfl
  have c_g8 := xf.cell 8 _ rfl
  have c_g9 := xf.cell 9 _ rfl
  have c_g10 := xf.cell 10 _ rfl
  have c_g11 := xf.cell 11 _ rfl
  have m_g0 := xf.mark 0 _ rfl
  have m_g1 := xf.mark 1 _ rfl
  have m_g2 := xf.mark 2 _ rfl
  have m_g3 := xf.mark 3 _ rfl
  have m_g4 := xf.mark 4 _ rfl
  have m_g5 := xf.mark 5 _ rfl
  have m_g6 := xf.mark 6 _ rfl
  have m_g7 := xf.mark 7 _ rfl
  have m_g8 := xf.mark 8 _ rfl
  have m_g9 := xf.mark 9 _ rfl
  have m_g10 := xf.mark 10 _ rfl
  have m_g11 := xf.mark 11 _ rfl
  have l_g := xf.lt (Nat.succ_pos _)
  refine bodyPost_ret (v := .agg #[.slice p0 n0 c0, .slice p1 n1 c1, .slice p2 n2 c2, .slice p3 n3 c3, .slice p4 n4 c4, .int .i64 (co : Int), .slice p5 n5 c5, .slice p6 n6 c6, .slice p7 n7 c7, .slice p8 n8 c8, .slice p9 n9 c9, .slice p10 n10 c10]) (by simp [results, Tryd.results55, go_sem, c_g0, c_g1, c_g2, c_g3, c_g4, c_g5, c_g6, c_g7, c_g8, c_g9, c_g10, c_g11]) rfl ?_
  exact HT.out

end Go.Proofs.YtcbfmajojkcibaaDoor
