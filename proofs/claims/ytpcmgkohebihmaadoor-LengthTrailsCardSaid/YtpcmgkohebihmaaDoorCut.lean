/- cut of length, of a rule with a trail. No condition but bounds. -/
import Derived.Test.YtpcmgkohebihmaaDoorCutA
namespace Go.Proofs.YtpcmgkohebihmaaDoor
open Go Go.RowKit

set_option maxRecDepth 100000 in
set_option maxHeartbeats 8000000 in
theorem cut_trail (e f : Ex) (op pos : Int) (s : BitVec 256) (text : ByteArray) (mn mx : Int) (p : Option Addr) (n c : Nat) (op2 pos2 : Int) (s2 : BitVec 256) (text2 : ByteArray) (mn2 mx2 : Int) (p2 : Option Addr) (n2 c2 : Nat) (w : World)
    (he : ExIn w e (exCells op pos s text mn mx (.slice p n c))) (hf : ExIn w f (exCells op2 pos2 s2 text2 mn2 mx2 (.slice p2 n2 c2))) (hec : isCore e = true) (hfc : isCore f = true) :
    Calls Tryd.prog 29 #[.agg #[.int .i64 op, .int .i64 pos, .int .u64 (wd s 0), .int .u64 (wd s 1), .int .u64 (wd s 2), .int .u64 (wd s 3), .string text, .int .i64 mn, .int .i64 mx, .slice p n c, .bool true, .int .i64 op2, .int .i64 pos2, .int .u64 (wd s2 0), .int .u64 (wd s2 1), .int .u64 (wd s2 2), .int .u64 (wd s2 3), .string text2, .int .i64 mn2, .int .i64 mx2, .slice p2 n2 c2]] w
      fun e' w' => e' = .returned (cutVal (cutRes (ofE e) (ofE f))) ∧ Gr w w' := by
  have HE := Lib.hid he
  have HF := Lib.hid hf
  have hg1 := core_good hec
  have hg2 := core_good hfc
  have HG1 := Lib.hid hg1
  have HG2 := Lib.hid hg2
  have HEE := HE
  have HFF := HF
  unfold exCells at HEE HFF
  clear he hf hec hfc hg1 hg2
  obtain ⟨z, hz⟩ : ∃ z, ofE e = z := ⟨_, rfl⟩
  obtain ⟨y, hy⟩ : ∃ y, ofE f = y := ⟨_, rfl⟩
  rw [hz, hy]
  have HZ := Lib.hid hz
  have HY := Lib.hid hy
  clear hz hy
  go_enter Tryd.func29, Tryd.ntmps29
  go_wp2_with fail
  refine name_world (fun W hW => ?_)
  obtain ⟨xc, xr, hgW, hsz⟩ : boxAt W w.heap.size [.int .i64 op, .int .i64 pos, .int .u64 (wd s 0), .int .u64 (wd s 1), .int .u64 (wd s 2), .int .u64 (wd s 3), .string text, .int .i64 mn, .int .i64 mx, .slice p n c, .bool true, .int .i64 op2, .int .i64 pos2, .int .u64 (wd s2 0), .int .u64 (wd s2 1), .int .u64 (wd s2 2), .int .u64 (wd s2 3), .string text2, .int .i64 mn2, .int .i64 mx2, .slice p2 n2 c2] ∧ boxAt W (w.heap.size + 1) [.int .i64 0, .int .i64 0] ∧ Gr w W ∧ W.heap.size = w.heap.size + 2 := by
    rw [hW]; exact bx2 _ _ _ _ _
  clear hW
  have HOE := Lib.hid (fun (cur : World) (h : Gr W cur) => by
    have := of_any _ e (Nat.le_refl _) _ cur (HEE.out.later (hgW.trans h)) HG1.out.1 (by have := HG1.out.2; omega)
    rw [HZ.out] at this; exact this)
  have HOF := Lib.hid (fun (cur : World) (h : Gr W cur) => by
    have := of_any _ f (Nat.le_refl _) _ cur (HFF.out.later (hgW.trans h)) HG2.out.1 (by have := HG2.out.2; omega)
    rw [HY.out] at this; exact this)
  have c_c0 := xc.cell 0 _ rfl
  have c_c1 := xc.cell 1 _ rfl
  have c_c2 := xc.cell 2 _ rfl
  have c_c3 := xc.cell 3 _ rfl
  have c_c4 := xc.cell 4 _ rfl
  have c_c5 := xc.cell 5 _ rfl
  have c_c6 := xc.cell 6 _ rfl
  have c_c7 := xc.cell 7 _ rfl
  have c_c8 := xc.cell 8 _ rfl
  have c_c9 := xc.cell 9 _ rfl
  have c_c10 := xc.cell 10 _ rfl
  have c_c11 := xc.cell 11 _ rfl
  have c_c12 := xc.cell 12 _ rfl
  have c_c13 := xc.cell 13 _ rfl
  have c_c14 := xc.cell 14 _ rfl
  have c_c15 := xc.cell 15 _ rfl
  have c_c16 := xc.cell 16 _ rfl
  have c_c17 := xc.cell 17 _ rfl
  have c_c18 := xc.cell 18 _ rfl
  have c_c19 := xc.cell 19 _ rfl
  have c_c20 := xc.cell 20 _ rfl
  have m_c0 := xc.mark 0 _ rfl
  have m_c1 := xc.mark 1 _ rfl
  have m_c2 := xc.mark 2 _ rfl
  have m_c3 := xc.mark 3 _ rfl
  have m_c4 := xc.mark 4 _ rfl
  have m_c5 := xc.mark 5 _ rfl
  have m_c6 := xc.mark 6 _ rfl
  have m_c7 := xc.mark 7 _ rfl
  have m_c8 := xc.mark 8 _ rfl
  have m_c9 := xc.mark 9 _ rfl
  have m_c10 := xc.mark 10 _ rfl
  have m_c11 := xc.mark 11 _ rfl
  have m_c12 := xc.mark 12 _ rfl
  have m_c13 := xc.mark 13 _ rfl
  have m_c14 := xc.mark 14 _ rfl
  have m_c15 := xc.mark 15 _ rfl
  have m_c16 := xc.mark 16 _ rfl
  have m_c17 := xc.mark 17 _ rfl
  have m_c18 := xc.mark 18 _ rfl
  have m_c19 := xc.mark 19 _ rfl
  have m_c20 := xc.mark 20 _ rfl
  have l_c := xc.lt (Nat.succ_pos _)
  refine wp_region_S (Gr W) (.take 0 (.take 1 (.take 3 (.take 4 (.fork3 2 (.fork3 5 (.fork 6 (.run 7 false (.run 8 false (.run 9 true .nil))) 7 (.run 6 false (.run 8 false (.run 9 true .nil)))) 6 (.fork 5 (.run 7 false (.run 8 false (.run 9 true .nil))) 7 (.run 5 false (.run 8 false (.run 9 true .nil)))) 7 (.fork 5 (.run 6 false (.run 8 false (.run 9 true .nil))) 6 (.run 5 false (.run 8 false (.run 9 true .nil))))) 6 (.fork 2 (.fork 5 (.run 7 false (.run 8 false (.run 9 true .nil))) 7 (.run 5 false (.run 8 false (.run 9 true .nil)))) 7 (.run 2 false (.run 5 false (.run 8 false (.run 9 true .nil))))) 7 (.fork 2 (.fork 5 (.run 6 false (.run 8 false (.run 9 true .nil))) 6 (.run 5 false (.run 8 false (.run 9 true .nil)))) 6 (.run 2 false (.run 5 false (.run 8 false (.run 9 true .nil)))))))))) (Gr.drew _) (by kernel_rfl) (by kernel_rfl) ?_
  simp only [pickOps, nthOp]
  intro wq _ hG
  repeat (first | (refine wpG_skip_take ?_ ?_; (focus rfl); (try simp only [Act.put, List.setIfInBounds_toArray, List.set_cons_zero, List.set_cons_succ])) | (refine wpG_take ?_ ?_; (focus rfl); apply Exists.intro; refine ⟨fun w' hw' => ?_, ?_⟩; (focus (have hc := Gr.cells hw'; go_simp; (try rfl); done)); (try simp only [Act.put, List.setIfInBounds_toArray, List.set_cons_zero, List.set_cons_succ])))
  repeat' (first
    | (refine wpG_fork3 ?_ ?_ ?_ (fun K hK => ?_) (fun K hK => ?_) (fun K hK => ?_) <;> first | rfl | (first | (go_simp; go_at_call 22; (with_reducible refine (HOE.out _ hG).mono ?_); rintro e' wn ⟨rfl, hb⟩; (try replace xb := xb.later hb); (try replace xa := xa.later hb); try dsimp only; replace hG := hG.trans hb; refine hK.out _ _ hG ?_; clear hb hK K; (try simp only [Act.put, List.setIfInBounds_toArray, List.set_cons_zero, List.set_cons_succ])) | (go_simp; go_at_call 22; (with_reducible refine (HOF.out _ hG).mono ?_); rintro e' wn ⟨rfl, hb⟩; (try replace xb := xb.later hb); (try replace xa := xa.later hb); try dsimp only; replace hG := hG.trans hb; refine hK.out _ _ hG ?_; clear hb hK K; (try simp only [Act.put, List.setIfInBounds_toArray, List.set_cons_zero, List.set_cons_succ])) | (go_simp; refine name_K (fun wn hW' => ?_); have hb : Gr _ wn := (by rw [hW']; exact Gr.alloc _ _); have xn : NB W wn _ [.bool false, .int .i64 0, .int .i64 0] := (by rw [hW']; exact ⟨boxAt.new _ _ rfl, hG.size⟩); clear hW'; (try have hab := xa.1.lt (by simp)); (try replace xb := xb.later hb); (try replace xa := xa.later hb); (try have xb := xa); have xa := xn; clear xn; replace hG := hG.trans hb; refine hK.out _ _ hG ?_; clear hb hK K; (try simp only [Act.put, List.setIfInBounds_toArray, List.set_cons_zero, List.set_cons_succ]))))
    | (refine wpG_fork ?_ ?_ (fun K hK => ?_) (fun K hK => ?_) <;> first | rfl | (first | (go_simp; go_at_call 22; (with_reducible refine (HOE.out _ hG).mono ?_); rintro e' wn ⟨rfl, hb⟩; (try replace xb := xb.later hb); (try replace xa := xa.later hb); try dsimp only; replace hG := hG.trans hb; refine hK.out _ _ hG ?_; clear hb hK K; (try simp only [Act.put, List.setIfInBounds_toArray, List.set_cons_zero, List.set_cons_succ])) | (go_simp; go_at_call 22; (with_reducible refine (HOF.out _ hG).mono ?_); rintro e' wn ⟨rfl, hb⟩; (try replace xb := xb.later hb); (try replace xa := xa.later hb); try dsimp only; replace hG := hG.trans hb; refine hK.out _ _ hG ?_; clear hb hK K; (try simp only [Act.put, List.setIfInBounds_toArray, List.set_cons_zero, List.set_cons_succ])) | (go_simp; refine name_K (fun wn hW' => ?_); have hb : Gr _ wn := (by rw [hW']; exact Gr.alloc _ _); have xn : NB W wn _ [.bool false, .int .i64 0, .int .i64 0] := (by rw [hW']; exact ⟨boxAt.new _ _ rfl, hG.size⟩); clear hW'; (try have hab := xa.1.lt (by simp)); (try replace xb := xb.later hb); (try replace xa := xa.later hb); (try have xb := xa); have xa := xn; clear xn; replace hG := hG.trans hb; refine hK.out _ _ hG ?_; clear hb hK K; (try simp only [Act.put, List.setIfInBounds_toArray, List.set_cons_zero, List.set_cons_succ]))))
    | (refine wpG_run ?_ (fun K hK => ?_) <;> first | rfl | (first | (go_simp; go_at_call 22; (with_reducible refine (HOE.out _ hG).mono ?_); rintro e' wn ⟨rfl, hb⟩; (try replace xb := xb.later hb); (try replace xa := xa.later hb); try dsimp only; replace hG := hG.trans hb; refine hK.out _ _ hG ?_; clear hb hK K; (try simp only [Act.put, List.setIfInBounds_toArray, List.set_cons_zero, List.set_cons_succ])) | (go_simp; go_at_call 22; (with_reducible refine (HOF.out _ hG).mono ?_); rintro e' wn ⟨rfl, hb⟩; (try replace xb := xb.later hb); (try replace xa := xa.later hb); try dsimp only; replace hG := hG.trans hb; refine hK.out _ _ hG ?_; clear hb hK K; (try simp only [Act.put, List.setIfInBounds_toArray, List.set_cons_zero, List.set_cons_succ])) | (go_simp; refine name_K (fun wn hW' => ?_); have hb : Gr _ wn := (by rw [hW']; exact Gr.alloc _ _); have xn : NB W wn _ [.bool false, .int .i64 0, .int .i64 0] := (by rw [hW']; exact ⟨boxAt.new _ _ rfl, hG.size⟩); clear hW'; (try have hab := xa.1.lt (by simp)); (try replace xb := xb.later hb); (try replace xa := xa.later hb); (try have xb := xa); have xa := xn; clear xn; replace hG := hG.trans hb; refine hK.out _ _ hG ?_; clear hb hK K; (try simp only [Act.put, List.setIfInBounds_toArray, List.set_cons_zero, List.set_cons_succ])))))
  all_goals
    have q0 := xa.1.cell 0 _ rfl
    have q1 := xa.1.cell 1 _ rfl
    have q2 := xa.1.cell 2 _ rfl
    have r0 := xb.1.cell 0 _ rfl
    have r1 := xb.1.cell 1 _ rfl
    have r2 := xb.1.cell 2 _ rfl
    have mq0 := xa.1.mark 0 _ rfl
    have mq1 := xa.1.mark 1 _ rfl
    have mq2 := xa.1.mark 2 _ rfl
    have mr0 := xb.1.mark 0 _ rfl
    have mr1 := xb.1.mark 1 _ rfl
    have mr2 := xb.1.mark 2 _ rfl
    have lq := xa.1.lt (by simp)
    have lr := xb.1.lt (by simp)
    refine wpG_run rfl (fun K hK => ?_)
    go_simp
    refine name_K (fun w8 hw8 => ?_)
    first
    | (have x4 := xb.putE hw8; have x5 := xa.farE (Nat.ne_of_lt hab) hw8; have hG8 := xb.gr hG hw8; have hne := Nat.ne_of_gt hab)
    | (have x4 := xa.putE hw8; have x5 := xb.farE (Nat.ne_of_gt hab) hw8; have hG8 := xa.gr hG hw8; have hne := Nat.ne_of_lt hab)
    clear hw8 q0 q1 q2 r0 r1 r2 mq0 mq1 mq2 mr0 mr1 mr2 lq lr xa xb hab hG
    refine hK.out _ _ hG8 ?_
    clear hK K
    try simp only [Act.put, List.setIfInBounds_toArray, List.set_cons_zero, List.set_cons_succ]
    have q0 := x5.1.cell 0 _ rfl
    have q1 := x5.1.cell 1 _ rfl
    have q2 := x5.1.cell 2 _ rfl
    have mq0 := x5.1.mark 0 _ rfl
    have mq1 := x5.1.mark 1 _ rfl
    have mq2 := x5.1.mark 2 _ rfl
    have lq := x5.1.lt (by simp)
    refine wpG_last ?_ (fun K hK => ?_); (focus rfl)
    go_simp
    refine name_K (fun w9 hw9 => ?_)
    have y5 := x5.putE hw9
    have y4 := x4.farE hne hw9
    have hG9 := x5.gr hG8 hw9
    clear hw9 q0 q1 q2 mq0 mq1 mq2 lq x4 x5 hne hG8
    refine hK.out _ _ ?_
    clear hK K
    try simp only [Act.put, List.setIfInBounds_toArray, List.set_cons_zero, List.set_cons_succ]
    refine wpG_done ?_
    clear c_c0 c_c1 c_c2 c_c3 c_c4 c_c5 c_c6 c_c7 c_c8 c_c9 c_c10 c_c11 c_c12 c_c13 c_c14 c_c15 c_c16 c_c17 c_c18 c_c19 c_c20 m_c0 m_c1 m_c2 m_c3 m_c4 m_c5 m_c6 m_c7 m_c8 m_c9 m_c10 m_c11 m_c12 m_c13 m_c14 m_c15 m_c16 m_c17 m_c18 m_c19 m_c20 l_c
    clear xc HOE HOF HEE HFF
    have xr9 := xr.later hG9
    have hgw9 := hgW.trans hG9
    obtain ⟨y4, _⟩ := y4
    obtain ⟨y5, _⟩ := y5
    obtain ⟨b1, h1⟩ : ∃ b, z.none = b := ⟨_, rfl⟩
    obtain ⟨b2, h2⟩ : ∃ b, (z.least == 0) = b := ⟨_, rfl⟩
    obtain ⟨b3, h3⟩ : ∃ b, oneL y = b := ⟨_, rfl⟩
    obtain ⟨b4, h4⟩ : ∃ b, oneL z = b := ⟨_, rfl⟩
    have H1 := Lib.hid h1
    have H2 := Lib.hid h2
    have H3 := Lib.hid h3
    have H4 := Lib.hid h4
    have HR := Lib.hid (cutRes_of h1 h2 h3 h4)
    clear h3 h4 hG9
    cases b1
    · cases b2
      · have c_h0 := y4.cell 0 _ rfl
        have c_h1 := y4.cell 1 _ rfl
        have c_h2 := y4.cell 2 _ rfl
        have m_h0 := y4.mark 0 _ rfl
        have m_h1 := y4.mark 1 _ rfl
        have m_h2 := y4.mark 2 _ rfl
        have l_h := y4.lt (Nat.succ_pos _)
        have c_t0 := y5.cell 0 _ rfl
        have c_t1 := y5.cell 1 _ rfl
        have c_t2 := y5.cell 2 _ rfl
        have m_t0 := y5.mark 0 _ rfl
        have m_t1 := y5.mark 1 _ rfl
        have m_t2 := y5.mark 2 _ rfl
        have l_t := y5.lt (Nat.succ_pos _)
        go_wp2_with fail
        clear c_h0 c_h1 c_h2 m_h0 m_h1 m_h2 l_h
        clear c_t0 c_t1 c_t2 m_t0 m_t1 m_t2 l_t
        go_at_call 48
        refine (cut1_any y w9).mono ?_; rintro e' w10 ⟨rfl, hb⟩
        rw [H3.out]
        replace y4 := y4.later hb
        replace y5 := y5.later hb
        replace xr9 := xr9.later hb
        replace hgw9 := hgw9.trans hb
        clear hb
        cases b3
        · have c_h0 := y4.cell 0 _ rfl
          have c_h1 := y4.cell 1 _ rfl
          have c_h2 := y4.cell 2 _ rfl
          have m_h0 := y4.mark 0 _ rfl
          have m_h1 := y4.mark 1 _ rfl
          have m_h2 := y4.mark 2 _ rfl
          have l_h := y4.lt (Nat.succ_pos _)
          go_wp2_with fail
          clear c_h0 c_h1 c_h2 m_h0 m_h1 m_h2 l_h
          go_at_call 48
          have hc := cut1_any z w10
          rw [H1.out] at hc
          refine hc.mono ?_; clear hc; rintro e' w11 ⟨rfl, hb⟩
          rw [H4.out]
          replace y4 := y4.later hb
          replace y5 := y5.later hb
          replace xr9 := xr9.later hb
          replace hgw9 := hgw9.trans hb
          clear hb
          cases b4
          · have c_r0 := xr9.cell 0 _ rfl
            have c_r1 := xr9.cell 1 _ rfl
            have m_r0 := xr9.mark 0 _ rfl
            have m_r1 := xr9.mark 1 _ rfl
            have l_r := xr9.lt (Nat.succ_pos _)
            go_wp2_with fail
            exact bodyPost_ret (v := .tuple #[.agg #[.int .i64 0, .int .i64 0], .bool false]) (by simp [results, Tryd.results29, go_sem, c_r0, c_r1]) rfl ⟨by rw [HR.out]; rfl, (Below.setCell hgw9 (by show _ ≤ w.heap.size + 1; omega) _).setCell (by show _ ≤ w.heap.size + 1; omega) _⟩
          · have c_h0 := y4.cell 0 _ rfl
            have c_h1 := y4.cell 1 _ rfl
            have c_h2 := y4.cell 2 _ rfl
            have m_h0 := y4.mark 0 _ rfl
            have m_h1 := y4.mark 1 _ rfl
            have m_h2 := y4.mark 2 _ rfl
            have l_h := y4.lt (Nat.succ_pos _)
            have c_r0 := xr9.cell 0 _ rfl
            have c_r1 := xr9.cell 1 _ rfl
            have m_r0 := xr9.mark 0 _ rfl
            have m_r1 := xr9.mark 1 _ rfl
            have l_r := xr9.lt (Nat.succ_pos _)
            go_wp2_with fail
            exact bodyPost_ret (v := .tuple #[.agg #[.int .i64 2, .int .i64 z.least], .bool true]) (by simp [results, Tryd.results29, go_sem, c_r0, c_r1]) rfl ⟨by rw [HR.out]; rfl, (Below.setCell hgw9 (by show _ ≤ w.heap.size + 1; omega) _).setCell (by show _ ≤ w.heap.size + 1; omega) _⟩
        · have c_t0 := y5.cell 0 _ rfl
          have c_t1 := y5.cell 1 _ rfl
          have c_t2 := y5.cell 2 _ rfl
          have m_t0 := y5.mark 0 _ rfl
          have m_t1 := y5.mark 1 _ rfl
          have m_t2 := y5.mark 2 _ rfl
          have l_t := y5.lt (Nat.succ_pos _)
          have c_r0 := xr9.cell 0 _ rfl
          have c_r1 := xr9.cell 1 _ rfl
          have m_r0 := xr9.mark 0 _ rfl
          have m_r1 := xr9.mark 1 _ rfl
          have l_r := xr9.lt (Nat.succ_pos _)
          go_wp2_with fail
          exact bodyPost_ret (v := .tuple #[.agg #[.int .i64 1, .int .i64 y.least], .bool true]) (by simp [results, Tryd.results29, go_sem, c_r0, c_r1]) rfl ⟨by rw [HR.out]; rfl, (Below.setCell hgw9 (by show _ ≤ w.heap.size + 1; omega) _).setCell (by show _ ≤ w.heap.size + 1; omega) _⟩
      · have c_h0 := y4.cell 0 _ rfl
        have c_h1 := y4.cell 1 _ rfl
        have c_h2 := y4.cell 2 _ rfl
        have m_h0 := y4.mark 0 _ rfl
        have m_h1 := y4.mark 1 _ rfl
        have m_h2 := y4.mark 2 _ rfl
        have l_h := y4.lt (Nat.succ_pos _)
        have c_r0 := xr9.cell 0 _ rfl
        have c_r1 := xr9.cell 1 _ rfl
        have m_r0 := xr9.mark 0 _ rfl
        have m_r1 := xr9.mark 1 _ rfl
        have l_r := xr9.lt (Nat.succ_pos _)
        go_wp2_with fail
        exact bodyPost_ret (v := .tuple #[.agg #[.int .i64 0, .int .i64 0], .bool false]) (by simp [results, Tryd.results29, go_sem, c_r0, c_r1]) rfl ⟨by rw [HR.out]; rfl, (Below.setCell hgw9 (by show _ ≤ w.heap.size + 1; omega) _).setCell (by show _ ≤ w.heap.size + 1; omega) _⟩
    · have c_h0 := y4.cell 0 _ rfl
      have c_h1 := y4.cell 1 _ rfl
      have c_h2 := y4.cell 2 _ rfl
      have m_h0 := y4.mark 0 _ rfl
      have m_h1 := y4.mark 1 _ rfl
      have m_h2 := y4.mark 2 _ rfl
      have l_h := y4.lt (Nat.succ_pos _)
      have c_t0 := y5.cell 0 _ rfl
      have c_t1 := y5.cell 1 _ rfl
      have c_t2 := y5.cell 2 _ rfl
      have m_t0 := y5.mark 0 _ rfl
      have m_t1 := y5.mark 1 _ rfl
      have m_t2 := y5.mark 2 _ rfl
      have l_t := y5.lt (Nat.succ_pos _)
      go_wp2_with fail
      clear c_h0 c_h1 c_h2 m_h0 m_h1 m_h2 l_h
      clear c_t0 c_t1 c_t2 m_t0 m_t1 m_t2 l_t
      go_at_call 48
      refine (cut1_any y w9).mono ?_; rintro e' w10 ⟨rfl, hb⟩
      rw [H3.out]
      replace y4 := y4.later hb
      replace y5 := y5.later hb
      replace xr9 := xr9.later hb
      replace hgw9 := hgw9.trans hb
      clear hb
      cases b3
      · have c_h0 := y4.cell 0 _ rfl
        have c_h1 := y4.cell 1 _ rfl
        have c_h2 := y4.cell 2 _ rfl
        have m_h0 := y4.mark 0 _ rfl
        have m_h1 := y4.mark 1 _ rfl
        have m_h2 := y4.mark 2 _ rfl
        have l_h := y4.lt (Nat.succ_pos _)
        go_wp2_with fail
        clear c_h0 c_h1 c_h2 m_h0 m_h1 m_h2 l_h
        go_at_call 48
        have hc := cut1_any z w10
        rw [H1.out] at hc
        refine hc.mono ?_; clear hc; rintro e' w11 ⟨rfl, hb⟩
        rw [H4.out]
        replace y4 := y4.later hb
        replace y5 := y5.later hb
        replace xr9 := xr9.later hb
        replace hgw9 := hgw9.trans hb
        clear hb
        cases b4
        · have c_r0 := xr9.cell 0 _ rfl
          have c_r1 := xr9.cell 1 _ rfl
          have m_r0 := xr9.mark 0 _ rfl
          have m_r1 := xr9.mark 1 _ rfl
          have l_r := xr9.lt (Nat.succ_pos _)
          go_wp2_with fail
          exact bodyPost_ret (v := .tuple #[.agg #[.int .i64 0, .int .i64 0], .bool false]) (by simp [results, Tryd.results29, go_sem, c_r0, c_r1]) rfl ⟨by rw [HR.out]; rfl, (Below.setCell hgw9 (by show _ ≤ w.heap.size + 1; omega) _).setCell (by show _ ≤ w.heap.size + 1; omega) _⟩
        · have c_h0 := y4.cell 0 _ rfl
          have c_h1 := y4.cell 1 _ rfl
          have c_h2 := y4.cell 2 _ rfl
          have m_h0 := y4.mark 0 _ rfl
          have m_h1 := y4.mark 1 _ rfl
          have m_h2 := y4.mark 2 _ rfl
          have l_h := y4.lt (Nat.succ_pos _)
          have c_r0 := xr9.cell 0 _ rfl
          have c_r1 := xr9.cell 1 _ rfl
          have m_r0 := xr9.mark 0 _ rfl
          have m_r1 := xr9.mark 1 _ rfl
          have l_r := xr9.lt (Nat.succ_pos _)
          go_wp2_with fail
          exact bodyPost_ret (v := .tuple #[.agg #[.int .i64 2, .int .i64 1], .bool true]) (by simp [results, Tryd.results29, go_sem, c_r0, c_r1]) rfl ⟨by rw [HR.out]; rfl, (Below.setCell hgw9 (by show _ ≤ w.heap.size + 1; omega) _).setCell (by show _ ≤ w.heap.size + 1; omega) _⟩
      · have c_t0 := y5.cell 0 _ rfl
        have c_t1 := y5.cell 1 _ rfl
        have c_t2 := y5.cell 2 _ rfl
        have m_t0 := y5.mark 0 _ rfl
        have m_t1 := y5.mark 1 _ rfl
        have m_t2 := y5.mark 2 _ rfl
        have l_t := y5.lt (Nat.succ_pos _)
        have c_r0 := xr9.cell 0 _ rfl
        have c_r1 := xr9.cell 1 _ rfl
        have m_r0 := xr9.mark 0 _ rfl
        have m_r1 := xr9.mark 1 _ rfl
        have l_r := xr9.lt (Nat.succ_pos _)
        go_wp2_with fail
        exact bodyPost_ret (v := .tuple #[.agg #[.int .i64 1, .int .i64 y.least], .bool true]) (by simp [results, Tryd.results29, go_sem, c_r0, c_r1]) rfl ⟨by rw [HR.out]; rfl, (Below.setCell hgw9 (by show _ ≤ w.heap.size + 1; omega) _).setCell (by show _ ≤ w.heap.size + 1; omega) _⟩

end Go.Proofs.YtpcmgkohebihmaaDoor
