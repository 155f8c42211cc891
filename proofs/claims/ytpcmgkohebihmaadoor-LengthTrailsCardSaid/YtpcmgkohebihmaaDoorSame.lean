/- EqFault of bolterref0, Same of bolterkit, of faults without names. No condition but that the errors' variables hold errors. -/
import Derived.Test.YtpcmgkohebihmaaDoorTell
namespace Go.Proofs.YtpcmgkohebihmaaDoor
open Go Go.RowKit

structure Fa where
  code : Int
  stage : Int
  rule : Int
  at' : Int
  deriving DecidableEq
def eqFa (a b : Fa) : Bool := (a.code == b.code) && ((a.stage == b.stage) && ((a.rule == b.rule) && (a.at' == b.at')))
theorem eqFa_iff (a b : Fa) : eqFa a b = true ↔ a = b := by
  cases a; cases b; simp [eqFa]

set_option maxHeartbeats 2000000 in
theorem eqTexts_nil (w : World) : Calls Tryd.prog 44 #[.slice none 0 0, .slice none 0 0] w fun e w' => e = .returned (.bool true) ∧ Gr w w' := by
  go_enter Tryd.func44, Tryd.ntmps44
  go_wp2_with fail
  refine wp_loop_rounds 1 ?_
  rw [rounds_succ]
  go_wp2_with fail
  go_ret
  exact ⟨rfl, Gr.refl _⟩

set_option maxRecDepth 100000 in
set_option maxHeartbeats 4000000 in
theorem eqFault_any (a b : Fa) (w : World) : Calls Tryd.prog 26 #[.agg #[.int .i64 a.code, .int .i64 a.stage, .int .i64 a.rule, .int .i64 a.at', .slice none 0 0], .agg #[.int .i64 b.code, .int .i64 b.stage, .int .i64 b.rule, .int .i64 b.at', .slice none 0 0]] w fun e w' => e = .returned (.bool (eqFa a b)) ∧ Gr w w' := by
  obtain ⟨a0, a1, a2, a3⟩ := a
  obtain ⟨b0, b1, b2, b3⟩ := b
  dsimp only
  obtain ⟨e0, h0⟩ : ∃ z, (a0 == b0) = z := ⟨_, rfl⟩
  obtain ⟨e1, h1⟩ : ∃ z, (a1 == b1) = z := ⟨_, rfl⟩
  obtain ⟨e2, h2⟩ : ∃ z, (a2 == b2) = z := ⟨_, rfl⟩
  obtain ⟨e3, h3⟩ : ∃ z, (a3 == b3) = z := ⟨_, rfl⟩
  have HR := Lib.hid (show eqFa ⟨a0, a1, a2, a3⟩ ⟨b0, b1, b2, b3⟩ = (e0 && (e1 && (e2 && e3))) by unfold eqFa; rw [h0, h1, h2, h3])
  go_enter Tryd.func26, Tryd.ntmps26
  cases e0
  · go_wp2_with fail
    go_ret
    exact ⟨ret_bool (by rw [HR.out]; rfl), (Gr.alloc _ _).trans (Gr.alloc _ _)⟩
  cases e1
  · go_wp2_with fail
    go_ret
    exact ⟨ret_bool (by rw [HR.out]; rfl), (Gr.alloc _ _).trans (Gr.alloc _ _)⟩
  cases e2
  · go_wp2_with fail
    go_ret
    exact ⟨ret_bool (by rw [HR.out]; rfl), (Gr.alloc _ _).trans (Gr.alloc _ _)⟩
  cases e3
  · go_wp2_with fail
    go_ret
    exact ⟨ret_bool (by rw [HR.out]; rfl), (Gr.alloc _ _).trans (Gr.alloc _ _)⟩
  · go_wp2_with fail
    go_at_call 44
    refine (eqTexts_nil _).mono ?_; rintro e' w1 ⟨rfl, hb⟩
    go_wp2_with fail
    go_ret
    exact ⟨ret_bool (by rw [HR.out]; rfl), ((Gr.alloc _ _).trans (Gr.alloc _ _)).trans hb⟩

set_option maxHeartbeats 4000000 in
theorem same_nil (b : Fa) (w : World) : Calls Tryd.prog 13 #[.nilIface, .agg #[.int .i64 b.code, .int .i64 b.stage, .int .i64 b.rule, .int .i64 b.at', .slice none 0 0]] w fun e w' => e = .returned (.bool (b.code == 0)) ∧ Gr w w' := by
  go_enter Tryd.func13, Tryd.ntmps13
  go_wp2_with fail
  go_ret
  exact ⟨rfl, Gr.alloc _ _⟩

def Er.fa (e : Er) (k : Nat) : Fa := ⟨(k : Int), e.say .staged, e.say .ruled, e.say .placed⟩
set_option maxRecDepth 100000 in
set_option maxHeartbeats 4000000 in
theorem same_er {W : World} {s : Nat → Addr} (hF : FaultsIn W s) (e : Er) (he : e.In W) (hok : e.ok) (k : Nat) (hk1 : 2 ≤ k) (hk2 : k ≤ 17) (hb : e.base = s k) (hn : e.first .named = none) (b : Fa) :
    Calls Tryd.prog 13 #[e.val, .agg #[.int .i64 b.code, .int .i64 b.stage, .int .i64 b.rule, .int .i64 b.at', .slice none 0 0]] W fun x w' => x = .returned (.bool (eqFa (e.fa k) b)) ∧ Gr W w' := by
  have HT := Lib.hid (fun (cur : World) (h : Gr W cur) => tell_any (hF.later h) e (he.later h) hok k hk1 hk2 hb hn)
  have HQ := Lib.hid (fun (cur : World) => eqFault_any (e.fa k) b cur)
  unfold Er.fa at HQ
  dsimp only at HQ
  have HR0 := Lib.hid (fun (h : b.code = 0) => (show eqFa (e.fa k) b = false by
    unfold eqFa Er.fa; rw [h]; simp; omega))
  obtain ⟨r, hr⟩ : ∃ r, eqFa (e.fa k) b = r := ⟨_, rfl⟩
  rw [hr] at HR0 ⊢
  unfold Er.fa at hr
  rw [hr] at HQ
  clear hr
  obtain ⟨t0, p0, hv0⟩ := e.val_iface
  rw [hv0] at HT ⊢
  obtain ⟨n1, hn1⟩ : ∃ n, e.say .staged = n := ⟨_, rfl⟩
  obtain ⟨n2, hn2⟩ : ∃ n, e.say .ruled = n := ⟨_, rfl⟩
  obtain ⟨n3, hn3⟩ : ∃ n, e.say .placed = n := ⟨_, rfl⟩
  rw [hn1, hn2, hn3] at HT HQ
  clear hn1 hn2 hn3
  obtain ⟨b0, b1, b2, b3⟩ := b
  dsimp only at HQ HR0 ⊢
  clear hF he hb hok hn hv0
  go_enter Tryd.func13, Tryd.ntmps13
  by_cases h0 : b0 = 0
  · subst h0
    obtain rfl := HR0.out rfl
    go_wp2_with fail
    refine name_world (fun W1 hW => ?_)
    have xb : boxAt W1 W.heap.size [.int .i64 0, .int .i64 b1, .int .i64 b2, .int .i64 b3, .slice none 0 0] := boxAt.new _ _ hW
    have hg := Gr.of_alloc hW
    clear hW
    have c_b0 := xb.cell 0 _ rfl
    have c_b1 := xb.cell 1 _ rfl
    have c_b2 := xb.cell 2 _ rfl
    have c_b3 := xb.cell 3 _ rfl
    have c_b4 := xb.cell 4 _ rfl
    have m_b0 := xb.mark 0 _ rfl
    have m_b1 := xb.mark 1 _ rfl
    have m_b2 := xb.mark 2 _ rfl
    have m_b3 := xb.mark 3 _ rfl
    have m_b4 := xb.mark 4 _ rfl
    have l_b := xb.lt (Nat.succ_pos _)
    refine wp_region_G (.take 0 (.take 1 (.take 2 (.take 3 (.take 4 (.take 6 (.run 5 false (.run 7 false (.take 8 (.run 9 true .nil)))))))))) (by kernel_rfl) (by kernel_rfl) ?_
    simp only [pickOps, nthOp]
    intro wq hG
    repeat (first | (refine wpG_skip_take ?_ ?_; (focus rfl); try simp only [Act.put, List.setIfInBounds_toArray, List.set_cons_zero, List.set_cons_succ]) | (refine wpG_skip_run ?_ ?_; (focus rfl); try simp only [Act.put, List.setIfInBounds_toArray, List.set_cons_zero, List.set_cons_succ]) | (refine wpG_take ?_ ?_; (focus rfl); apply Exists.intro; refine ⟨fun w' hw' => ?_, ?_⟩; (focus (have hc := Gr.cells hw'; go_simp; (try rfl); done)); try simp only [Act.put, List.setIfInBounds_toArray, List.set_cons_zero, List.set_cons_succ]) | (refine wpG_run ?_ (fun K hK => ?_); (focus rfl); go_simp; (first | (fail)); (try dsimp only); replace hG := hG.trans hb; refine hK.out _ _ hG ?_; clear hK K hb; try simp only [Act.put, List.setIfInBounds_toArray, List.set_cons_zero, List.set_cons_succ]))
    refine wpG_last ?_ (fun K hK => ?_); (focus rfl)
    have hc := hG.cells
    have hm := hG.marks
    go_simp
    refine hK.out _ _ ?_
    try simp only [Act.put, List.setIfInBounds_toArray, List.set_cons_zero, List.set_cons_succ]
    clear hK K hc hm
    refine wpG_done ?_
    go_wp2_with fail
    go_ret
    exact ⟨rfl, hg.trans hG⟩
  · have hq0 : (b0 == 0) = false := by simpa using h0
    have hq1 : (b0 != 0) = true := by simpa using h0
    clear HR0
    go_wp2_with fail
    refine name_world (fun W1 hW => ?_)
    have xb : boxAt W1 W.heap.size [.int .i64 b0, .int .i64 b1, .int .i64 b2, .int .i64 b3, .slice none 0 0] := boxAt.new _ _ hW
    have hg := Gr.of_alloc hW
    clear hW
    have c_b0 := xb.cell 0 _ rfl
    have c_b1 := xb.cell 1 _ rfl
    have c_b2 := xb.cell 2 _ rfl
    have c_b3 := xb.cell 3 _ rfl
    have c_b4 := xb.cell 4 _ rfl
    have m_b0 := xb.mark 0 _ rfl
    have m_b1 := xb.mark 1 _ rfl
    have m_b2 := xb.mark 2 _ rfl
    have m_b3 := xb.mark 3 _ rfl
    have m_b4 := xb.mark 4 _ rfl
    have l_b := xb.lt (Nat.succ_pos _)
    refine wp_region_G (.take 0 (.take 1 (.take 2 (.take 3 (.take 4 (.take 6 (.run 5 false (.run 7 false (.take 8 (.run 9 true .nil)))))))))) (by kernel_rfl) (by kernel_rfl) ?_
    simp only [pickOps, nthOp]
    intro wq hG
    repeat (first | (refine wpG_skip_take ?_ ?_; (focus rfl); try simp only [Act.put, List.setIfInBounds_toArray, List.set_cons_zero, List.set_cons_succ]) | (refine wpG_skip_run ?_ ?_; (focus rfl); try simp only [Act.put, List.setIfInBounds_toArray, List.set_cons_zero, List.set_cons_succ]) | (refine wpG_take ?_ ?_; (focus rfl); apply Exists.intro; refine ⟨fun w' hw' => ?_, ?_⟩; (focus (have hc := Gr.cells hw'; go_simp; (try rfl); done)); try simp only [Act.put, List.setIfInBounds_toArray, List.set_cons_zero, List.set_cons_succ]) | (refine wpG_run ?_ (fun K hK => ?_); (focus rfl); go_simp; (first | (go_at_call 27; (with_reducible refine (HT.out _ (hg.trans hG)).mono ?_); rintro e' w' ⟨rfl, hb⟩) | (go_at_call 26; (with_reducible refine (HQ.out _).mono ?_); rintro e' w' ⟨rfl, hb⟩)); (try dsimp only); replace hG := hG.trans hb; refine hK.out _ _ hG ?_; clear hK K hb; try simp only [Act.put, List.setIfInBounds_toArray, List.set_cons_zero, List.set_cons_succ]))
    refine wpG_last ?_ (fun K hK => ?_); (focus rfl)
    have hc := hG.cells
    have hm := hG.marks
    go_simp
    refine hK.out _ _ ?_
    try simp only [Act.put, List.setIfInBounds_toArray, List.set_cons_zero, List.set_cons_succ]
    clear hK K hc hm
    refine wpG_done ?_
    go_wp2_with fail
    go_ret
    exact ⟨rfl, hg.trans hG⟩

end Go.Proofs.YtpcmgkohebihmaaDoor
