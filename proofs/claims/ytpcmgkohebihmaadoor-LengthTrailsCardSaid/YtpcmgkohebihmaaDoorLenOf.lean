/- Of of length. No condition but that the error's variable holds one. -/
import Derived.Test.YtpcmgkohebihmaaDoorOfQ
namespace Go.Proofs.YtpcmgkohebihmaaDoor
open Go Go.RowKit

/-- A variable that holds an error. -/
def Errs (w : World) (g : Nat) (v : Value) : Prop := w.cell? ⟨g, 0, none⟩ = some v ∧ ∃ t x, v = .iface t x
theorem Errs.later {w w' : World} {g : Nat} {v : Value} (h : Errs w g v) (hG : Gr w w') : Errs w' g v := ⟨hG.cell h.1, h.2⟩
theorem core_good {e : Ex} (h : isCore e = true) : goodE e = true ∧ nodesE e ≤ 65536 := by
  unfold isCore at h
  cases hp : partsE e 1 0 with
  | none => rw [hp] at h; cases h
  | some m =>
    have h1 := parts_good _ e (Nat.le_refl _) _ _ _ hp
    have h2 := parts_bound _ e (Nat.le_refl _) _ _ _ hp
    exact ⟨h1.1, by omega⟩
theorem ExIn.form {w : World} {e : Ex} {cs : List Value} (h : ExIn w e cs) : ∃ op pos s text mn mx p n c, cs = exCells op pos s text mn mx (.slice p n c) := by
  cases h with
  | mk op pos s text mn mx v l _ _ _ _ _ _ hs =>
    obtain ⟨p, c, rfl⟩ := hs.len
    exact ⟨op, pos, s, text, mn, mx, p, _, c, rfl⟩

/-- What Of tells. -/
def lenRes (b : Bool) (z : Le) (v : Value) : Value := if b then .tuple #[.agg #[.bool z.none, .int .i64 z.least, .int .i64 z.most], .nilIface] else .tuple #[.agg #[.bool false, .int .i64 0, .int .i64 0], v]

set_option maxRecDepth 100000 in
set_option maxHeartbeats 4000000 in
theorem lenOf_any (e : Ex) (cs : List Value) (w : World) (he : ExIn w e cs) (v : Value) (hE : Errs w 0 v) :
    Calls Tryd.prog 9 #[.agg cs.toArray] w fun e' w' => e' = .returned (lenRes (isCore e) (ofE e) v) ∧ Gr w w' := by
  have HE := Lib.hid he
  obtain ⟨op, pos, s, text, mn, mx, p, n, c, rfl⟩ := he.form
  obtain ⟨hcell, t, x, rfl⟩ := hE
  clear he
  have HE2 := HE
  unfold exCells at HE2 ⊢
  obtain ⟨b, hb⟩ : ∃ b, isCore e = b := ⟨_, rfl⟩
  have HB := Lib.hid hb
  clear hb
  have hgl : 0 < w.heap.size := World.block_lt_of_cell? w _ hcell
  go_enter Tryd.func9, Tryd.ntmps9
  go_wp2_with fail
  go_at_call 21
  refine name_calls (fun W hW => ?_)
  obtain ⟨xe, xr, hgW, hsz⟩ : _ ∧ _ ∧ Gr w W ∧ W.heap.size = w.heap.size + 2 := by rw [hW]; exact bx2 w [.int .i64 op, .int .i64 pos, .int .u64 (wd s 0), .int .u64 (wd s 1), .int .u64 (wd s 2), .int .u64 (wd s 3), .string text, .int .i64 mn, .int .i64 mx, (.slice p n c)] [.bool false, .int .i64 0, .int .i64 0] 27 33
  rw [← hW] at xe xr
  clear hW
  refine (check_any e _ W (HE2.out.later hgW)).mono ?_; rintro e' w1 ⟨rfl, hg⟩
  rw [HB.out]
  replace xe := xe.later hg
  replace xr := xr.later hg
  replace hgW := hgW.trans hg
  have hsz1 : w.heap.size + 2 ≤ w1.heap.size := by have := hg.size; omega
  clear hg hsz
  have c_e0 := xe.cell 0 _ rfl
  have c_e1 := xe.cell 1 _ rfl
  have c_e2 := xe.cell 2 _ rfl
  have c_e3 := xe.cell 3 _ rfl
  have c_e4 := xe.cell 4 _ rfl
  have c_e5 := xe.cell 5 _ rfl
  have c_e6 := xe.cell 6 _ rfl
  have c_e7 := xe.cell 7 _ rfl
  have c_e8 := xe.cell 8 _ rfl
  have c_e9 := xe.cell 9 _ rfl
  have m_e0 := xe.mark 0 _ rfl
  have m_e1 := xe.mark 1 _ rfl
  have m_e2 := xe.mark 2 _ rfl
  have m_e3 := xe.mark 3 _ rfl
  have m_e4 := xe.mark 4 _ rfl
  have m_e5 := xe.mark 5 _ rfl
  have m_e6 := xe.mark 6 _ rfl
  have m_e7 := xe.mark 7 _ rfl
  have m_e8 := xe.mark 8 _ rfl
  have m_e9 := xe.mark 9 _ rfl
  have l_e := xe.lt (Nat.succ_pos _)
  cases b
  · go_wp2_with fail
    clear c_e0 c_e1 c_e2 c_e3 c_e4 c_e5 c_e6 c_e7 c_e8 c_e9 m_e0 m_e1 m_e2 m_e3 m_e4 m_e5 m_e6 m_e7 m_e8 m_e9 l_e
    refine wp_region_S (Gr w) (.take 0 (.take 1 (.run 2 false (.run 3 true .nil)))) (hgW.trans (Gr.drew _)) (by kernel_rfl) (by kernel_rfl) ?_
    simp only [pickOps, nthOp]
    intro wr7 hN hG
    replace xr := xr.later hN
    have c_r0 := xr.cell 0 _ rfl
    have c_r1 := xr.cell 1 _ rfl
    have c_r2 := xr.cell 2 _ rfl
    have m_r0 := xr.mark 0 _ rfl
    have m_r1 := xr.mark 1 _ rfl
    have m_r2 := xr.mark 2 _ rfl
    have l_r := xr.lt (Nat.succ_pos _)
    repeat (first | (refine wpG_skip_take ?_ ?_; (focus rfl); try simp only [Act.put, List.setIfInBounds_toArray, List.set_cons_zero, List.set_cons_succ]) | (refine wpG_skip_run ?_ ?_; (focus rfl); try simp only [Act.put, List.setIfInBounds_toArray, List.set_cons_zero, List.set_cons_succ]) | (refine wpG_take ?_ ?_; (focus rfl); apply Exists.intro; refine ⟨fun w' hw' => ?_, ?_⟩; (focus (have hc := Gr.cells hw'; go_simp; (try rfl); done)); try simp only [Act.put, List.setIfInBounds_toArray, List.set_cons_zero, List.set_cons_succ]))
    refine wpG_run rfl (fun K hK => ?_)
    go_simp
    refine hK.out _ _ (put3 hG (by omega) _ _ _) ?_
    clear hK K
    have yr := ((xr.put 0 (.bool false) (by simp)).put 1 (.int .i64 0) (by simp)).put 2 (.int .i64 0) (by simp)
    try simp only [Act.put, List.setIfInBounds_toArray, List.set_cons_zero, List.set_cons_succ]
    replace hG : Gr w _ := put3 hG (b := w.heap.size + 1) (by omega) (.bool false) (.int .i64 0) (.int .i64 0)
    refine wpG_last ?_ (fun K hK => ?_); (focus rfl)
    have hc := hG.cells
    have hm := hG.marks
    go_simp
    refine hK.out _ _ ?_
    try simp only [Act.put, List.setIfInBounds_toArray, List.set_cons_zero, List.set_cons_succ]
    clear hK K hc hm
    refine wpG_done ?_
    go_wp2_with fail
    exact bodyPost_ret (v := .tuple #[.agg #[.bool false, .int .i64 0, .int .i64 0], .iface t x]) (by simp [results, Tryd.results9, go_sem, yr.cell 0 _ rfl, yr.cell 1 _ rfl, yr.cell 2 _ rfl]) rfl ⟨by rw [HB.out]; rfl, hG⟩
  · go_wp2_with fail
    clear c_e0 c_e1 c_e2 c_e3 c_e4 c_e5 c_e6 c_e7 c_e8 c_e9 m_e0 m_e1 m_e2 m_e3 m_e4 m_e5 m_e6 m_e7 m_e8 m_e9 l_e
    go_at_call 22
    have hgood := core_good HB.out
    refine (of_any _ e (Nat.le_refl _) _ w1 (HE2.out.later hgW) hgood.1 (by omega)).mono ?_; rintro e' w2 ⟨rfl, hg⟩
    replace xr := xr.later hg
    replace hgW := hgW.trans hg
    have hsz2 := hg.size
    obtain ⟨z, hz⟩ : ∃ z, ofE e = z := ⟨_, rfl⟩
    have HZ := Lib.hid hz
    simp only [hz]
    clear hz hgood hg
    have c_r0 := xr.cell 0 _ rfl
    have c_r1 := xr.cell 1 _ rfl
    have c_r2 := xr.cell 2 _ rfl
    have m_r0 := xr.mark 0 _ rfl
    have m_r1 := xr.mark 1 _ rfl
    have m_r2 := xr.mark 2 _ rfl
    have l_r := xr.lt (Nat.succ_pos _)
    go_wp2_with fail
    exact bodyPost_ret (v := .tuple #[.agg #[.bool z.none, .int .i64 z.least, .int .i64 z.most], .nilIface]) (by simp [results, Tryd.results9, go_sem, c_r0, c_r1, c_r2]) rfl ⟨by rw [HB.out, HZ.out]; rfl, put3 hgW (by omega) _ _ _⟩

end Go.Proofs.YtpcmgkohebihmaaDoor
