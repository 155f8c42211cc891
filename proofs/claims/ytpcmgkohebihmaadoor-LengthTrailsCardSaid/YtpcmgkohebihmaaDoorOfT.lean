/- Check of bolterref7, Is of bolterref0, Of of bolterref8. No condition. -/
import Derived.Test.YtpcmgkohebihmaaDoorOf8
import Derived.Test.YtpcmgkohebihmaaDoorLenOf
namespace Go.Proofs.YtpcmgkohebihmaaDoor
open Go Go.RowKit

theorem count_iff : ∀ e, ∀ left, (countE e left ≤ 65536 ↔ (allE e = true ∧ nodesE e ≤ 65536 ∧ depthE e ≤ left)) ∧ (countE e left ≤ 65536 → countE e left = nodesE e) := by
  refine Ex.all fun op pos s text mn mx args ih left => ?_
  have key : ∀ (r : List Ex), (∀ a ∈ r, a ∈ args) → ∀ n, n ≤ 65536 → (countL r left n ≤ 65536 ↔ (allL r = true ∧ n + nodesL r ≤ 65536 ∧ depthL r ≤ left - 1)) ∧ (countL r left n ≤ 65536 → countL r left n = n + nodesL r) := by
    intro r
    induction r with
    | nil =>
      intro _ n hn
      rw [countL, allL, nodesL, depthL]
      exact ⟨⟨fun _ => ⟨rfl, by omega, by omega⟩, fun _ => hn⟩, fun _ => by omega⟩
    | cons a r ihr =>
      intro hr n hn
      obtain ⟨iha, ihb⟩ := ih a (hr a (by simp)) (left - 1)
      rw [countL, allL, nodesL, depthL, if_pos hn, Bool.and_eq_true]
      by_cases hc : n + countE a (left - 1) ≤ 65536
      · have hq := ihb (by omega)
        have hA := iha.1 (by omega)
        obtain ⟨g1, g2⟩ := ihr (fun b hb => hr b (by simp [hb])) _ hc
        rw [hq] at g1 g2 ⊢
        refine ⟨⟨fun h => ?_, fun h => ?_⟩, fun h => ?_⟩
        · obtain ⟨k1, k2, k3⟩ := g1.1 h
          exact ⟨⟨hA.1, k1⟩, by omega, by omega⟩
        · exact g1.2 ⟨h.1.2, by omega, by omega⟩
        · have := g2 h; omega
      · rw [countL_stop _ _ _ (by omega)]
        refine ⟨⟨fun h => by omega, fun h => ?_⟩, fun h => by omega⟩
        have := ihb (iha.2 ⟨h.1.1, by omega, by omega⟩)
        omega
  rw [countE, allE, nodesE, depthE, Bool.and_eq_true, Bool.and_eq_true]
  split
  · rename_i h
    refine ⟨⟨fun h => by omega, fun g => ?_⟩, fun h => by omega⟩
    rcases h with h | h | h
    · omega
    · rw [h] at g; cases g.1.1
    · rw [h] at g; cases g.1.2.1
  · rename_i h
    have h1 : 1 ≤ left := by
      rcases Nat.lt_or_ge left 1 with g | g
      · exact absurd (.inl g) h
      · exact g
    have h2 : leanB op pos s text mn mx = true := by
      cases g : leanB op pos s text mn mx
      · exact absurd (.inr (.inl g)) h
      · rfl
    have h3 : kindB op args.length mn mx = true := by
      cases g : kindB op args.length mn mx
      · exact absurd (.inr (.inr g)) h
      · rfl
    obtain ⟨g1, g2⟩ := key args (fun a h => h) 1 (by omega)
    rw [g1, h2, h3]
    exact ⟨⟨fun ⟨a, b, c⟩ => ⟨⟨rfl, rfl, a⟩, b, by omega⟩, fun ⟨⟨_, _, a⟩, b, c⟩ => ⟨a, b, by omega⟩⟩, fun h => g2 (g1.2 h)⟩
theorem count_core (e : Ex) : decide ((countE e 4096 : Int) ≤ 65536) = isCore e := by
  rw [Bool.eq_iff_iff, decide_eq_true_iff, core_iff, ← (count_iff e 4096).1]
  omega

set_option maxHeartbeats 2000000 in
theorem check7_any (e : Ex) (cs : List Value) (w : World) (he : ExIn w e cs) : Calls Tryd.prog 23 #[.agg cs.toArray] w fun e' w' => e' = .returned (.bool (isCore e)) ∧ Gr w w' := by
  have HB := Lib.hid (count_bound _ e (Nat.le_refl _) 4096)
  have HC := Lib.hid (count_core e)
  obtain ⟨op, pos, s, text, mn, mx, p, n, c, rfl⟩ := he.form
  have HE := Lib.hid he
  clear he
  unfold exCells at HE ⊢
  go_enter Tryd.func23, Tryd.ntmps23
  go_wp2_with fail
  go_at_call 41
  refine name_calls (fun W hW => ?_)
  have hgW : Gr w W := by rw [hW]; exact Gr.alloc _ _
  clear hW
  refine (counted_any _ e (Nat.le_refl _) _ W 4096 (HE.out.later hgW) (by omega)).mono ?_; rintro e' w2 ⟨rfl, hb⟩
  obtain ⟨q, hq⟩ : ∃ q, countE e 4096 = q := ⟨_, rfl⟩
  rw [hq] at HB HC ⊢
  have hql : q ≤ 268505089 := HB.out
  clear hq
  go_wp2_with fail
  go_ret
  exact ⟨ret_bool (by rw [← HC.out]), hgW.trans hb⟩

theorem is_fault (k : Int) (w : World) : Calls Tryd.prog 24 #[.int .i64 k] w fun e' w' => e' = .returned (.agg #[.int .i64 k, .int .i64 0, .int .i64 0, .int .i64 0, .slice none 0 0]) ∧ Gr w w' := by
  go_enter Tryd.func24, Tryd.ntmps24
  go_wp2_with fail
  exact bodyPost_ret (v := .agg #[.int .i64 k, .int .i64 0, .int .i64 0, .int .i64 0, .slice none 0 0]) (by simp [results, Tryd.results24, go_sem]) rfl ⟨rfl, by first | exact Gr.refl _ | exact Gr.alloc _ _⟩

theorem put5 {B : Nat} {w w' : World} (h : Below B w' w) {b : Nat} (hb : B ≤ b) (v0 v1 v2 v3 v4 : Value) : Below B w' (((((w.setCell ⟨b, 0, none⟩ v0).setCell ⟨b, 1, none⟩ v1).setCell ⟨b, 2, none⟩ v2).setCell ⟨b, 3, none⟩ v3).setCell ⟨b, 4, none⟩ v4) :=
  Below.setCell (p := ⟨b, 4, none⟩) (Below.setCell (p := ⟨b, 3, none⟩) (Below.setCell (p := ⟨b, 2, none⟩) (Below.setCell (p := ⟨b, 1, none⟩) (Below.setCell (p := ⟨b, 0, none⟩) (h) hb v0) hb v1) hb v2) hb v3) hb v4

/-- What Of tells. -/
def of8Res (b : Bool) (z : Le) : Value := if b then .tuple #[.agg #[.bool z.none, .int .i64 z.least, .int .i64 z.most], .agg #[.int .i64 0, .int .i64 0, .int .i64 0, .int .i64 0, .slice none 0 0]] else .tuple #[.agg #[.bool false, .int .i64 0, .int .i64 0], .agg #[.int .i64 15, .int .i64 0, .int .i64 0, .int .i64 0, .slice none 0 0]]

set_option maxRecDepth 100000 in
set_option maxHeartbeats 4000000 in
theorem ofT_any (e : Ex) (cs : List Value) (w : World) (he : ExIn w e cs) :
    Calls Tryd.prog 12 #[.agg cs.toArray] w fun e' w' => e' = .returned (of8Res (isCore e) (ofE e)) ∧ Gr w w' := by
  have HE := Lib.hid he
  obtain ⟨op, pos, s, text, mn, mx, p, n, c, rfl⟩ := he.form
  clear he
  have HE2 := HE
  unfold exCells at HE2 ⊢
  obtain ⟨b, hb⟩ : ∃ b, isCore e = b := ⟨_, rfl⟩
  have HB := Lib.hid hb
  clear hb
  go_enter Tryd.func12, Tryd.ntmps12
  go_wp2_with fail
  go_at_call 23
  refine name_calls (fun W hW => ?_)
  obtain ⟨xe, xr, xf, hgW, hsz⟩ : _ ∧ _ ∧ _ ∧ Gr w W ∧ W.heap.size = w.heap.size + 3 := by rw [hW]; exact bx3 w [.int .i64 op, .int .i64 pos, .int .u64 (wd s 0), .int .u64 (wd s 1), .int .u64 (wd s 2), .int .u64 (wd s 3), .string text, .int .i64 mn, .int .i64 mx, (.slice p n c)] [.bool false, .int .i64 0, .int .i64 0] [.int .i64 0, .int .i64 0, .int .i64 0, .int .i64 0, .slice none 0 0] 27 33 43
  rw [← hW] at xe xr xf
  clear hW
  refine (check7_any e _ W (HE2.out.later hgW)).mono ?_; rintro e' w1 ⟨rfl, hg⟩
  rw [HB.out]
  replace xe := xe.later hg
  replace xr := xr.later hg
  replace xf := xf.later hg
  replace hgW := hgW.trans hg
  have hsz1 : w.heap.size + 3 ≤ w1.heap.size := by have := hg.size; omega
  clear hg hsz
  have c_e0 := xe.cell 0 _ rfl
  have c_e1 := xe.cell 1 _ rfl
  have c_e2 := xe.cell 2 _ rfl
  have c_e3 := xe.cell 3 _ rfl
  have c_e4 := xe.cell 4 _ rfl
  have c_e5 := xe.cell 5 _ rfl
  have c_e6 := xe.cell 6 _ rfl
  have c_e7 := xe.cell 7 _ rfl
  have c_e8 := xe.cell 8 _ rfl
  have c_e9 := xe.cell 9 _ rfl
  have m_e0 := xe.mark 0 _ rfl
  have m_e1 := xe.mark 1 _ rfl
  have m_e2 := xe.mark 2 _ rfl
  have m_e3 := xe.mark 3 _ rfl
  have m_e4 := xe.mark 4 _ rfl
  have m_e5 := xe.mark 5 _ rfl
  have m_e6 := xe.mark 6 _ rfl
  have m_e7 := xe.mark 7 _ rfl
  have m_e8 := xe.mark 8 _ rfl
  have m_e9 := xe.mark 9 _ rfl
  have l_e := xe.lt (Nat.succ_pos _)
  cases b
  · go_wp2_with fail
    clear c_e0 c_e1 c_e2 c_e3 c_e4 c_e5 c_e6 c_e7 c_e8 c_e9 m_e0 m_e1 m_e2 m_e3 m_e4 m_e5 m_e6 m_e7 m_e8 m_e9 l_e
    go_at_call 24
    refine (is_fault 15 _).mono ?_; rintro e' w2 ⟨rfl, hg⟩
    replace xr := xr.later hg
    replace xf := xf.later hg
    replace hgW := hgW.trans hg
    have c_r0 := xr.cell 0 _ rfl
    have c_r1 := xr.cell 1 _ rfl
    have c_r2 := xr.cell 2 _ rfl
    have m_r0 := xr.mark 0 _ rfl
    have m_r1 := xr.mark 1 _ rfl
    have m_r2 := xr.mark 2 _ rfl
    have l_r := xr.lt (Nat.succ_pos _)
    have c_f0 := xf.cell 0 _ rfl
    have c_f1 := xf.cell 1 _ rfl
    have c_f2 := xf.cell 2 _ rfl
    have c_f3 := xf.cell 3 _ rfl
    have c_f4 := xf.cell 4 _ rfl
    have m_f0 := xf.mark 0 _ rfl
    have m_f1 := xf.mark 1 _ rfl
    have m_f2 := xf.mark 2 _ rfl
    have m_f3 := xf.mark 3 _ rfl
    have m_f4 := xf.mark 4 _ rfl
    have l_f := xf.lt (Nat.succ_pos _)
    go_wp2_with fail
    exact bodyPost_ret (v := .tuple #[.agg #[.bool false, .int .i64 0, .int .i64 0], .agg #[.int .i64 15, .int .i64 0, .int .i64 0, .int .i64 0, .slice none 0 0]]) (by simp [results, Tryd.results12, go_sem, c_r0, c_r1, c_r2, c_f0, c_f1, c_f2, c_f3, c_f4]) rfl ⟨by rw [HB.out]; rfl, put5 (put3 hgW (b := w.heap.size + 1) (by omega) _ _ _) (b := w.heap.size + 1 + 1) (by omega) _ _ _ _ _⟩
  · go_wp2_with fail
    clear c_e0 c_e1 c_e2 c_e3 c_e4 c_e5 c_e6 c_e7 c_e8 c_e9 m_e0 m_e1 m_e2 m_e3 m_e4 m_e5 m_e6 m_e7 m_e8 m_e9 l_e
    go_at_call 25
    have hgood := core_good HB.out
    refine (of8_any _ e (Nat.le_refl _) _ w1 (HE2.out.later hgW) hgood.1 (by omega)).mono ?_; rintro e' w2 ⟨rfl, hg⟩
    replace xr := xr.later hg
    replace xf := xf.later hg
    replace hgW := hgW.trans hg
    have hsz2 := hg.size
    obtain ⟨z, hz⟩ : ∃ z, ofE e = z := ⟨_, rfl⟩
    have HZ := Lib.hid hz
    simp only [hz]
    clear hz hgood hg
    have c_r0 := xr.cell 0 _ rfl
    have c_r1 := xr.cell 1 _ rfl
    have c_r2 := xr.cell 2 _ rfl
    have m_r0 := xr.mark 0 _ rfl
    have m_r1 := xr.mark 1 _ rfl
    have m_r2 := xr.mark 2 _ rfl
    have l_r := xr.lt (Nat.succ_pos _)
    have c_f0 := xf.cell 0 _ rfl
    have c_f1 := xf.cell 1 _ rfl
    have c_f2 := xf.cell 2 _ rfl
    have c_f3 := xf.cell 3 _ rfl
    have c_f4 := xf.cell 4 _ rfl
    have m_f0 := xf.mark 0 _ rfl
    have m_f1 := xf.mark 1 _ rfl
    have m_f2 := xf.mark 2 _ rfl
    have m_f3 := xf.mark 3 _ rfl
    have m_f4 := xf.mark 4 _ rfl
    have l_f := xf.lt (Nat.succ_pos _)
    go_wp2_with fail
    exact bodyPost_ret (v := .tuple #[.agg #[.bool z.none, .int .i64 z.least, .int .i64 z.most], .agg #[.int .i64 0, .int .i64 0, .int .i64 0, .int .i64 0, .slice none 0 0]]) (by simp [results, Tryd.results12, go_sem, c_r0, c_r1, c_r2, c_f0, c_f1, c_f2, c_f3, c_f4]) rfl ⟨by rw [HB.out, HZ.out]; rfl, put5 (put3 hgW (b := w.heap.size + 1) (by omega) _ _ _) (b := w.heap.size + 1 + 1) (by omega) _ _ _ _ _⟩

end Go.Proofs.YtpcmgkohebihmaaDoor
