/- Check of expand; none, cat, alt of length. No condition but bounds. -/
import Derived.Test.YtpcmgkohebihmaaDoorCoreB
namespace Go.Proofs.YtpcmgkohebihmaaDoor
open Go Go.RowKit

/-- boxes of two, three blocks, the sizes free. -/
theorem bx2 (w : World) (c0 c1 : List Value) (e0 e1 : TypeId) :
    boxAt ((w.alloc (.cells c0.toArray e0)).alloc (.cells c1.toArray e1)) w.heap.size c0 ∧ boxAt ((w.alloc (.cells c0.toArray e0)).alloc (.cells c1.toArray e1)) (w.heap.size + 1) c1 ∧
    Gr w ((w.alloc (.cells c0.toArray e0)).alloc (.cells c1.toArray e1)) ∧ ((w.alloc (.cells c0.toArray e0)).alloc (.cells c1.toArray e1)).heap.size = w.heap.size + 2 := by
  refine ⟨(boxAt.new _ _ rfl).later (Gr.alloc _ _), ?_, (Gr.alloc _ _).trans (Gr.alloc _ _), by simp⟩
  have := boxAt.new (w := w.alloc (.cells c0.toArray e0)) c1 e1 rfl
  simpa using this
theorem bx3 (w : World) (c0 c1 c2 : List Value) (e0 e1 e2 : TypeId) :
    boxAt (((w.alloc (.cells c0.toArray e0)).alloc (.cells c1.toArray e1)).alloc (.cells c2.toArray e2)) w.heap.size c0 ∧ boxAt (((w.alloc (.cells c0.toArray e0)).alloc (.cells c1.toArray e1)).alloc (.cells c2.toArray e2)) (w.heap.size + 1) c1 ∧
    boxAt (((w.alloc (.cells c0.toArray e0)).alloc (.cells c1.toArray e1)).alloc (.cells c2.toArray e2)) (w.heap.size + 2) c2 ∧
    Gr w (((w.alloc (.cells c0.toArray e0)).alloc (.cells c1.toArray e1)).alloc (.cells c2.toArray e2)) ∧ (((w.alloc (.cells c0.toArray e0)).alloc (.cells c1.toArray e1)).alloc (.cells c2.toArray e2)).heap.size = w.heap.size + 3 := by
  obtain ⟨h0, h1, h2, h3⟩ := bx2 w c0 c1 e0 e1
  refine ⟨h0.later (Gr.alloc _ _), h1.later (Gr.alloc _ _), ?_, h2.trans (Gr.alloc _ _), by simp⟩
  have := boxAt.new (w := (w.alloc (.cells c0.toArray e0)).alloc (.cells c1.toArray e1)) c2 e2 rfl
  simpa using this

def isCore (e : Ex) : Bool := (partsE e 1 0).isSome
set_option maxRecDepth 100000 in
set_option maxHeartbeats 2000000 in
theorem check_any (e : Ex) (cs : List Value) (w : World) (he : ExIn w e cs) : Calls Tryd.prog 21 #[.agg cs.toArray] w fun e' w' => e' = .returned (.bool (isCore e)) ∧ Gr w w' := by
  have HE := Lib.hid he
  cases he with
  | mk op pos s text mn mx v l h1 h2 h3 h4 h5 hlen hs hn hb hargs =>
    obtain ⟨pv, cv, rfl⟩ := hs.len
    clear h1 h2 h3 h4 h5 hn hs hargs hlen hb
    have HE2 := HE
    unfold exCells at HE2 ⊢
    go_enter Tryd.func21, Tryd.ntmps21
    go_wp2_with fail
    go_at_call 34
    refine name_calls (fun W hW => ?_)
    obtain ⟨_, xn, xs, hgW, hsz⟩ : _ ∧ _ ∧ _ ∧ Gr w W ∧ W.heap.size = w.heap.size + 3 := by rw [hW]; exact bx3 w [.int .i64 op, .int .i64 pos, .int .u64 (wd s 0), .int .u64 (wd s 1), .int .u64 (wd s 2), .int .u64 (wd s 3), .string text, .int .i64 mn, .int .i64 mx, (.slice pv l.length cv)] [.int .i64 0] [.int .i64 0] 27 3 3
    rw [← hW] at xn xs
    clear hW
    refine (parts_any _ _ (Nat.le_refl _) _ w W 1 0 0 (w.heap.size + 1) (w.heap.size + 2) HE2.out hgW (by omega) (by omega) (by omega) xn xs (by omega) (by omega) (by omega)).mono ?_; rintro e' w2 ⟨rfl, hg, _⟩
    go_wp2_with fail
    go_ret
    exact ⟨rfl, hg⟩

structure Le where
  none : Bool
  least : Int
  most : Int
  deriving DecidableEq
def Le.zero : Le := ⟨false, 0, 0⟩
def Le.no : Le := ⟨true, 0, 0⟩
def catL (a b : Le) : Le := if a.none || b.none then .no else ⟨false, a.least + b.least, if a.most < 0 ∨ b.most < 0 then -1 else a.most + b.most⟩
def altL (a b : Le) : Le := if a.none then b else if b.none then a else ⟨false, min a.least b.least, if a.most < 0 ∨ b.most < 0 then -1 else max a.most b.most⟩
def small (a : Le) : Prop := 0 ≤ a.least ∧ a.least ≤ 1099511627776 ∧ -1 ≤ a.most ∧ a.most ≤ 1099511627776

theorem ret_le {a : Le} {n : Bool} {l m : Int} (h1 : n = a.none) (h2 : l = a.least) (h3 : m = a.most) : Ending.returned (.agg #[.bool n, .int .i64 l, .int .i64 m]) = .returned (.agg #[.bool a.none, .int .i64 a.least, .int .i64 a.most]) := by subst h1 h2 h3; rfl

set_option maxHeartbeats 1000000 in
theorem none_any (w : World) : Calls Tryd.prog 36 #[] w fun e' w' => e' = .returned (.agg #[.bool (Le.no).none, .int .i64 (Le.no).least, .int .i64 (Le.no).most]) ∧ Gr w w' := by
  go_enter Tryd.func36, Tryd.ntmps36
  go_wp2_with fail
  refine bodyPost_ret (v := .agg #[.bool true, .int .i64 0, .int .i64 0]) (by simp [results, Tryd.results36, go_sem]) rfl ⟨rfl, Gr.alloc _ _⟩

set_option maxRecDepth 100000 in
set_option maxHeartbeats 2000000 in
theorem cat_any (a b : Le) (w : World) (ha : small a) (hb : small b) : Calls Tryd.prog 38 #[.agg #[.bool a.none, .int .i64 a.least, .int .i64 a.most], .agg #[.bool b.none, .int .i64 b.least, .int .i64 b.most]] w fun e' w' => e' = .returned (.agg #[.bool (catL a b).none, .int .i64 (catL a b).least, .int .i64 (catL a b).most]) ∧ Gr w w' := by
  obtain ⟨an, al, am⟩ := a
  obtain ⟨bn, bl, bm⟩ := b
  obtain ⟨a1, a2, a3, a4⟩ := ha
  obtain ⟨b1, b2, b3, b4⟩ := hb
  simp only at a1 a2 a3 a4 b1 b2 b3 b4
  dsimp only
  go_enter Tryd.func38, Tryd.ntmps38
  cases an
  · cases bn
    · by_cases h1 : am < 0
      · go_wp2_with fail
        exact bodyPost_ret (v := .agg #[.bool false, .int .i64 (al + bl), .int .i64 (-1)]) (by simp [results, Tryd.results38, go_sem]) rfl ⟨ret_le (by simp only [catL, Bool.or_self, Bool.false_eq_true, if_false]; try (first | rfl | omega | (split <;> omega))) (by simp only [catL, Bool.or_self, Bool.false_eq_true, if_false]; try (first | rfl | omega | (split <;> omega))) (by simp only [catL, Bool.or_self, Bool.false_eq_true, if_false]; try (first | rfl | omega | (split <;> omega))), (((Gr.alloc _ _).trans (Gr.alloc _ _)).trans (Gr.alloc _ _)).trans (Gr.alloc _ _)⟩
      · by_cases h2 : bm < 0
        · go_wp2_with fail
          exact bodyPost_ret (v := .agg #[.bool false, .int .i64 (al + bl), .int .i64 (-1)]) (by simp [results, Tryd.results38, go_sem]) rfl ⟨ret_le (by simp only [catL, Bool.or_self, Bool.false_eq_true, if_false]; try (first | rfl | omega | (split <;> omega))) (by simp only [catL, Bool.or_self, Bool.false_eq_true, if_false]; try (first | rfl | omega | (split <;> omega))) (by simp only [catL, Bool.or_self, Bool.false_eq_true, if_false]; try (first | rfl | omega | (split <;> omega))), (((Gr.alloc _ _).trans (Gr.alloc _ _)).trans (Gr.alloc _ _)).trans (Gr.alloc _ _)⟩
        · go_wp2_with fail
          exact bodyPost_ret (v := .agg #[.bool false, .int .i64 (al + bl), .int .i64 (am + bm)]) (by simp [results, Tryd.results38, go_sem]) rfl ⟨ret_le (by simp only [catL, Bool.or_self, Bool.false_eq_true, if_false]; try (first | rfl | omega | (split <;> omega))) (by simp only [catL, Bool.or_self, Bool.false_eq_true, if_false]; try (first | rfl | omega | (split <;> omega))) (by simp only [catL, Bool.or_self, Bool.false_eq_true, if_false]; try (first | rfl | omega | (split <;> omega))), (((Gr.alloc _ _).trans (Gr.alloc _ _)).trans (Gr.alloc _ _)).trans (Gr.alloc _ _)⟩
    · go_wp2_with fail
      go_at_call 36
      refine name_calls (fun W hW => ?_)
      obtain ⟨_, _, xr, hgW, hsz⟩ : _ ∧ _ ∧ _ ∧ Gr w W ∧ W.heap.size = w.heap.size + 3 := by rw [hW]; exact bx3 w [.bool false, .int .i64 al, .int .i64 am] [.bool true, .int .i64 bl, .int .i64 bm] [.bool false, .int .i64 0, .int .i64 0] 33 33 33
      rw [← hW] at xr
      clear hW
      refine (none_any W).mono ?_; rintro e' w2 ⟨rfl, hg⟩
      replace xr := xr.later hg
      replace hgW := hgW.trans hg
      have hsw := hg.size
      have c_r0 := xr.cell 0 _ rfl
      have c_r1 := xr.cell 1 _ rfl
      have c_r2 := xr.cell 2 _ rfl
      have m_r0 := xr.mark 0 _ rfl
      have m_r1 := xr.mark 1 _ rfl
      have m_r2 := xr.mark 2 _ rfl
      have l_r := xr.lt (Nat.succ_pos _)
      unfold Le.no
      go_wp2_with fail
      exact bodyPost_ret (v := .agg #[.bool true, .int .i64 0, .int .i64 0]) (by simp [results, Tryd.results38, go_sem, c_r0, c_r1, c_r2]) rfl ⟨by simp [catL, Le.no], ((Below.setCell hgW (by show _ ≤ w.heap.size + 2; omega) _).setCell (by show _ ≤ w.heap.size + 2; omega) _).setCell (by show _ ≤ w.heap.size + 2; omega) _⟩
  · go_wp2_with fail
    go_at_call 36
    refine name_calls (fun W hW => ?_)
    obtain ⟨_, _, xr, hgW, hsz⟩ : _ ∧ _ ∧ _ ∧ Gr w W ∧ W.heap.size = w.heap.size + 3 := by rw [hW]; exact bx3 w [.bool true, .int .i64 al, .int .i64 am] [.bool bn, .int .i64 bl, .int .i64 bm] [.bool false, .int .i64 0, .int .i64 0] 33 33 33
    rw [← hW] at xr
    clear hW
    refine (none_any W).mono ?_; rintro e' w2 ⟨rfl, hg⟩
    replace xr := xr.later hg
    replace hgW := hgW.trans hg
    have hsw := hg.size
    have c_r0 := xr.cell 0 _ rfl
    have c_r1 := xr.cell 1 _ rfl
    have c_r2 := xr.cell 2 _ rfl
    have m_r0 := xr.mark 0 _ rfl
    have m_r1 := xr.mark 1 _ rfl
    have m_r2 := xr.mark 2 _ rfl
    have l_r := xr.lt (Nat.succ_pos _)
    unfold Le.no
    go_wp2_with fail
    exact bodyPost_ret (v := .agg #[.bool true, .int .i64 0, .int .i64 0]) (by simp [results, Tryd.results38, go_sem, c_r0, c_r1, c_r2]) rfl ⟨by simp [catL, Le.no], ((Below.setCell hgW (by show _ ≤ w.heap.size + 2; omega) _).setCell (by show _ ≤ w.heap.size + 2; omega) _).setCell (by show _ ≤ w.heap.size + 2; omega) _⟩

set_option maxRecDepth 100000 in
set_option maxHeartbeats 2000000 in
theorem alt_any (a b : Le) (w : World) (ha : small a) (hb : small b) : Calls Tryd.prog 39 #[.agg #[.bool a.none, .int .i64 a.least, .int .i64 a.most], .agg #[.bool b.none, .int .i64 b.least, .int .i64 b.most]] w fun e' w' => e' = .returned (.agg #[.bool (altL a b).none, .int .i64 (altL a b).least, .int .i64 (altL a b).most]) ∧ Gr w w' := by
  obtain ⟨an, al, am⟩ := a
  obtain ⟨bn, bl, bm⟩ := b
  obtain ⟨a1, a2, a3, a4⟩ := ha
  obtain ⟨b1, b2, b3, b4⟩ := hb
  simp only at a1 a2 a3 a4 b1 b2 b3 b4
  dsimp only
  go_enter Tryd.func39, Tryd.ntmps39
  cases an
  · cases bn
    · by_cases h0 : bl < al
      · by_cases h3 : am < bm
        · by_cases h1 : am < 0
          · go_wp2_with fail
            exact bodyPost_ret (v := .agg #[.bool false, .int .i64 bl, .int .i64 (-1)]) (by simp [results, Tryd.results39, go_sem]) rfl ⟨ret_le (by simp only [altL, Bool.false_eq_true, if_false]; try (first | rfl | omega | (split <;> omega))) (by simp only [altL, Bool.false_eq_true, if_false]; try (first | rfl | omega | (split <;> omega))) (by simp only [altL, Bool.false_eq_true, if_false]; try (first | rfl | omega | (split <;> omega))), (((Gr.alloc _ _).trans (Gr.alloc _ _)).trans (Gr.alloc _ _)).trans (Gr.alloc _ _)⟩
          · go_wp2_with fail
            exact bodyPost_ret (v := .agg #[.bool false, .int .i64 bl, .int .i64 bm]) (by simp [results, Tryd.results39, go_sem]) rfl ⟨ret_le (by simp only [altL, Bool.false_eq_true, if_false]; try (first | rfl | omega | (split <;> omega))) (by simp only [altL, Bool.false_eq_true, if_false]; try (first | rfl | omega | (split <;> omega))) (by simp only [altL, Bool.false_eq_true, if_false]; try (first | rfl | omega | (split <;> omega))), (((Gr.alloc _ _).trans (Gr.alloc _ _)).trans (Gr.alloc _ _)).trans (Gr.alloc _ _)⟩
        · by_cases h1 : am < 0
          · go_wp2_with fail
            exact bodyPost_ret (v := .agg #[.bool false, .int .i64 bl, .int .i64 (-1)]) (by simp [results, Tryd.results39, go_sem]) rfl ⟨ret_le (by simp only [altL, Bool.false_eq_true, if_false]; try (first | rfl | omega | (split <;> omega))) (by simp only [altL, Bool.false_eq_true, if_false]; try (first | rfl | omega | (split <;> omega))) (by simp only [altL, Bool.false_eq_true, if_false]; try (first | rfl | omega | (split <;> omega))), (((Gr.alloc _ _).trans (Gr.alloc _ _)).trans (Gr.alloc _ _)).trans (Gr.alloc _ _)⟩
          · by_cases h2 : bm < 0
            · go_wp2_with fail
              exact bodyPost_ret (v := .agg #[.bool false, .int .i64 bl, .int .i64 (-1)]) (by simp [results, Tryd.results39, go_sem]) rfl ⟨ret_le (by simp only [altL, Bool.false_eq_true, if_false]; try (first | rfl | omega | (split <;> omega))) (by simp only [altL, Bool.false_eq_true, if_false]; try (first | rfl | omega | (split <;> omega))) (by simp only [altL, Bool.false_eq_true, if_false]; try (first | rfl | omega | (split <;> omega))), (((Gr.alloc _ _).trans (Gr.alloc _ _)).trans (Gr.alloc _ _)).trans (Gr.alloc _ _)⟩
            · go_wp2_with fail
              exact bodyPost_ret (v := .agg #[.bool false, .int .i64 bl, .int .i64 am]) (by simp [results, Tryd.results39, go_sem]) rfl ⟨ret_le (by simp only [altL, Bool.false_eq_true, if_false]; try (first | rfl | omega | (split <;> omega))) (by simp only [altL, Bool.false_eq_true, if_false]; try (first | rfl | omega | (split <;> omega))) (by simp only [altL, Bool.false_eq_true, if_false]; try (first | rfl | omega | (split <;> omega))), (((Gr.alloc _ _).trans (Gr.alloc _ _)).trans (Gr.alloc _ _)).trans (Gr.alloc _ _)⟩
      · by_cases h3 : am < bm
        · by_cases h1 : am < 0
          · go_wp2_with fail
            exact bodyPost_ret (v := .agg #[.bool false, .int .i64 al, .int .i64 (-1)]) (by simp [results, Tryd.results39, go_sem]) rfl ⟨ret_le (by simp only [altL, Bool.false_eq_true, if_false]; try (first | rfl | omega | (split <;> omega))) (by simp only [altL, Bool.false_eq_true, if_false]; try (first | rfl | omega | (split <;> omega))) (by simp only [altL, Bool.false_eq_true, if_false]; try (first | rfl | omega | (split <;> omega))), (((Gr.alloc _ _).trans (Gr.alloc _ _)).trans (Gr.alloc _ _)).trans (Gr.alloc _ _)⟩
          · go_wp2_with fail
            exact bodyPost_ret (v := .agg #[.bool false, .int .i64 al, .int .i64 bm]) (by simp [results, Tryd.results39, go_sem]) rfl ⟨ret_le (by simp only [altL, Bool.false_eq_true, if_false]; try (first | rfl | omega | (split <;> omega))) (by simp only [altL, Bool.false_eq_true, if_false]; try (first | rfl | omega | (split <;> omega))) (by simp only [altL, Bool.false_eq_true, if_false]; try (first | rfl | omega | (split <;> omega))), (((Gr.alloc _ _).trans (Gr.alloc _ _)).trans (Gr.alloc _ _)).trans (Gr.alloc _ _)⟩
        · by_cases h1 : am < 0
          · go_wp2_with fail
            exact bodyPost_ret (v := .agg #[.bool false, .int .i64 al, .int .i64 (-1)]) (by simp [results, Tryd.results39, go_sem]) rfl ⟨ret_le (by simp only [altL, Bool.false_eq_true, if_false]; try (first | rfl | omega | (split <;> omega))) (by simp only [altL, Bool.false_eq_true, if_false]; try (first | rfl | omega | (split <;> omega))) (by simp only [altL, Bool.false_eq_true, if_false]; try (first | rfl | omega | (split <;> omega))), (((Gr.alloc _ _).trans (Gr.alloc _ _)).trans (Gr.alloc _ _)).trans (Gr.alloc _ _)⟩
          · by_cases h2 : bm < 0
            · go_wp2_with fail
              exact bodyPost_ret (v := .agg #[.bool false, .int .i64 al, .int .i64 (-1)]) (by simp [results, Tryd.results39, go_sem]) rfl ⟨ret_le (by simp only [altL, Bool.false_eq_true, if_false]; try (first | rfl | omega | (split <;> omega))) (by simp only [altL, Bool.false_eq_true, if_false]; try (first | rfl | omega | (split <;> omega))) (by simp only [altL, Bool.false_eq_true, if_false]; try (first | rfl | omega | (split <;> omega))), (((Gr.alloc _ _).trans (Gr.alloc _ _)).trans (Gr.alloc _ _)).trans (Gr.alloc _ _)⟩
            · go_wp2_with fail
              exact bodyPost_ret (v := .agg #[.bool false, .int .i64 al, .int .i64 am]) (by simp [results, Tryd.results39, go_sem]) rfl ⟨ret_le (by simp only [altL, Bool.false_eq_true, if_false]; try (first | rfl | omega | (split <;> omega))) (by simp only [altL, Bool.false_eq_true, if_false]; try (first | rfl | omega | (split <;> omega))) (by simp only [altL, Bool.false_eq_true, if_false]; try (first | rfl | omega | (split <;> omega))), (((Gr.alloc _ _).trans (Gr.alloc _ _)).trans (Gr.alloc _ _)).trans (Gr.alloc _ _)⟩
    · go_wp2_with fail
      exact bodyPost_ret (v := .agg #[.bool false, .int .i64 al, .int .i64 am]) (by simp [results, Tryd.results39, go_sem]) rfl ⟨ret_le (by simp [altL]) (by simp [altL]) (by simp [altL]), ((Gr.alloc _ _).trans (Gr.alloc _ _)).trans (Gr.alloc _ _)⟩
  · go_wp2_with fail
    exact bodyPost_ret (v := .agg #[.bool bn, .int .i64 bl, .int .i64 bm]) (by simp [results, Tryd.results39, go_sem]) rfl ⟨ret_le (by simp [altL]) (by simp [altL]) (by simp [altL]), ((Gr.alloc _ _).trans (Gr.alloc _ _)).trans (Gr.alloc _ _)⟩

end Go.Proofs.YtpcmgkohebihmaaDoor
