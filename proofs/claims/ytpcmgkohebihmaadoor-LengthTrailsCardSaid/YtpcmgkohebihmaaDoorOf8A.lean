/- either, times of bolterref8: what length's own alt and many are. No condition. -/
import Derived.Test.YtpcmgkohebihmaaDoorForm
namespace Go.Proofs.YtpcmgkohebihmaaDoor
open Go Go.RowKit

set_option maxRecDepth 100000 in
set_option maxHeartbeats 2000000 in
theorem either_any (a b : Le) (w : World) (ha : small a) (hb : small b) : Calls Tryd.prog 42 #[.agg #[.bool a.none, .int .i64 a.least, .int .i64 a.most], .agg #[.bool b.none, .int .i64 b.least, .int .i64 b.most]] w fun e' w' => e' = .returned (.agg #[.bool (altL a b).none, .int .i64 (altL a b).least, .int .i64 (altL a b).most]) ∧ Gr w w' := by
  obtain ⟨an, al, am⟩ := a
  obtain ⟨bn, bl, bm⟩ := b
  obtain ⟨a1, a2, a3, a4⟩ := ha
  obtain ⟨b1, b2, b3, b4⟩ := hb
  simp only at a1 a2 a3 a4 b1 b2 b3 b4
  dsimp only
  go_enter Tryd.func42, Tryd.ntmps42
  cases an
  · cases bn
    · by_cases h0 : bl < al
      · by_cases h1 : am < 0
        · have h1b : decide (am < 0) = true := by simp [h1]
          go_wp2_with fail
          exact bodyPost_ret (v := .agg #[.bool false, .int .i64 bl, .int .i64 (-1)]) (by simp [results, Tryd.results42, go_sem]) rfl ⟨ret_le (by simp only [altL, Bool.false_eq_true, if_false]; try (first | rfl | omega | (split <;> omega))) (by simp only [altL, Bool.false_eq_true, if_false]; try (first | rfl | omega | (split <;> omega))) (by simp only [altL, Bool.false_eq_true, if_false]; try (first | rfl | omega | (split <;> omega))), ((Gr.alloc _ _).trans (Gr.alloc _ _)).trans (Gr.alloc _ _)⟩
        · by_cases h2 : bm < 0
          · skip
            go_wp2_with fail
            exact bodyPost_ret (v := .agg #[.bool false, .int .i64 bl, .int .i64 (-1)]) (by simp [results, Tryd.results42, go_sem]) rfl ⟨ret_le (by simp only [altL, Bool.false_eq_true, if_false]; try (first | rfl | omega | (split <;> omega))) (by simp only [altL, Bool.false_eq_true, if_false]; try (first | rfl | omega | (split <;> omega))) (by simp only [altL, Bool.false_eq_true, if_false]; try (first | rfl | omega | (split <;> omega))), ((Gr.alloc _ _).trans (Gr.alloc _ _)).trans (Gr.alloc _ _)⟩
          by_cases h3 : am < bm
          · skip
            go_wp2_with fail
            exact bodyPost_ret (v := .agg #[.bool false, .int .i64 bl, .int .i64 bm]) (by simp [results, Tryd.results42, go_sem]) rfl ⟨ret_le (by simp only [altL, Bool.false_eq_true, if_false]; try (first | rfl | omega | (split <;> omega))) (by simp only [altL, Bool.false_eq_true, if_false]; try (first | rfl | omega | (split <;> omega))) (by simp only [altL, Bool.false_eq_true, if_false]; try (first | rfl | omega | (split <;> omega))), ((Gr.alloc _ _).trans (Gr.alloc _ _)).trans (Gr.alloc _ _)⟩
          · skip
            go_wp2_with fail
            exact bodyPost_ret (v := .agg #[.bool false, .int .i64 bl, .int .i64 am]) (by simp [results, Tryd.results42, go_sem]) rfl ⟨ret_le (by simp only [altL, Bool.false_eq_true, if_false]; try (first | rfl | omega | (split <;> omega))) (by simp only [altL, Bool.false_eq_true, if_false]; try (first | rfl | omega | (split <;> omega))) (by simp only [altL, Bool.false_eq_true, if_false]; try (first | rfl | omega | (split <;> omega))), ((Gr.alloc _ _).trans (Gr.alloc _ _)).trans (Gr.alloc _ _)⟩
      · by_cases h1 : am < 0
        · have h1b : decide (am < 0) = true := by simp [h1]
          go_wp2_with fail
          exact bodyPost_ret (v := .agg #[.bool false, .int .i64 al, .int .i64 (-1)]) (by simp [results, Tryd.results42, go_sem]) rfl ⟨ret_le (by simp only [altL, Bool.false_eq_true, if_false]; try (first | rfl | omega | (split <;> omega))) (by simp only [altL, Bool.false_eq_true, if_false]; try (first | rfl | omega | (split <;> omega))) (by simp only [altL, Bool.false_eq_true, if_false]; try (first | rfl | omega | (split <;> omega))), ((Gr.alloc _ _).trans (Gr.alloc _ _)).trans (Gr.alloc _ _)⟩
        · by_cases h2 : bm < 0
          · skip
            go_wp2_with fail
            exact bodyPost_ret (v := .agg #[.bool false, .int .i64 al, .int .i64 (-1)]) (by simp [results, Tryd.results42, go_sem]) rfl ⟨ret_le (by simp only [altL, Bool.false_eq_true, if_false]; try (first | rfl | omega | (split <;> omega))) (by simp only [altL, Bool.false_eq_true, if_false]; try (first | rfl | omega | (split <;> omega))) (by simp only [altL, Bool.false_eq_true, if_false]; try (first | rfl | omega | (split <;> omega))), ((Gr.alloc _ _).trans (Gr.alloc _ _)).trans (Gr.alloc _ _)⟩
          by_cases h3 : am < bm
          · skip
            go_wp2_with fail
            exact bodyPost_ret (v := .agg #[.bool false, .int .i64 al, .int .i64 bm]) (by simp [results, Tryd.results42, go_sem]) rfl ⟨ret_le (by simp only [altL, Bool.false_eq_true, if_false]; try (first | rfl | omega | (split <;> omega))) (by simp only [altL, Bool.false_eq_true, if_false]; try (first | rfl | omega | (split <;> omega))) (by simp only [altL, Bool.false_eq_true, if_false]; try (first | rfl | omega | (split <;> omega))), ((Gr.alloc _ _).trans (Gr.alloc _ _)).trans (Gr.alloc _ _)⟩
          · skip
            go_wp2_with fail
            exact bodyPost_ret (v := .agg #[.bool false, .int .i64 al, .int .i64 am]) (by simp [results, Tryd.results42, go_sem]) rfl ⟨ret_le (by simp only [altL, Bool.false_eq_true, if_false]; try (first | rfl | omega | (split <;> omega))) (by simp only [altL, Bool.false_eq_true, if_false]; try (first | rfl | omega | (split <;> omega))) (by simp only [altL, Bool.false_eq_true, if_false]; try (first | rfl | omega | (split <;> omega))), ((Gr.alloc _ _).trans (Gr.alloc _ _)).trans (Gr.alloc _ _)⟩
    · go_wp2_with fail
      exact bodyPost_ret (v := .agg #[.bool false, .int .i64 al, .int .i64 am]) (by simp [results, Tryd.results42, go_sem]) rfl ⟨ret_le (by simp [altL]) (by simp [altL]) (by simp [altL]), ((Gr.alloc _ _).trans (Gr.alloc _ _)).trans (Gr.alloc _ _)⟩
  · go_wp2_with fail
    exact bodyPost_ret (v := .agg #[.bool bn, .int .i64 bl, .int .i64 bm]) (by simp [results, Tryd.results42, go_sem]) rfl ⟨ret_le (by simp [altL]) (by simp [altL]) (by simp [altL]), ((Gr.alloc _ _).trans (Gr.alloc _ _)).trans (Gr.alloc _ _)⟩

theorem many_plain (mn mx : Int) (al am : Int) (h1 : 0 ≤ al) (h2 : -1 ≤ am) : manyL mn mx ⟨false, al, am⟩ = ⟨false, if mn = 0 then 0 else al, if mx = -1 ∧ am ≠ 0 then -1 else am⟩ := by
  unfold manyL altL
  by_cases h : mn = 0 <;> by_cases h3 : mx = -1 <;> by_cases h4 : am = 0 <;> simp [h, h3, h4, Le.zero] <;> first | omega | (refine ⟨by omega, ?_⟩; split <;> omega) | skip

set_option maxRecDepth 100000 in
set_option maxHeartbeats 2000000 in
theorem times_any (op pos : Int) (s : BitVec 256) (text : ByteArray) (mn mx : Int) (p : Option Addr) (n c : Nat) (a : Le) (w : World) (ha : small a) : Calls Tryd.prog 43 #[.agg #[.int .i64 op, .int .i64 pos, .int .u64 (wd s 0), .int .u64 (wd s 1), .int .u64 (wd s 2), .int .u64 (wd s 3), .string text, .int .i64 mn, .int .i64 mx, (.slice p n c)], .agg #[.bool a.none, .int .i64 a.least, .int .i64 a.most]] w fun e' w' => e' = .returned (.agg #[.bool (manyL mn mx a).none, .int .i64 (manyL mn mx a).least, .int .i64 (manyL mn mx a).most]) ∧ Gr w w' := by
  obtain ⟨an, al, am⟩ := a
  obtain ⟨a1, a2, a3, a4⟩ := ha
  simp only at a1 a2 a3 a4
  have HP := Lib.hid (many_plain mn mx al am a1 a3)
  obtain ⟨b1, h1⟩ : ∃ b, (mn == 0) = b := ⟨_, rfl⟩
  obtain ⟨b2, h2⟩ : ∃ b, (mx == -1) = b := ⟨_, rfl⟩
  obtain ⟨b3, h3⟩ : ∃ b, (am == 0) = b := ⟨_, rfl⟩
  have H1 := Lib.hid h1
  have H2 := Lib.hid h2
  have H3 := Lib.hid h3
  dsimp only
  go_enter Tryd.func43, Tryd.ntmps43
  cases an
  · cases b1
    · cases b2
      · skip
        go_wp2_with fail
        exact bodyPost_ret (v := .agg #[.bool false, .int .i64 al, .int .i64 am]) (by simp [results, Tryd.results43, go_sem]) rfl ⟨ret_le (by rw [HP.out]; all_goals (have h1 := H1.out; have h2 := H2.out; have h3 := H3.out; simp at h1 h2 h3; simp [h1, h2, h3])) (by rw [HP.out]; all_goals (have h1 := H1.out; have h2 := H2.out; have h3 := H3.out; simp at h1 h2 h3; simp [h1, h2, h3])) (by rw [HP.out]; all_goals (have h1 := H1.out; have h2 := H2.out; have h3 := H3.out; simp at h1 h2 h3; simp [h1, h2, h3])), ((Gr.alloc _ _).trans (Gr.alloc _ _)).trans (Gr.alloc _ _)⟩
      · cases b3
        · have h9 : ¬ am = 0 := by have := H3.out; simpa using this
          go_wp2_with fail
          exact bodyPost_ret (v := .agg #[.bool false, .int .i64 al, .int .i64 (-1)]) (by simp [results, Tryd.results43, go_sem]) rfl ⟨ret_le (by rw [HP.out]; all_goals (have h1 := H1.out; have h2 := H2.out; have h3 := H3.out; simp at h1 h2 h3; simp [h1, h2, h3])) (by rw [HP.out]; all_goals (have h1 := H1.out; have h2 := H2.out; have h3 := H3.out; simp at h1 h2 h3; simp [h1, h2, h3])) (by rw [HP.out]; all_goals (have h1 := H1.out; have h2 := H2.out; have h3 := H3.out; simp at h1 h2 h3; simp [h1, h2, h3])), ((Gr.alloc _ _).trans (Gr.alloc _ _)).trans (Gr.alloc _ _)⟩
        · have h9 : am = 0 := by have := H3.out; simpa using this
          subst h9
          go_wp2_with fail
          exact bodyPost_ret (v := .agg #[.bool false, .int .i64 al, .int .i64 0]) (by simp [results, Tryd.results43, go_sem]) rfl ⟨ret_le (by rw [HP.out]; all_goals (have h1 := H1.out; have h2 := H2.out; have h3 := H3.out; simp at h1 h2 h3; simp [h1, h2, h3])) (by rw [HP.out]; all_goals (have h1 := H1.out; have h2 := H2.out; have h3 := H3.out; simp at h1 h2 h3; simp [h1, h2, h3])) (by rw [HP.out]; all_goals (have h1 := H1.out; have h2 := H2.out; have h3 := H3.out; simp at h1 h2 h3; simp [h1, h2, h3])), ((Gr.alloc _ _).trans (Gr.alloc _ _)).trans (Gr.alloc _ _)⟩
    · cases b2
      · skip
        go_wp2_with fail
        exact bodyPost_ret (v := .agg #[.bool false, .int .i64 0, .int .i64 am]) (by simp [results, Tryd.results43, go_sem]) rfl ⟨ret_le (by rw [HP.out]; all_goals (have h1 := H1.out; have h2 := H2.out; have h3 := H3.out; simp at h1 h2 h3; simp [h1, h2, h3])) (by rw [HP.out]; all_goals (have h1 := H1.out; have h2 := H2.out; have h3 := H3.out; simp at h1 h2 h3; simp [h1, h2, h3])) (by rw [HP.out]; all_goals (have h1 := H1.out; have h2 := H2.out; have h3 := H3.out; simp at h1 h2 h3; simp [h1, h2, h3])), ((Gr.alloc _ _).trans (Gr.alloc _ _)).trans (Gr.alloc _ _)⟩
      · cases b3
        · have h9 : ¬ am = 0 := by have := H3.out; simpa using this
          go_wp2_with fail
          exact bodyPost_ret (v := .agg #[.bool false, .int .i64 0, .int .i64 (-1)]) (by simp [results, Tryd.results43, go_sem]) rfl ⟨ret_le (by rw [HP.out]; all_goals (have h1 := H1.out; have h2 := H2.out; have h3 := H3.out; simp at h1 h2 h3; simp [h1, h2, h3])) (by rw [HP.out]; all_goals (have h1 := H1.out; have h2 := H2.out; have h3 := H3.out; simp at h1 h2 h3; simp [h1, h2, h3])) (by rw [HP.out]; all_goals (have h1 := H1.out; have h2 := H2.out; have h3 := H3.out; simp at h1 h2 h3; simp [h1, h2, h3])), ((Gr.alloc _ _).trans (Gr.alloc _ _)).trans (Gr.alloc _ _)⟩
        · have h9 : am = 0 := by have := H3.out; simpa using this
          subst h9
          go_wp2_with fail
          exact bodyPost_ret (v := .agg #[.bool false, .int .i64 0, .int .i64 0]) (by simp [results, Tryd.results43, go_sem]) rfl ⟨ret_le (by rw [HP.out]; all_goals (have h1 := H1.out; have h2 := H2.out; have h3 := H3.out; simp at h1 h2 h3; simp [h1, h2, h3])) (by rw [HP.out]; all_goals (have h1 := H1.out; have h2 := H2.out; have h3 := H3.out; simp at h1 h2 h3; simp [h1, h2, h3])) (by rw [HP.out]; all_goals (have h1 := H1.out; have h2 := H2.out; have h3 := H3.out; simp at h1 h2 h3; simp [h1, h2, h3])), ((Gr.alloc _ _).trans (Gr.alloc _ _)).trans (Gr.alloc _ _)⟩
  · cases b1
    · go_wp2_with fail
      exact bodyPost_ret (v := .agg #[.bool true, .int .i64 al, .int .i64 am]) (by simp [results, Tryd.results43, go_sem]) rfl ⟨ret_le (by have h1 := H1.out; simp at h1; unfold manyL altL; simp [h1, Le.zero]) (by have h1 := H1.out; simp at h1; unfold manyL altL; simp [h1, Le.zero]) (by have h1 := H1.out; simp at h1; unfold manyL altL; simp [h1, Le.zero]), ((Gr.alloc _ _).trans (Gr.alloc _ _)).trans (Gr.alloc _ _)⟩
    · go_wp2_with fail
      exact bodyPost_ret (v := .agg #[.bool false, .int .i64 0, .int .i64 0]) (by simp [results, Tryd.results43, go_sem]) rfl ⟨ret_le (by have h1 := H1.out; simp at h1; unfold manyL altL; simp [h1, Le.zero]) (by have h1 := H1.out; simp at h1; unfold manyL altL; simp [h1, Le.zero]) (by have h1 := H1.out; simp at h1; unfold manyL altL; simp [h1, Le.zero]), ((Gr.alloc _ _).trans (Gr.alloc _ _)).trans (Gr.alloc _ _)⟩

end Go.Proofs.YtpcmgkohebihmaaDoor
