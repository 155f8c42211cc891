/- bolterref3: Parse. No condition but a length's bound. -/
import Derived.Test.YtihjmeoklbmnmaaGreatDoorPR3l
import Derived.Test.YtihjmeoklbmnmaaGreatDoorPGj
namespace Go.Proofs.YtihjmeoklbmnmaaGreatDoor
open Go Go.RowKit

/-- What the reference's Parse tells. -/
def ParseEnd3 (t : List UInt8) (w : World) (x : Rd) (e : Ending) (w' : World) : Prop :=
  Gr w w' ∧ match x with
    | .ok s r => e = .returned (.tuple #[.agg #[.int .u64 (wd s 0), .int .u64 (wd s 1), .int .u64 (wd s 2), .int .u64 (wd s 3)], .int .i64 ((t.length - r.length : Nat) : Int), .agg #[.int .i64 0, .int .i64 0, .int .i64 0, .int .i64 0, .slice none 0 0]])
    | .bad d r => e = .returned (.tuple #[.agg #[.int .u64 (wd emptyS 0), .int .u64 (wd emptyS 1), .int .u64 (wd emptyS 2), .int .u64 (wd emptyS 3)], .int .i64 0, .agg #[.int .i64 (codeB d : Int), .int .i64 0, .int .i64 0, .int .i64 ((t.length - r.length : Nat) : Int), .slice none 0 0]])

set_option maxRecDepth 100000 in
set_option maxHeartbeats 16000000 in
theorem parse3_any (t : List UInt8) (a : Int) (w : World) (hT : (t.length : Int) ≤ 4294967280) :
    Calls Tryz.prog 5 #[.string (st t), .int .i64 a] w (ParseEnd3 t w (parseP t a)) := by
  obtain ⟨X, hX⟩ : ∃ X, parseP t a = X := ⟨_, rfl⟩
  rw [hX]
  rw [parseP_eq] at hX
  have hsz := st_size t
  by_cases ha : a < 0 ∨ (t.length : Int) ≤ a
  · have hX2 : X = .bad false (t.drop t.length) := by
      rw [← hX]
      have : (if a < 0 ∨ (t.length : Int) < a then t.length else a.toNat) = t.length := by split <;> omega
      rw [this, List.drop_length]
      exact classF_none 0 _ (by decide)
    have HX := Lib.hid hX2
    clear hX hX2
    have hq : a < 0 ∨ ¬ a < 0 ∧ (t.length : Int) ≤ a := by omega
    clear ha
    rcases hq with ha | ⟨ha, ha2⟩
    all_goals
      go_enter Tryz.func5, Tryz.ntmps5
      go_wp2_with fail
      go_at_call 10
      refine name_calls (fun W hW => ?_)
      obtain ⟨xs, xf, hg, hsz2⟩ : boxAt W w.heap.size [.int .u64 0, .int .u64 0, .int .u64 0, .int .u64 0] ∧ boxAt W (w.heap.size + 1) [.int .i64 0, .int .i64 0, .int .i64 0, .int .i64 0, .slice none 0 0] ∧ Gr w W ∧ W.heap.size = w.heap.size + 2 := by
        subst hW; exact boxes2 _ _ _ _ _
      clear hW hsz2
      refine (at0_any _ _ _).mono ?_; rintro e w7 ⟨rfl, hb⟩
      replace xf := xf.later hb
      replace xs := xs.later hb
      replace hg := hg.trans hb
      clear hb
      have c_f0 := xf.cell 0 _ rfl
      have c_f1 := xf.cell 1 _ rfl
      have c_f2 := xf.cell 2 _ rfl
      have c_f3 := xf.cell 3 _ rfl
      have c_f4 := xf.cell 4 _ rfl
      have m_f0 := xf.mark 0 _ rfl
      have m_f1 := xf.mark 1 _ rfl
      have m_f2 := xf.mark 2 _ rfl
      have m_f3 := xf.mark 3 _ rfl
      have m_f4 := xf.mark 4 _ rfl
      have l_f := xf.lt (Nat.succ_pos _)
      have c_s0 := xs.cell 0 _ rfl
      have c_s1 := xs.cell 1 _ rfl
      have c_s2 := xs.cell 2 _ rfl
      have c_s3 := xs.cell 3 _ rfl
      have m_s0 := xs.mark 0 _ rfl
      have m_s1 := xs.mark 1 _ rfl
      have m_s2 := xs.mark 2 _ rfl
      have m_s3 := xs.mark 3 _ rfl
      have l_s := xs.lt (Nat.succ_pos _)
      go_wp2_with fail
      refine name_end (fun W9 hW => ?_)
      have y9 : boxAt W9 (w.heap.size + 1) [.int .i64 3, .int .i64 0, .int .i64 0, .int .i64 (t.length : Int), .slice none 0 0] := by rw [hW]; exact (xf.far4 (by omega) _ _ _ _).put5 _ _ _ _ _
      have x9 : boxAt W9 w.heap.size [.int .u64 0, .int .u64 0, .int .u64 0, .int .u64 0] := by
        rw [hW]
        exact (((((xs.put4 _ _ _ _).far ⟨w.heap.size + 1, 0, none⟩ _ (by show w.heap.size + 1 ≠ _; omega)).far ⟨w.heap.size + 1, 1, none⟩ _ (by show w.heap.size + 1 ≠ _; omega)).far ⟨w.heap.size + 1, 2, none⟩ _ (by show w.heap.size + 1 ≠ _; omega)).far ⟨w.heap.size + 1, 3, none⟩ _ (by show w.heap.size + 1 ≠ _; omega)).far ⟨w.heap.size + 1, 4, none⟩ _ (by show w.heap.size + 1 ≠ _; omega)
      have hg9 : Gr w W9 := by rw [hW]; exact Below.put5 (Below.put4 hg (Nat.le_refl _) _ _ _ _) (by omega) _ _ _ _ _
      clear hW
      clear c_f0 c_f1 c_f2 c_f3 c_f4 m_f0 m_f1 m_f2 m_f3 m_f4 l_f
      clear c_s0 c_s1 c_s2 c_s3 m_s0 m_s1 m_s2 m_s3 l_s
      have c_y0 := y9.cell 0 _ rfl
      have c_y1 := y9.cell 1 _ rfl
      have c_y2 := y9.cell 2 _ rfl
      have c_y3 := y9.cell 3 _ rfl
      have c_y4 := y9.cell 4 _ rfl
      have m_y0 := y9.mark 0 _ rfl
      have m_y1 := y9.mark 1 _ rfl
      have m_y2 := y9.mark 2 _ rfl
      have m_y3 := y9.mark 3 _ rfl
      have m_y4 := y9.mark 4 _ rfl
      have l_y := y9.lt (Nat.succ_pos _)
      have c_q0 := x9.cell 0 _ rfl
      have c_q1 := x9.cell 1 _ rfl
      have c_q2 := x9.cell 2 _ rfl
      have c_q3 := x9.cell 3 _ rfl
      have m_q0 := x9.mark 0 _ rfl
      have m_q1 := x9.mark 1 _ rfl
      have m_q2 := x9.mark 2 _ rfl
      have m_q3 := x9.mark 3 _ rfl
      have l_q := x9.lt (Nat.succ_pos _)
      refine bodyPost_ret (v := .tuple #[.agg #[.int .u64 (wd emptyS 0), .int .u64 (wd emptyS 1), .int .u64 (wd emptyS 2), .int .u64 (wd emptyS 3)], .int .i64 0, .agg #[.int .i64 3, .int .i64 0, .int .i64 0, .int .i64 (t.length : Int), .slice none 0 0]]) (by simp [results, Tryz.results5, go_sem, c_y0, c_y1, c_y2, c_y3, c_y4, c_q0, c_q1, c_q2, c_q3, wd_zero]) rfl ⟨hg9, ?_⟩
      rw [HX.out]
      show _ = _
      rw [List.drop_length]; rfl
  obtain ⟨n, rfl⟩ : ∃ n : Nat, a = (n : Int) := ⟨a.toNat, by omega⟩
  have hn : n < t.length := by omega
  have hn0 : ¬ (n : Int) < 0 := by omega
  have hnJ : ¬ (t.length : Int) ≤ (n : Int) := by omega
  rw [if_neg (by omega), Int.toNat_natCast] at hX
  have HX := Lib.hid hX
  have HC := Lib.hid (fun (p : Nat) (w : World) (h : Rd3 w p t n 0 none) => class3_any t hT (t.length + 1) 0 n p w h (Nat.le_of_lt hn) (by rw [List.length_drop]; omega) (by omega))
  have HT := Lib.hid hT
  clear ha hX hn hT
  go_enter Tryz.func5, Tryz.ntmps5
  go_wp2_with fail
  go_at_call 11
  refine name_calls (fun W hW => ?_)
  obtain ⟨xq, xf, xp, hg, hsz2⟩ : boxAt W w.heap.size [.int .u64 0, .int .u64 0, .int .u64 0, .int .u64 0] ∧ boxAt W (w.heap.size + 1) [.int .i64 0, .int .i64 0, .int .i64 0, .int .i64 0, .slice none 0 0] ∧ boxAt W (w.heap.size + 2) [.string (st t), .int .i64 (n : Int), .int .i64 0, .int .i64 0, .int .i64 0, .int .i64 0, .int .i64 0, .slice none 0 0] ∧ Gr w W ∧ W.heap.size = w.heap.size + 3 := by
    subst hW; exact boxes3 _ _ _ _ _ _ _
  clear hW
  obtain ⟨P, hP⟩ : ∃ P, w.heap.size + 1 + 1 = P := ⟨_, rfl⟩
  rw [hP]
  rw [show w.heap.size + 2 = P from hP] at xp
  have hR : Rd3 W P t n 0 none := xp
  have hq1 : w.heap.size ≠ P := by omega
  have hq2 : w.heap.size + 1 ≠ P := by omega
  have HP := Lib.hid (show w.heap.size + 2 = P ∧ W.heap.size = w.heap.size + 3 from ⟨hP, hsz2⟩)
  clear hP hsz2 xp
  refine (HC.out P W hR).mono ?_; rintro e w2 ⟨hK, hm⟩
  rw [HX.out] at hm
  replace xq := xq.kept hK hq1 (by simp)
  replace xf := xf.kept hK hq2 (by simp)
  have hg2 : Gr w w2 := Kp.of_gr hg hK (by have := HP.out; omega)
  have hl2 : w.heap.size + 1 < w2.heap.size := xf.lt (by simp)
  clear hK hR hg
  cases X with
  | ok s r =>
    obtain ⟨rfl, hR⟩ := hm
    have hlp : P < w2.heap.size := boxAt.lt hR (Nat.succ_pos _)
    have HL := Lib.hid hR
    clear hR
    go_wp2_with fail
    go_at_call 12
    refine name_calls (fun W3 hW => ?_)
    have xx : boxAt W3 w2.heap.size [.int .u64 (wd s 0), .int .u64 (wd s 1), .int .u64 (wd s 2), .int .u64 (wd s 3)] := boxAt.new _ _ hW
    have hb : Gr w2 W3 := by rw [hW]; exact Gr.alloc _ _
    clear hW
    have hR : Rd3 W3 P t _ 0 none := HL.out.later hb
    clear HL
    replace xq := xq.later hb
    replace xf := xf.later hb
    replace hg2 := hg2.trans hb
    clear hb
    refine (ok3_yes P _ 0 t W3 hR).mono ?_; rintro e w4 ⟨rfl, hb⟩
    replace hR := hR.later hb
    replace xq := xq.later hb
    replace xf := xf.later hb
    replace xx := xx.later hb
    replace hg2 := hg2.trans hb
    clear hb
    have hl4 : w2.heap.size < w4.heap.size := xx.lt (by simp)
    obtain ⟨m, hmm⟩ : ∃ m, t.length - r.length = m := ⟨_, rfl⟩
    rw [hmm] at hR
    have HM := Lib.hid hmm
    clear hmm
    have c_x0 := hR.cell 0 _ rfl
    have c_x1 := hR.cell 1 _ rfl
    have c_x2 := hR.cell 2 _ rfl
    have c_x3 := hR.cell 3 _ rfl
    have c_x4 := hR.cell 4 _ rfl
    have c_x5 := hR.cell 5 _ rfl
    have c_x6 := hR.cell 6 _ rfl
    have c_x7 := hR.cell 7 _ rfl
    have m_x0 := hR.mark 0 _ rfl
    have m_x1 := hR.mark 1 _ rfl
    have m_x2 := hR.mark 2 _ rfl
    have m_x3 := hR.mark 3 _ rfl
    have m_x4 := hR.mark 4 _ rfl
    have m_x5 := hR.mark 5 _ rfl
    have m_x6 := hR.mark 6 _ rfl
    have m_x7 := hR.mark 7 _ rfl
    have l_x := hR.lt (Nat.succ_pos _)
    have c_s0 := xx.cell 0 _ rfl
    have c_s1 := xx.cell 1 _ rfl
    have c_s2 := xx.cell 2 _ rfl
    have c_s3 := xx.cell 3 _ rfl
    have m_s0 := xx.mark 0 _ rfl
    have m_s1 := xx.mark 1 _ rfl
    have m_s2 := xx.mark 2 _ rfl
    have m_s3 := xx.mark 3 _ rfl
    have l_s := xx.lt (Nat.succ_pos _)
    have c_q0 := xq.cell 0 _ rfl
    have c_q1 := xq.cell 1 _ rfl
    have c_q2 := xq.cell 2 _ rfl
    have c_q3 := xq.cell 3 _ rfl
    have m_q0 := xq.mark 0 _ rfl
    have m_q1 := xq.mark 1 _ rfl
    have m_q2 := xq.mark 2 _ rfl
    have m_q3 := xq.mark 3 _ rfl
    have l_q := xq.lt (Nat.succ_pos _)
    have c_f0 := xf.cell 0 _ rfl
    have c_f1 := xf.cell 1 _ rfl
    have c_f2 := xf.cell 2 _ rfl
    have c_f3 := xf.cell 3 _ rfl
    have c_f4 := xf.cell 4 _ rfl
    have m_f0 := xf.mark 0 _ rfl
    have m_f1 := xf.mark 1 _ rfl
    have m_f2 := xf.mark 2 _ rfl
    have m_f3 := xf.mark 3 _ rfl
    have m_f4 := xf.mark 4 _ rfl
    have l_f := xf.lt (Nat.succ_pos _)
    go_wp2_with fail
    go_region_with fail
    all_goals
      go_wp2
      refine name_end (fun W9 hW => ?_)
      have y9 : boxAt W9 (w.heap.size + 1) [.int .i64 0, .int .i64 0, .int .i64 0, .int .i64 0, .slice none 0 0] := by rw [hW]; exact boxAt.later ((xf.far4 (by omega) _ _ _ _).put5 _ _ _ _ _) (Gr.drew _)
      have x9 : boxAt W9 w.heap.size [.int .u64 (wd s 0), .int .u64 (wd s 1), .int .u64 (wd s 2), .int .u64 (wd s 3)] := by rw [hW]; exact boxAt.later ((((((xq.put4 _ _ _ _).far ⟨w.heap.size + 1, 0, none⟩ _ (by show w.heap.size + 1 ≠ _; omega)).far ⟨w.heap.size + 1, 1, none⟩ _ (by show w.heap.size + 1 ≠ _; omega)).far ⟨w.heap.size + 1, 2, none⟩ _ (by show w.heap.size + 1 ≠ _; omega)).far ⟨w.heap.size + 1, 3, none⟩ _ (by show w.heap.size + 1 ≠ _; omega)).far ⟨w.heap.size + 1, 4, none⟩ _ (by show w.heap.size + 1 ≠ _; omega)) (Gr.drew _)
      have hg9 : Gr w W9 := by rw [hW]; exact Gr.trans (Below.put5 (Below.put4 hg2 (Nat.le_refl _) _ _ _ _) (by omega) _ _ _ _ _) (Gr.drew _)
      clear hW
      have c_y0 := y9.cell 0 _ rfl
      have c_y1 := y9.cell 1 _ rfl
      have c_y2 := y9.cell 2 _ rfl
      have c_y3 := y9.cell 3 _ rfl
      have c_y4 := y9.cell 4 _ rfl
      have m_y0 := y9.mark 0 _ rfl
      have m_y1 := y9.mark 1 _ rfl
      have m_y2 := y9.mark 2 _ rfl
      have m_y3 := y9.mark 3 _ rfl
      have m_y4 := y9.mark 4 _ rfl
      have l_y := y9.lt (Nat.succ_pos _)
      have c_z0 := x9.cell 0 _ rfl
      have c_z1 := x9.cell 1 _ rfl
      have c_z2 := x9.cell 2 _ rfl
      have c_z3 := x9.cell 3 _ rfl
      have m_z0 := x9.mark 0 _ rfl
      have m_z1 := x9.mark 1 _ rfl
      have m_z2 := x9.mark 2 _ rfl
      have m_z3 := x9.mark 3 _ rfl
      have l_z := x9.lt (Nat.succ_pos _)
      refine bodyPost_ret (v := .tuple #[.agg #[.int .u64 (wd s 0), .int .u64 (wd s 1), .int .u64 (wd s 2), .int .u64 (wd s 3)], .int .i64 (m : Int), .agg #[.int .i64 0, .int .i64 0, .int .i64 0, .int .i64 0, .slice none 0 0]]) (by simp [results, Tryz.results5, go_sem, c_y0, c_y1, c_y2, c_y3, c_y4, c_z0, c_z1, c_z2, c_z3, wd_zero]) rfl ⟨hg9, ?_⟩
      show _ = _
      rw [HM.out]
  | bad d r =>
    obtain ⟨s, q, rfl, hqq, hR⟩ := hm
    have hlp : P < w2.heap.size := boxAt.lt hR (Nat.succ_pos _)
    have HL := Lib.hid hR
    clear hR hqq
    go_wp2_with fail
    go_at_call 12
    refine name_calls (fun W3 hW => ?_)
    have xx : boxAt W3 w2.heap.size [.int .u64 (wd s 0), .int .u64 (wd s 1), .int .u64 (wd s 2), .int .u64 (wd s 3)] := boxAt.new _ _ hW
    have hb : Gr w2 W3 := by rw [hW]; exact Gr.alloc _ _
    clear hW
    have hR : Rd3 W3 P t q 0 (some (d, t.length - r.length)) := HL.out.later hb
    clear HL
    replace xq := xq.later hb
    replace xf := xf.later hb
    replace hg2 := hg2.trans hb
    clear hb xx
    refine (ok3_no P q 0 t _ W3 hR).mono ?_; rintro e w4 ⟨rfl, hb⟩
    replace hR := hR.later hb
    replace xq := xq.later hb
    replace xf := xf.later hb
    replace hg2 := hg2.trans hb
    clear hb
    obtain ⟨cd, hcd⟩ : ∃ c, codeB d = c := ⟨_, rfl⟩
    obtain ⟨m, hmm⟩ : ∃ m, t.length - r.length = m := ⟨_, rfl⟩
    have xp : boxAt w4 P [.string (st t), .int .i64 (q : Int), .int .i64 0, .int .i64 (cd : Int), .int .i64 0, .int .i64 0, .int .i64 (m : Int), .slice none 0 0] := by rw [← hcd, ← hmm]; exact hR
    have HM := Lib.hid (And.intro hcd hmm)
    clear hmm hcd hR
    have c_x0 := xp.cell 0 _ rfl
    have c_x1 := xp.cell 1 _ rfl
    have c_x2 := xp.cell 2 _ rfl
    have c_x3 := xp.cell 3 _ rfl
    have c_x4 := xp.cell 4 _ rfl
    have c_x5 := xp.cell 5 _ rfl
    have c_x6 := xp.cell 6 _ rfl
    have c_x7 := xp.cell 7 _ rfl
    have m_x0 := xp.mark 0 _ rfl
    have m_x1 := xp.mark 1 _ rfl
    have m_x2 := xp.mark 2 _ rfl
    have m_x3 := xp.mark 3 _ rfl
    have m_x4 := xp.mark 4 _ rfl
    have m_x5 := xp.mark 5 _ rfl
    have m_x6 := xp.mark 6 _ rfl
    have m_x7 := xp.mark 7 _ rfl
    have l_x := xp.lt (Nat.succ_pos _)
    have c_q0 := xq.cell 0 _ rfl
    have c_q1 := xq.cell 1 _ rfl
    have c_q2 := xq.cell 2 _ rfl
    have c_q3 := xq.cell 3 _ rfl
    have m_q0 := xq.mark 0 _ rfl
    have m_q1 := xq.mark 1 _ rfl
    have m_q2 := xq.mark 2 _ rfl
    have m_q3 := xq.mark 3 _ rfl
    have l_q := xq.lt (Nat.succ_pos _)
    have c_f0 := xf.cell 0 _ rfl
    have c_f1 := xf.cell 1 _ rfl
    have c_f2 := xf.cell 2 _ rfl
    have c_f3 := xf.cell 3 _ rfl
    have c_f4 := xf.cell 4 _ rfl
    have m_f0 := xf.mark 0 _ rfl
    have m_f1 := xf.mark 1 _ rfl
    have m_f2 := xf.mark 2 _ rfl
    have m_f3 := xf.mark 3 _ rfl
    have m_f4 := xf.mark 4 _ rfl
    have l_f := xf.lt (Nat.succ_pos _)
    go_wp2_with fail
    go_region_with fail
    all_goals
      go_wp2
      refine name_end (fun W9 hW => ?_)
      have y9 : boxAt W9 (w.heap.size + 1) [.int .i64 (cd : Int), .int .i64 0, .int .i64 0, .int .i64 (m : Int), .slice none 0 0] := by rw [hW]; exact boxAt.later ((xf.far4 (by omega) _ _ _ _).put5 _ _ _ _ _) (Gr.drew _)
      have x9 : boxAt W9 w.heap.size [.int .u64 0, .int .u64 0, .int .u64 0, .int .u64 0] := by rw [hW]; exact boxAt.later ((((((xq.put4 _ _ _ _).far ⟨w.heap.size + 1, 0, none⟩ _ (by show w.heap.size + 1 ≠ _; omega)).far ⟨w.heap.size + 1, 1, none⟩ _ (by show w.heap.size + 1 ≠ _; omega)).far ⟨w.heap.size + 1, 2, none⟩ _ (by show w.heap.size + 1 ≠ _; omega)).far ⟨w.heap.size + 1, 3, none⟩ _ (by show w.heap.size + 1 ≠ _; omega)).far ⟨w.heap.size + 1, 4, none⟩ _ (by show w.heap.size + 1 ≠ _; omega)) (Gr.drew _)
      have hg9 : Gr w W9 := by rw [hW]; exact Gr.trans (Below.put5 (Below.put4 hg2 (Nat.le_refl _) _ _ _ _) (by omega) _ _ _ _ _) (Gr.drew _)
      clear hW
      have c_y0 := y9.cell 0 _ rfl
      have c_y1 := y9.cell 1 _ rfl
      have c_y2 := y9.cell 2 _ rfl
      have c_y3 := y9.cell 3 _ rfl
      have c_y4 := y9.cell 4 _ rfl
      have m_y0 := y9.mark 0 _ rfl
      have m_y1 := y9.mark 1 _ rfl
      have m_y2 := y9.mark 2 _ rfl
      have m_y3 := y9.mark 3 _ rfl
      have m_y4 := y9.mark 4 _ rfl
      have l_y := y9.lt (Nat.succ_pos _)
      have c_z0 := x9.cell 0 _ rfl
      have c_z1 := x9.cell 1 _ rfl
      have c_z2 := x9.cell 2 _ rfl
      have c_z3 := x9.cell 3 _ rfl
      have m_z0 := x9.mark 0 _ rfl
      have m_z1 := x9.mark 1 _ rfl
      have m_z2 := x9.mark 2 _ rfl
      have m_z3 := x9.mark 3 _ rfl
      have l_z := x9.lt (Nat.succ_pos _)
      refine bodyPost_ret (v := .tuple #[.agg #[.int .u64 (wd emptyS 0), .int .u64 (wd emptyS 1), .int .u64 (wd emptyS 2), .int .u64 (wd emptyS 3)], .int .i64 0, .agg #[.int .i64 (cd : Int), .int .i64 0, .int .i64 0, .int .i64 (m : Int), .slice none 0 0]]) (by simp [results, Tryz.results5, go_sem, c_y0, c_y1, c_y2, c_y3, c_y4, c_z0, c_z1, c_z2, c_z3, wd_zero]) rfl ⟨hg9, ?_⟩
      show _ = _
      rw [HM.out.1, HM.out.2]

end Go.Proofs.YtihjmeoklbmnmaaGreatDoor
