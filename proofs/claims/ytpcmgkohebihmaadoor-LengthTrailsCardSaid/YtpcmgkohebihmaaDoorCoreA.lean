/- lean, kind of expand: what a core's part may have. No condition. -/
import Derived.Test.YtpcmgkohebihmaaDoorEx
import Derived.Test.YtpcmgkohebihmaaDoorSetEqB
import Derived.WalkSpells
import Derived.WalkLawsBesides
import Derived.Lib.Hide
namespace Go.Proofs.YtpcmgkohebihmaaDoor
open Go Go.RowKit

def leanB (op pos : Int) (s : BitVec 256) (text : ByteArray) (mn mx : Int) : Bool :=
  (pos == 0) && (text.toList.isEmpty) && ((op == 2) || (s == emptyS)) && ((op == 7) || ((mn == 0) && (mx == 0)))
def kindB (op : Int) (n : Nat) (mn mx : Int) : Bool :=
  if op == 1 || op == 2 then n == 0 else if op == 5 || op == 6 then decide (1 < n) else if op == 7 then (n == 1) && (((mn == 0) && (mx == -1)) || ((mn == 1) && (mx == -1)) || ((mn == 0) && (mx == 1))) else false

set_option maxRecDepth 100000 in
set_option maxHeartbeats 4000000 in
theorem lean_any (op pos : Int) (s : BitVec 256) (text : ByteArray) (mn mx : Int) (v : Value) (w : World) :
    Calls Tryd.prog 49 #[.agg #[.int .i64 op, .int .i64 pos, .int .u64 (wd s 0), .int .u64 (wd s 1), .int .u64 (wd s 2), .int .u64 (wd s 3), .string text, .int .i64 mn, .int .i64 mx, v]] w fun e w' => e = .returned (.bool (leanB op pos s text mn mx)) ∧ Gr w w' := by
  obtain ⟨b1, h1⟩ : ∃ b, (pos == 0) = b := ⟨_, rfl⟩
  obtain ⟨b2, h2⟩ : ∃ b, text.toList.isEmpty = b := ⟨_, rfl⟩
  obtain ⟨b3, h3⟩ : ∃ b, (op == 2) = b := ⟨_, rfl⟩
  obtain ⟨b4, h4⟩ : ∃ b, (s == emptyS) = b := ⟨_, rfl⟩
  obtain ⟨b5, h5⟩ : ∃ b, (op == 7) = b := ⟨_, rfl⟩
  obtain ⟨b6, h6⟩ : ∃ b, (mn == 0) = b := ⟨_, rfl⟩
  obtain ⟨b7, h7⟩ : ∃ b, (mx == 0) = b := ⟨_, rfl⟩
  have H1 := Lib.hid h1
  have H2 := Lib.hid h2
  have H3 := Lib.hid h3
  have H4 := Lib.hid h4
  have H5 := Lib.hid h5
  have H6 := Lib.hid h6
  have H7 := Lib.hid h7
  go_enter Tryd.func49, Tryd.ntmps49
  cases b1
  · go_wp2_with fail
    go_ret
    exact ⟨ret_bool (by unfold leanB; rw [H1.out, H2.out, H3.out, H4.out, H5.out, H6.out, H7.out]; simp), Gr.alloc _ _⟩
  · cases b2
    · go_wp2_with fail
      go_ret
      exact ⟨ret_bool (by unfold leanB; rw [H1.out, H2.out, H3.out, H4.out, H5.out, H6.out, H7.out]; simp), Gr.alloc _ _⟩
    · cases b3
      · cases b4
        · go_wp2_with fail
          go_ret
          exact ⟨ret_bool (by unfold leanB; rw [H1.out, H2.out, H3.out, H4.out, H5.out, H6.out, H7.out]; simp), Gr.alloc _ _⟩
        · cases b5
          · cases b6
            · go_wp2_with fail
              go_ret
              exact ⟨ret_bool (by unfold leanB; rw [H1.out, H2.out, H3.out, H4.out, H5.out, H6.out, H7.out]; simp), Gr.alloc _ _⟩
            · cases b7
              · go_wp2_with fail
                go_ret
                exact ⟨ret_bool (by unfold leanB; rw [H1.out, H2.out, H3.out, H4.out, H5.out, H6.out, H7.out]; simp), Gr.alloc _ _⟩
              · go_wp2_with fail
                go_ret
                exact ⟨ret_bool (by unfold leanB; rw [H1.out, H2.out, H3.out, H4.out, H5.out, H6.out, H7.out]; simp), Gr.alloc _ _⟩
          · go_wp2_with fail
            go_ret
            exact ⟨ret_bool (by unfold leanB; rw [H1.out, H2.out, H3.out, H4.out, H5.out, H6.out, H7.out]; simp), Gr.alloc _ _⟩
      · cases b5
        · cases b6
          · go_wp2_with fail
            go_ret
            exact ⟨ret_bool (by unfold leanB; rw [H1.out, H2.out, H3.out, H4.out, H5.out, H6.out, H7.out]; simp), Gr.alloc _ _⟩
          · cases b7
            · go_wp2_with fail
              go_ret
              exact ⟨ret_bool (by unfold leanB; rw [H1.out, H2.out, H3.out, H4.out, H5.out, H6.out, H7.out]; simp), Gr.alloc _ _⟩
            · go_wp2_with fail
              go_ret
              exact ⟨ret_bool (by unfold leanB; rw [H1.out, H2.out, H3.out, H4.out, H5.out, H6.out, H7.out]; simp), Gr.alloc _ _⟩
        · go_wp2_with fail
          go_ret
          exact ⟨ret_bool (by unfold leanB; rw [H1.out, H2.out, H3.out, H4.out, H5.out, H6.out, H7.out]; simp), Gr.alloc _ _⟩

set_option maxRecDepth 100000 in
set_option maxHeartbeats 4000000 in
theorem kind_any (op pos : Int) (s : BitVec 256) (text : ByteArray) (mn mx : Int) (p : Option Addr) (n c : Nat) (w : World) (hn : n ≤ 9223372036854775807) :
    Calls Tryd.prog 50 #[.agg #[.int .i64 op, .int .i64 pos, .int .u64 (wd s 0), .int .u64 (wd s 1), .int .u64 (wd s 2), .int .u64 (wd s 3), .string text, .int .i64 mn, .int .i64 mx, (.slice p n c)]] w fun e w' => e = .returned (.bool (kindB op n mn mx)) ∧ Gr w w' := by
  obtain ⟨b1, h1⟩ : ∃ b, (op == 1) = b := ⟨_, rfl⟩
  obtain ⟨b2, h2⟩ : ∃ b, (op == 2) = b := ⟨_, rfl⟩
  obtain ⟨b3, h3⟩ : ∃ b, (op == 5) = b := ⟨_, rfl⟩
  obtain ⟨b4, h4⟩ : ∃ b, (op == 6) = b := ⟨_, rfl⟩
  obtain ⟨b5, h5⟩ : ∃ b, (op == 7) = b := ⟨_, rfl⟩
  obtain ⟨b6, h6⟩ : ∃ b, (mn == 0) = b := ⟨_, rfl⟩
  obtain ⟨b7, h7⟩ : ∃ b, (mx == -1) = b := ⟨_, rfl⟩
  obtain ⟨b8, h8⟩ : ∃ b, (mn == 1) = b := ⟨_, rfl⟩
  obtain ⟨b9, h9⟩ : ∃ b, (mx == 1) = b := ⟨_, rfl⟩
  obtain ⟨ba, ha⟩ : ∃ b, ((n : Int) == 1) = b := ⟨_, rfl⟩
  have HA := Lib.hid (show (n == 1) = ba by rw [← ha, Bool.eq_iff_iff]; simp; omega)
  have HZ := Lib.hid (show (n == 0) = ((n : Int) == 0) by rw [Bool.eq_iff_iff]; simp)
  have HG := Lib.hid (show decide (1 < n) = decide ((1 : Int) < (n : Int)) by rw [Bool.eq_iff_iff]; simp; omega)
  have H1 := Lib.hid h1
  have H2 := Lib.hid h2
  have H3 := Lib.hid h3
  have H4 := Lib.hid h4
  have H5 := Lib.hid h5
  have H6 := Lib.hid h6
  have H7 := Lib.hid h7
  have H8 := Lib.hid h8
  have H9 := Lib.hid h9
  go_enter Tryd.func50, Tryd.ntmps50
  cases b1
  · cases b2
    · cases b3
      · cases b4
        · cases b5
          · go_wp2_with fail
            go_ret
            exact ⟨ret_bool (by unfold kindB; rw [HZ.out, HG.out, HA.out, H1.out, H2.out, H3.out, H4.out, H5.out, H6.out, H7.out, H8.out, H9.out]; simp), Gr.alloc _ _⟩
          · cases ba
            · go_wp2_with fail
              go_ret
              exact ⟨ret_bool (by unfold kindB; rw [HZ.out, HG.out, HA.out, H1.out, H2.out, H3.out, H4.out, H5.out, H6.out, H7.out, H8.out, H9.out]; simp), Gr.alloc _ _⟩
            · cases b6
              · cases b7
                · cases b8
                  · cases b9
                    · go_wp2_with fail
                      go_ret
                      exact ⟨ret_bool (by unfold kindB; rw [HZ.out, HG.out, HA.out, H1.out, H2.out, H3.out, H4.out, H5.out, H6.out, H7.out, H8.out, H9.out]; simp), Gr.alloc _ _⟩
                    · go_wp2_with fail
                      go_ret
                      exact ⟨ret_bool (by unfold kindB; rw [HZ.out, HG.out, HA.out, H1.out, H2.out, H3.out, H4.out, H5.out, H6.out, H7.out, H8.out, H9.out]; simp), Gr.alloc _ _⟩
                  · cases b9
                    · go_wp2_with fail
                      go_ret
                      exact ⟨ret_bool (by unfold kindB; rw [HZ.out, HG.out, HA.out, H1.out, H2.out, H3.out, H4.out, H5.out, H6.out, H7.out, H8.out, H9.out]; simp), Gr.alloc _ _⟩
                    · go_wp2_with fail
                      go_ret
                      exact ⟨ret_bool (by unfold kindB; rw [HZ.out, HG.out, HA.out, H1.out, H2.out, H3.out, H4.out, H5.out, H6.out, H7.out, H8.out, H9.out]; simp), Gr.alloc _ _⟩
                · cases b8
                  · cases b9
                    · go_wp2_with fail
                      go_ret
                      exact ⟨ret_bool (by unfold kindB; rw [HZ.out, HG.out, HA.out, H1.out, H2.out, H3.out, H4.out, H5.out, H6.out, H7.out, H8.out, H9.out]; simp), Gr.alloc _ _⟩
                    · go_wp2_with fail
                      go_ret
                      exact ⟨ret_bool (by unfold kindB; rw [HZ.out, HG.out, HA.out, H1.out, H2.out, H3.out, H4.out, H5.out, H6.out, H7.out, H8.out, H9.out]; simp), Gr.alloc _ _⟩
                  · cases b9
                    · go_wp2_with fail
                      go_ret
                      exact ⟨ret_bool (by unfold kindB; rw [HZ.out, HG.out, HA.out, H1.out, H2.out, H3.out, H4.out, H5.out, H6.out, H7.out, H8.out, H9.out]; simp), Gr.alloc _ _⟩
                    · go_wp2_with fail
                      go_ret
                      exact ⟨ret_bool (by unfold kindB; rw [HZ.out, HG.out, HA.out, H1.out, H2.out, H3.out, H4.out, H5.out, H6.out, H7.out, H8.out, H9.out]; simp), Gr.alloc _ _⟩
              · cases b7
                · cases b8
                  · cases b9
                    · go_wp2_with fail
                      go_ret
                      exact ⟨ret_bool (by unfold kindB; rw [HZ.out, HG.out, HA.out, H1.out, H2.out, H3.out, H4.out, H5.out, H6.out, H7.out, H8.out, H9.out]; simp), Gr.alloc _ _⟩
                    · go_wp2_with fail
                      go_ret
                      exact ⟨ret_bool (by unfold kindB; rw [HZ.out, HG.out, HA.out, H1.out, H2.out, H3.out, H4.out, H5.out, H6.out, H7.out, H8.out, H9.out]; simp), Gr.alloc _ _⟩
                  · cases b9
                    · go_wp2_with fail
                      go_ret
                      exact ⟨ret_bool (by unfold kindB; rw [HZ.out, HG.out, HA.out, H1.out, H2.out, H3.out, H4.out, H5.out, H6.out, H7.out, H8.out, H9.out]; simp), Gr.alloc _ _⟩
                    · go_wp2_with fail
                      go_ret
                      exact ⟨ret_bool (by unfold kindB; rw [HZ.out, HG.out, HA.out, H1.out, H2.out, H3.out, H4.out, H5.out, H6.out, H7.out, H8.out, H9.out]; simp), Gr.alloc _ _⟩
                · cases b8
                  · cases b9
                    · go_wp2_with fail
                      go_ret
                      exact ⟨ret_bool (by unfold kindB; rw [HZ.out, HG.out, HA.out, H1.out, H2.out, H3.out, H4.out, H5.out, H6.out, H7.out, H8.out, H9.out]; simp), Gr.alloc _ _⟩
                    · go_wp2_with fail
                      go_ret
                      exact ⟨ret_bool (by unfold kindB; rw [HZ.out, HG.out, HA.out, H1.out, H2.out, H3.out, H4.out, H5.out, H6.out, H7.out, H8.out, H9.out]; simp), Gr.alloc _ _⟩
                  · cases b9
                    · go_wp2_with fail
                      go_ret
                      exact ⟨ret_bool (by unfold kindB; rw [HZ.out, HG.out, HA.out, H1.out, H2.out, H3.out, H4.out, H5.out, H6.out, H7.out, H8.out, H9.out]; simp), Gr.alloc _ _⟩
                    · go_wp2_with fail
                      go_ret
                      exact ⟨ret_bool (by unfold kindB; rw [HZ.out, HG.out, HA.out, H1.out, H2.out, H3.out, H4.out, H5.out, H6.out, H7.out, H8.out, H9.out]; simp), Gr.alloc _ _⟩
        · go_wp2_with fail
          go_ret
          exact ⟨ret_bool (by unfold kindB; rw [HZ.out, HG.out, HA.out, H1.out, H2.out, H3.out, H4.out, H5.out, H6.out, H7.out, H8.out, H9.out]; simp), Gr.alloc _ _⟩
      · go_wp2_with fail
        go_ret
        exact ⟨ret_bool (by unfold kindB; rw [HZ.out, HG.out, HA.out, H1.out, H2.out, H3.out, H4.out, H5.out, H6.out, H7.out, H8.out, H9.out]; simp), Gr.alloc _ _⟩
    · go_wp2_with fail
      go_ret
      exact ⟨ret_bool (by unfold kindB; rw [HZ.out, HG.out, HA.out, H1.out, H2.out, H3.out, H4.out, H5.out, H6.out, H7.out, H8.out, H9.out]; simp), Gr.alloc _ _⟩
  · go_wp2_with fail
    go_ret
    exact ⟨ret_bool (by unfold kindB; rw [HZ.out, HG.out, HA.out, H1.out, H2.out, H3.out, H4.out, H5.out, H6.out, H7.out, H8.out, H9.out]; simp), Gr.alloc _ _⟩

end Go.Proofs.YtpcmgkohebihmaaDoor
