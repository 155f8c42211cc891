/- formed, many, folded of length. No condition but bounds. -/
import Derived.Test.YtpcmgkohebihmaaDoorLens
namespace Go.Proofs.YtpcmgkohebihmaaDoor
open Go Go.RowKit

set_option maxRecDepth 100000 in
set_option maxHeartbeats 2000000 in
theorem formed_set (pos : Int) (s : BitVec 256) (text : ByteArray) (mn mx : Int) (p : Option Addr) (n c : Nat) (w : World) :
    Calls Tryd.prog 35 #[.agg #[.int .i64 2, .int .i64 pos, .int .u64 (wd s 0), .int .u64 (wd s 1), .int .u64 (wd s 2), .int .u64 (wd s 3), .string text, .int .i64 mn, .int .i64 mx, (.slice p n c)]] w fun e w' => e = .returned (.iface 86 (.agg #[.int .u64 (wd s 0), .int .u64 (wd s 1), .int .u64 (wd s 2), .int .u64 (wd s 3)])) ∧ Gr w w' := by
  go_enter Tryd.func35, Tryd.ntmps35
  go_wp2_with fail
  go_ret
  exact ⟨rfl, Gr.alloc _ _⟩
set_option maxRecDepth 100000 in
set_option maxHeartbeats 2000000 in
theorem formed_cat (pos : Int) (s : BitVec 256) (text : ByteArray) (mn mx : Int) (p : Option Addr) (n c : Nat) (w : World) :
    Calls Tryd.prog 35 #[.agg #[.int .i64 5, .int .i64 pos, .int .u64 (wd s 0), .int .u64 (wd s 1), .int .u64 (wd s 2), .int .u64 (wd s 3), .string text, .int .i64 mn, .int .i64 mx, (.slice p n c)]] w fun e w' => e = .returned (.iface 89 (.agg #[.slice p n c])) ∧ Gr w w' := by
  go_enter Tryd.func35, Tryd.ntmps35
  go_wp2_with fail
  go_ret
  exact ⟨rfl, Gr.alloc _ _⟩
set_option maxRecDepth 100000 in
set_option maxHeartbeats 2000000 in
theorem formed_alt (pos : Int) (s : BitVec 256) (text : ByteArray) (mn mx : Int) (p : Option Addr) (n c : Nat) (w : World) :
    Calls Tryd.prog 35 #[.agg #[.int .i64 6, .int .i64 pos, .int .u64 (wd s 0), .int .u64 (wd s 1), .int .u64 (wd s 2), .int .u64 (wd s 3), .string text, .int .i64 mn, .int .i64 mx, (.slice p n c)]] w fun e w' => e = .returned (.iface 92 (.agg #[.slice p n c])) ∧ Gr w w' := by
  go_enter Tryd.func35, Tryd.ntmps35
  go_wp2_with fail
  go_ret
  exact ⟨rfl, Gr.alloc _ _⟩
set_option maxRecDepth 100000 in
set_option maxHeartbeats 2000000 in
theorem formed_rep (pos : Int) (s : BitVec 256) (text : ByteArray) (mn mx : Int) (p : Option Addr) (n c : Nat) (w : World) :
    Calls Tryd.prog 35 #[.agg #[.int .i64 7, .int .i64 pos, .int .u64 (wd s 0), .int .u64 (wd s 1), .int .u64 (wd s 2), .int .u64 (wd s 3), .string text, .int .i64 mn, .int .i64 mx, (.slice p n c)]] w fun e w' => e = .returned (.iface 94 (.agg #[.int .i64 mn, .int .i64 mx, .slice p n c])) ∧ Gr w w' := by
  go_enter Tryd.func35, Tryd.ntmps35
  go_wp2_with fail
  go_ret
  exact ⟨rfl, Gr.alloc _ _⟩
set_option maxRecDepth 100000 in
set_option maxHeartbeats 2000000 in
theorem formed_none (pos : Int) (s : BitVec 256) (text : ByteArray) (mn mx : Int) (p : Option Addr) (n c : Nat) (w : World) :
    Calls Tryd.prog 35 #[.agg #[.int .i64 1, .int .i64 pos, .int .u64 (wd s 0), .int .u64 (wd s 1), .int .u64 (wd s 2), .int .u64 (wd s 3), .string text, .int .i64 mn, .int .i64 mx, (.slice p n c)]] w fun e w' => e = .returned (.iface 118 (.agg #[])) ∧ Gr w w' := by
  go_enter Tryd.func35, Tryd.ntmps35
  go_wp2_with fail
  go_ret
  exact ⟨rfl, Gr.alloc _ _⟩

def manyL (mn mx : Int) (l : Le) : Le :=
  let l1 : Le := if mx = -1 ∧ l.none = false ∧ l.most ≠ 0 then ⟨l.none, l.least, -1⟩ else l
  if mn = 0 then altL l1 .zero else l1
def leCells (a : Le) : List Value := [.bool a.none, .int .i64 a.least, .int .i64 a.most]
theorem leCells_len (a : Le) : (leCells a).length = 3 := rfl
theorem small_zero : small .zero := ⟨by decide, by decide, by decide, by decide⟩

theorem many_no {mn mx al am : Int} {an b1 b2 : Bool} (h1 : (mx == -1) = b1) (h2 : (am == 0) = b2) (h3 : (mn == 0) = false) : manyL mn mx ⟨an, al, am⟩ = if b1 && !an && !b2 then ⟨an, al, -1⟩ else ⟨an, al, am⟩ := by
  unfold manyL
  have h3' : ¬ mn = 0 := by simpa using h3
  simp only [if_neg h3']
  subst h1 h2
  by_cases h1 : mx = -1 <;> by_cases h2 : am = 0 <;> cases an <;> simp [h1, h2]
theorem many_yes {mn mx al am : Int} {an b1 b2 : Bool} (h1 : (mx == -1) = b1) (h2 : (am == 0) = b2) (h3 : (mn == 0) = true) : manyL mn mx ⟨an, al, am⟩ = altL (if b1 && !an && !b2 then ⟨an, al, -1⟩ else ⟨an, al, am⟩) .zero := by
  unfold manyL
  have h3' : mn = 0 := by simpa using h3
  simp only [if_pos h3']
  subst h1 h2
  by_cases h1 : mx = -1 <;> by_cases h2 : am = 0 <;> cases an <;> simp [h1, h2]
theorem put3 {B : Nat} {w w' : World} (h : Below B w w') {b : Nat} (hb : B ≤ b) (v0 v1 v2 : Value) :
    Below B w (((w'.setCell ⟨b, 0, none⟩ v0).setCell ⟨b, 1, none⟩ v1).setCell ⟨b, 2, none⟩ v2) :=
  ((h.setCell (p := ⟨b, 0, none⟩) hb v0).setCell (p := ⟨b, 1, none⟩) hb v1).setCell (p := ⟨b, 2, none⟩) hb v2

set_option maxRecDepth 100000 in
set_option maxHeartbeats 4000000 in
theorem many_any (mn mx : Int) (v : Value) (a : Le) (w : World) (ha : small a) (p : Option Addr) (n c : Nat) (hv : v = .slice p n c) : Calls Tryd.prog 40 #[.agg #[.int .i64 mn, .int .i64 mx, v], .agg #[.bool a.none, .int .i64 a.least, .int .i64 a.most]] w fun e' w' => e' = .returned (.agg #[.bool (manyL mn mx a).none, .int .i64 (manyL mn mx a).least, .int .i64 (manyL mn mx a).most]) ∧ Gr w w' := by
  subst hv
  obtain ⟨an, al, am⟩ := a
  have HA := Lib.hid ha
  obtain ⟨a1, a2, a3, a4⟩ := ha
  simp only at a1 a2 a3 a4
  dsimp only
  obtain ⟨b1, h1⟩ : ∃ b, (mx == -1) = b := ⟨_, rfl⟩
  obtain ⟨b2, h2⟩ : ∃ b, (am == 0) = b := ⟨_, rfl⟩
  obtain ⟨b3, h3⟩ : ∃ b, (mn == 0) = b := ⟨_, rfl⟩
  have H1 := Lib.hid h1
  have H2 := Lib.hid h2
  have H3 := Lib.hid h3
  go_enter Tryd.func40, Tryd.ntmps40
  cases b1
  · cases an
    · cases b2
      · cases b3
        · go_wp2_with fail
          exact bodyPost_ret (v := .agg #[.bool false, .int .i64 al, .int .i64 am]) (by simp [results, Tryd.results40, go_sem]) rfl ⟨ret_le (by rw [many_no H1.out H2.out H3.out]; rfl) (by rw [many_no H1.out H2.out H3.out]; rfl) (by rw [many_no H1.out H2.out H3.out]; rfl), ((Gr.alloc _ _).trans (Gr.alloc _ _)).trans (Gr.alloc _ _)⟩
        · go_wp2_with fail
          go_at_call 39
          refine name_calls (fun W hW => ?_)
          obtain ⟨_, xl, xr, hgW, hsz⟩ : _ ∧ _ ∧ _ ∧ Gr w W ∧ W.heap.size = w.heap.size + 3 := by rw [hW]; exact bx3 w [.int .i64 mn, .int .i64 mx, .slice p n c] [.bool false, .int .i64 al, .int .i64 am] [.bool false, .int .i64 0, .int .i64 0] 94 33 33
          rw [← hW] at xl xr
          clear hW
          refine (alt_any ⟨false, al, am⟩ .zero W (by unfold small; dsimp only; omega) small_zero).mono ?_; rintro e' w2 ⟨rfl, hg⟩
          replace xl := xl.later hg
          replace xr := xr.later hg
          replace hgW := hgW.trans hg
          have hsw := hg.size
          have c_l0 := xl.cell 0 _ rfl
          have c_l1 := xl.cell 1 _ rfl
          have c_l2 := xl.cell 2 _ rfl
          have m_l0 := xl.mark 0 _ rfl
          have m_l1 := xl.mark 1 _ rfl
          have m_l2 := xl.mark 2 _ rfl
          have l_l := xl.lt (Nat.succ_pos _)
          have c_r0 := xr.cell 0 _ rfl
          have c_r1 := xr.cell 1 _ rfl
          have c_r2 := xr.cell 2 _ rfl
          have m_r0 := xr.mark 0 _ rfl
          have m_r1 := xr.mark 1 _ rfl
          have m_r2 := xr.mark 2 _ rfl
          have l_r := xr.lt (Nat.succ_pos _)
          have HM := Lib.hid (many_yes (al := al) (an := false) H1.out H2.out H3.out)
          obtain ⟨z, hz⟩ : ∃ z, altL ⟨false, al, am⟩ .zero = z := ⟨_, rfl⟩
          have HZ := Lib.hid hz
          simp only [hz]
          clear hz
          go_wp2_with fail
          exact bodyPost_ret (v := .agg #[.bool z.none, .int .i64 z.least, .int .i64 z.most]) (by simp [results, Tryd.results40, go_sem, c_r0, c_r1, c_r2]) rfl ⟨by rw [HM.out, ← HZ.out]; rfl, put3 (put3 hgW (by show _ ≤ w.heap.size + 1; omega) _ _ _) (by show _ ≤ w.heap.size + 2; omega) _ _ _⟩
      · cases b3
        · go_wp2_with fail
          exact bodyPost_ret (v := .agg #[.bool false, .int .i64 al, .int .i64 am]) (by simp [results, Tryd.results40, go_sem]) rfl ⟨ret_le (by rw [many_no H1.out H2.out H3.out]; rfl) (by rw [many_no H1.out H2.out H3.out]; rfl) (by rw [many_no H1.out H2.out H3.out]; rfl), ((Gr.alloc _ _).trans (Gr.alloc _ _)).trans (Gr.alloc _ _)⟩
        · go_wp2_with fail
          go_at_call 39
          refine name_calls (fun W hW => ?_)
          obtain ⟨_, xl, xr, hgW, hsz⟩ : _ ∧ _ ∧ _ ∧ Gr w W ∧ W.heap.size = w.heap.size + 3 := by rw [hW]; exact bx3 w [.int .i64 mn, .int .i64 mx, .slice p n c] [.bool false, .int .i64 al, .int .i64 am] [.bool false, .int .i64 0, .int .i64 0] 94 33 33
          rw [← hW] at xl xr
          clear hW
          refine (alt_any ⟨false, al, am⟩ .zero W (by unfold small; dsimp only; omega) small_zero).mono ?_; rintro e' w2 ⟨rfl, hg⟩
          replace xl := xl.later hg
          replace xr := xr.later hg
          replace hgW := hgW.trans hg
          have hsw := hg.size
          have c_l0 := xl.cell 0 _ rfl
          have c_l1 := xl.cell 1 _ rfl
          have c_l2 := xl.cell 2 _ rfl
          have m_l0 := xl.mark 0 _ rfl
          have m_l1 := xl.mark 1 _ rfl
          have m_l2 := xl.mark 2 _ rfl
          have l_l := xl.lt (Nat.succ_pos _)
          have c_r0 := xr.cell 0 _ rfl
          have c_r1 := xr.cell 1 _ rfl
          have c_r2 := xr.cell 2 _ rfl
          have m_r0 := xr.mark 0 _ rfl
          have m_r1 := xr.mark 1 _ rfl
          have m_r2 := xr.mark 2 _ rfl
          have l_r := xr.lt (Nat.succ_pos _)
          have HM := Lib.hid (many_yes (al := al) (an := false) H1.out H2.out H3.out)
          obtain ⟨z, hz⟩ : ∃ z, altL ⟨false, al, am⟩ .zero = z := ⟨_, rfl⟩
          have HZ := Lib.hid hz
          simp only [hz]
          clear hz
          go_wp2_with fail
          exact bodyPost_ret (v := .agg #[.bool z.none, .int .i64 z.least, .int .i64 z.most]) (by simp [results, Tryd.results40, go_sem, c_r0, c_r1, c_r2]) rfl ⟨by rw [HM.out, ← HZ.out]; rfl, put3 (put3 hgW (by show _ ≤ w.heap.size + 1; omega) _ _ _) (by show _ ≤ w.heap.size + 2; omega) _ _ _⟩
    · cases b2
      · cases b3
        · go_wp2_with fail
          exact bodyPost_ret (v := .agg #[.bool true, .int .i64 al, .int .i64 am]) (by simp [results, Tryd.results40, go_sem]) rfl ⟨ret_le (by rw [many_no H1.out H2.out H3.out]; rfl) (by rw [many_no H1.out H2.out H3.out]; rfl) (by rw [many_no H1.out H2.out H3.out]; rfl), ((Gr.alloc _ _).trans (Gr.alloc _ _)).trans (Gr.alloc _ _)⟩
        · go_wp2_with fail
          go_at_call 39
          refine name_calls (fun W hW => ?_)
          obtain ⟨_, xl, xr, hgW, hsz⟩ : _ ∧ _ ∧ _ ∧ Gr w W ∧ W.heap.size = w.heap.size + 3 := by rw [hW]; exact bx3 w [.int .i64 mn, .int .i64 mx, .slice p n c] [.bool true, .int .i64 al, .int .i64 am] [.bool false, .int .i64 0, .int .i64 0] 94 33 33
          rw [← hW] at xl xr
          clear hW
          refine (alt_any ⟨true, al, am⟩ .zero W (by unfold small; dsimp only; omega) small_zero).mono ?_; rintro e' w2 ⟨rfl, hg⟩
          replace xl := xl.later hg
          replace xr := xr.later hg
          replace hgW := hgW.trans hg
          have hsw := hg.size
          have c_l0 := xl.cell 0 _ rfl
          have c_l1 := xl.cell 1 _ rfl
          have c_l2 := xl.cell 2 _ rfl
          have m_l0 := xl.mark 0 _ rfl
          have m_l1 := xl.mark 1 _ rfl
          have m_l2 := xl.mark 2 _ rfl
          have l_l := xl.lt (Nat.succ_pos _)
          have c_r0 := xr.cell 0 _ rfl
          have c_r1 := xr.cell 1 _ rfl
          have c_r2 := xr.cell 2 _ rfl
          have m_r0 := xr.mark 0 _ rfl
          have m_r1 := xr.mark 1 _ rfl
          have m_r2 := xr.mark 2 _ rfl
          have l_r := xr.lt (Nat.succ_pos _)
          have HM := Lib.hid (many_yes (al := al) (an := true) H1.out H2.out H3.out)
          obtain ⟨z, hz⟩ : ∃ z, altL ⟨true, al, am⟩ .zero = z := ⟨_, rfl⟩
          have HZ := Lib.hid hz
          simp only [hz]
          clear hz
          go_wp2_with fail
          exact bodyPost_ret (v := .agg #[.bool z.none, .int .i64 z.least, .int .i64 z.most]) (by simp [results, Tryd.results40, go_sem, c_r0, c_r1, c_r2]) rfl ⟨by rw [HM.out, ← HZ.out]; rfl, put3 (put3 hgW (by show _ ≤ w.heap.size + 1; omega) _ _ _) (by show _ ≤ w.heap.size + 2; omega) _ _ _⟩
      · cases b3
        · go_wp2_with fail
          exact bodyPost_ret (v := .agg #[.bool true, .int .i64 al, .int .i64 am]) (by simp [results, Tryd.results40, go_sem]) rfl ⟨ret_le (by rw [many_no H1.out H2.out H3.out]; rfl) (by rw [many_no H1.out H2.out H3.out]; rfl) (by rw [many_no H1.out H2.out H3.out]; rfl), ((Gr.alloc _ _).trans (Gr.alloc _ _)).trans (Gr.alloc _ _)⟩
        · go_wp2_with fail
          go_at_call 39
          refine name_calls (fun W hW => ?_)
          obtain ⟨_, xl, xr, hgW, hsz⟩ : _ ∧ _ ∧ _ ∧ Gr w W ∧ W.heap.size = w.heap.size + 3 := by rw [hW]; exact bx3 w [.int .i64 mn, .int .i64 mx, .slice p n c] [.bool true, .int .i64 al, .int .i64 am] [.bool false, .int .i64 0, .int .i64 0] 94 33 33
          rw [← hW] at xl xr
          clear hW
          refine (alt_any ⟨true, al, am⟩ .zero W (by unfold small; dsimp only; omega) small_zero).mono ?_; rintro e' w2 ⟨rfl, hg⟩
          replace xl := xl.later hg
          replace xr := xr.later hg
          replace hgW := hgW.trans hg
          have hsw := hg.size
          have c_l0 := xl.cell 0 _ rfl
          have c_l1 := xl.cell 1 _ rfl
          have c_l2 := xl.cell 2 _ rfl
          have m_l0 := xl.mark 0 _ rfl
          have m_l1 := xl.mark 1 _ rfl
          have m_l2 := xl.mark 2 _ rfl
          have l_l := xl.lt (Nat.succ_pos _)
          have c_r0 := xr.cell 0 _ rfl
          have c_r1 := xr.cell 1 _ rfl
          have c_r2 := xr.cell 2 _ rfl
          have m_r0 := xr.mark 0 _ rfl
          have m_r1 := xr.mark 1 _ rfl
          have m_r2 := xr.mark 2 _ rfl
          have l_r := xr.lt (Nat.succ_pos _)
          have HM := Lib.hid (many_yes (al := al) (an := true) H1.out H2.out H3.out)
          obtain ⟨z, hz⟩ : ∃ z, altL ⟨true, al, am⟩ .zero = z := ⟨_, rfl⟩
          have HZ := Lib.hid hz
          simp only [hz]
          clear hz
          go_wp2_with fail
          exact bodyPost_ret (v := .agg #[.bool z.none, .int .i64 z.least, .int .i64 z.most]) (by simp [results, Tryd.results40, go_sem, c_r0, c_r1, c_r2]) rfl ⟨by rw [HM.out, ← HZ.out]; rfl, put3 (put3 hgW (by show _ ≤ w.heap.size + 1; omega) _ _ _) (by show _ ≤ w.heap.size + 2; omega) _ _ _⟩
  · cases an
    · cases b2
      · cases b3
        · go_wp2_with fail
          exact bodyPost_ret (v := .agg #[.bool false, .int .i64 al, .int .i64 (-1)]) (by simp [results, Tryd.results40, go_sem]) rfl ⟨ret_le (by rw [many_no H1.out H2.out H3.out]; rfl) (by rw [many_no H1.out H2.out H3.out]; rfl) (by rw [many_no H1.out H2.out H3.out]; rfl), ((Gr.alloc _ _).trans (Gr.alloc _ _)).trans (Gr.alloc _ _)⟩
        · go_wp2_with fail
          go_at_call 39
          refine name_calls (fun W hW => ?_)
          obtain ⟨_, xl, xr, hgW, hsz⟩ : _ ∧ _ ∧ _ ∧ Gr w W ∧ W.heap.size = w.heap.size + 3 := by rw [hW]; exact bx3 w [.int .i64 mn, .int .i64 mx, .slice p n c] [.bool false, .int .i64 al, .int .i64 (-1)] [.bool false, .int .i64 0, .int .i64 0] 94 33 33
          rw [← hW] at xl xr
          clear hW
          refine (alt_any ⟨false, al, (-1)⟩ .zero W (by unfold small; dsimp only; omega) small_zero).mono ?_; rintro e' w2 ⟨rfl, hg⟩
          replace xl := xl.later hg
          replace xr := xr.later hg
          replace hgW := hgW.trans hg
          have hsw := hg.size
          have c_l0 := xl.cell 0 _ rfl
          have c_l1 := xl.cell 1 _ rfl
          have c_l2 := xl.cell 2 _ rfl
          have m_l0 := xl.mark 0 _ rfl
          have m_l1 := xl.mark 1 _ rfl
          have m_l2 := xl.mark 2 _ rfl
          have l_l := xl.lt (Nat.succ_pos _)
          have c_r0 := xr.cell 0 _ rfl
          have c_r1 := xr.cell 1 _ rfl
          have c_r2 := xr.cell 2 _ rfl
          have m_r0 := xr.mark 0 _ rfl
          have m_r1 := xr.mark 1 _ rfl
          have m_r2 := xr.mark 2 _ rfl
          have l_r := xr.lt (Nat.succ_pos _)
          have HM := Lib.hid (many_yes (al := al) (an := false) H1.out H2.out H3.out)
          obtain ⟨z, hz⟩ : ∃ z, altL ⟨false, al, (-1)⟩ .zero = z := ⟨_, rfl⟩
          have HZ := Lib.hid hz
          simp only [hz]
          clear hz
          go_wp2_with fail
          exact bodyPost_ret (v := .agg #[.bool z.none, .int .i64 z.least, .int .i64 z.most]) (by simp [results, Tryd.results40, go_sem, c_r0, c_r1, c_r2]) rfl ⟨by rw [HM.out, ← HZ.out]; rfl, put3 (put3 hgW (by show _ ≤ w.heap.size + 1; omega) _ _ _) (by show _ ≤ w.heap.size + 2; omega) _ _ _⟩
      · cases b3
        · go_wp2_with fail
          exact bodyPost_ret (v := .agg #[.bool false, .int .i64 al, .int .i64 am]) (by simp [results, Tryd.results40, go_sem]) rfl ⟨ret_le (by rw [many_no H1.out H2.out H3.out]; rfl) (by rw [many_no H1.out H2.out H3.out]; rfl) (by rw [many_no H1.out H2.out H3.out]; rfl), ((Gr.alloc _ _).trans (Gr.alloc _ _)).trans (Gr.alloc _ _)⟩
        · go_wp2_with fail
          go_at_call 39
          refine name_calls (fun W hW => ?_)
          obtain ⟨_, xl, xr, hgW, hsz⟩ : _ ∧ _ ∧ _ ∧ Gr w W ∧ W.heap.size = w.heap.size + 3 := by rw [hW]; exact bx3 w [.int .i64 mn, .int .i64 mx, .slice p n c] [.bool false, .int .i64 al, .int .i64 am] [.bool false, .int .i64 0, .int .i64 0] 94 33 33
          rw [← hW] at xl xr
          clear hW
          refine (alt_any ⟨false, al, am⟩ .zero W (by unfold small; dsimp only; omega) small_zero).mono ?_; rintro e' w2 ⟨rfl, hg⟩
          replace xl := xl.later hg
          replace xr := xr.later hg
          replace hgW := hgW.trans hg
          have hsw := hg.size
          have c_l0 := xl.cell 0 _ rfl
          have c_l1 := xl.cell 1 _ rfl
          have c_l2 := xl.cell 2 _ rfl
          have m_l0 := xl.mark 0 _ rfl
          have m_l1 := xl.mark 1 _ rfl
          have m_l2 := xl.mark 2 _ rfl
          have l_l := xl.lt (Nat.succ_pos _)
          have c_r0 := xr.cell 0 _ rfl
          have c_r1 := xr.cell 1 _ rfl
          have c_r2 := xr.cell 2 _ rfl
          have m_r0 := xr.mark 0 _ rfl
          have m_r1 := xr.mark 1 _ rfl
          have m_r2 := xr.mark 2 _ rfl
          have l_r := xr.lt (Nat.succ_pos _)
          have HM := Lib.hid (many_yes (al := al) (an := false) H1.out H2.out H3.out)
          obtain ⟨z, hz⟩ : ∃ z, altL ⟨false, al, am⟩ .zero = z := ⟨_, rfl⟩
          have HZ := Lib.hid hz
          simp only [hz]
          clear hz
          go_wp2_with fail
          exact bodyPost_ret (v := .agg #[.bool z.none, .int .i64 z.least, .int .i64 z.most]) (by simp [results, Tryd.results40, go_sem, c_r0, c_r1, c_r2]) rfl ⟨by rw [HM.out, ← HZ.out]; rfl, put3 (put3 hgW (by show _ ≤ w.heap.size + 1; omega) _ _ _) (by show _ ≤ w.heap.size + 2; omega) _ _ _⟩
    · cases b2
      · cases b3
        · go_wp2_with fail
          exact bodyPost_ret (v := .agg #[.bool true, .int .i64 al, .int .i64 am]) (by simp [results, Tryd.results40, go_sem]) rfl ⟨ret_le (by rw [many_no H1.out H2.out H3.out]; rfl) (by rw [many_no H1.out H2.out H3.out]; rfl) (by rw [many_no H1.out H2.out H3.out]; rfl), ((Gr.alloc _ _).trans (Gr.alloc _ _)).trans (Gr.alloc _ _)⟩
        · go_wp2_with fail
          go_at_call 39
          refine name_calls (fun W hW => ?_)
          obtain ⟨_, xl, xr, hgW, hsz⟩ : _ ∧ _ ∧ _ ∧ Gr w W ∧ W.heap.size = w.heap.size + 3 := by rw [hW]; exact bx3 w [.int .i64 mn, .int .i64 mx, .slice p n c] [.bool true, .int .i64 al, .int .i64 am] [.bool false, .int .i64 0, .int .i64 0] 94 33 33
          rw [← hW] at xl xr
          clear hW
          refine (alt_any ⟨true, al, am⟩ .zero W (by unfold small; dsimp only; omega) small_zero).mono ?_; rintro e' w2 ⟨rfl, hg⟩
          replace xl := xl.later hg
          replace xr := xr.later hg
          replace hgW := hgW.trans hg
          have hsw := hg.size
          have c_l0 := xl.cell 0 _ rfl
          have c_l1 := xl.cell 1 _ rfl
          have c_l2 := xl.cell 2 _ rfl
          have m_l0 := xl.mark 0 _ rfl
          have m_l1 := xl.mark 1 _ rfl
          have m_l2 := xl.mark 2 _ rfl
          have l_l := xl.lt (Nat.succ_pos _)
          have c_r0 := xr.cell 0 _ rfl
          have c_r1 := xr.cell 1 _ rfl
          have c_r2 := xr.cell 2 _ rfl
          have m_r0 := xr.mark 0 _ rfl
          have m_r1 := xr.mark 1 _ rfl
          have m_r2 := xr.mark 2 _ rfl
          have l_r := xr.lt (Nat.succ_pos _)
          have HM := Lib.hid (many_yes (al := al) (an := true) H1.out H2.out H3.out)
          obtain ⟨z, hz⟩ : ∃ z, altL ⟨true, al, am⟩ .zero = z := ⟨_, rfl⟩
          have HZ := Lib.hid hz
          simp only [hz]
          clear hz
          go_wp2_with fail
          exact bodyPost_ret (v := .agg #[.bool z.none, .int .i64 z.least, .int .i64 z.most]) (by simp [results, Tryd.results40, go_sem, c_r0, c_r1, c_r2]) rfl ⟨by rw [HM.out, ← HZ.out]; rfl, put3 (put3 hgW (by show _ ≤ w.heap.size + 1; omega) _ _ _) (by show _ ≤ w.heap.size + 2; omega) _ _ _⟩
      · cases b3
        · go_wp2_with fail
          exact bodyPost_ret (v := .agg #[.bool true, .int .i64 al, .int .i64 am]) (by simp [results, Tryd.results40, go_sem]) rfl ⟨ret_le (by rw [many_no H1.out H2.out H3.out]; rfl) (by rw [many_no H1.out H2.out H3.out]; rfl) (by rw [many_no H1.out H2.out H3.out]; rfl), ((Gr.alloc _ _).trans (Gr.alloc _ _)).trans (Gr.alloc _ _)⟩
        · go_wp2_with fail
          go_at_call 39
          refine name_calls (fun W hW => ?_)
          obtain ⟨_, xl, xr, hgW, hsz⟩ : _ ∧ _ ∧ _ ∧ Gr w W ∧ W.heap.size = w.heap.size + 3 := by rw [hW]; exact bx3 w [.int .i64 mn, .int .i64 mx, .slice p n c] [.bool true, .int .i64 al, .int .i64 am] [.bool false, .int .i64 0, .int .i64 0] 94 33 33
          rw [← hW] at xl xr
          clear hW
          refine (alt_any ⟨true, al, am⟩ .zero W (by unfold small; dsimp only; omega) small_zero).mono ?_; rintro e' w2 ⟨rfl, hg⟩
          replace xl := xl.later hg
          replace xr := xr.later hg
          replace hgW := hgW.trans hg
          have hsw := hg.size
          have c_l0 := xl.cell 0 _ rfl
          have c_l1 := xl.cell 1 _ rfl
          have c_l2 := xl.cell 2 _ rfl
          have m_l0 := xl.mark 0 _ rfl
          have m_l1 := xl.mark 1 _ rfl
          have m_l2 := xl.mark 2 _ rfl
          have l_l := xl.lt (Nat.succ_pos _)
          have c_r0 := xr.cell 0 _ rfl
          have c_r1 := xr.cell 1 _ rfl
          have c_r2 := xr.cell 2 _ rfl
          have m_r0 := xr.mark 0 _ rfl
          have m_r1 := xr.mark 1 _ rfl
          have m_r2 := xr.mark 2 _ rfl
          have l_r := xr.lt (Nat.succ_pos _)
          have HM := Lib.hid (many_yes (al := al) (an := true) H1.out H2.out H3.out)
          obtain ⟨z, hz⟩ : ∃ z, altL ⟨true, al, am⟩ .zero = z := ⟨_, rfl⟩
          have HZ := Lib.hid hz
          simp only [hz]
          clear hz
          go_wp2_with fail
          exact bodyPost_ret (v := .agg #[.bool z.none, .int .i64 z.least, .int .i64 z.most]) (by simp [results, Tryd.results40, go_sem, c_r0, c_r1, c_r2]) rfl ⟨by rw [HM.out, ← HZ.out]; rfl, put3 (put3 hgW (by show _ ≤ w.heap.size + 1; omega) _ _ _) (by show _ ≤ w.heap.size + 2; omega) _ _ _⟩

end Go.Proofs.YtpcmgkohebihmaaDoor
