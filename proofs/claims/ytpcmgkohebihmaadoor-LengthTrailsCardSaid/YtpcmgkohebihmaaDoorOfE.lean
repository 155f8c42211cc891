/- of of length. -/
import Derived.Test.YtpcmgkohebihmaaDoorFold
namespace Go.Proofs.YtpcmgkohebihmaaDoor
open Go Go.RowKit

theorem parts_set (s : BitVec 256) (w : World) : Calls Tryd.prog 78 #[.agg #[.int .u64 (wd s 0), .int .u64 (wd s 1), .int .u64 (wd s 2), .int .u64 (wd s 3)]] w fun e w' => e = .returned (.slice none 0 0) ∧ Gr w w' := by
  go_enter Tryd.func78, Tryd.ntmps78
  go_wp2_with fail
  go_ret
  exact ⟨rfl, (by first | exact Gr.refl _ | exact Gr.alloc _ _)⟩
@[go_sem] theorem method_set (s : BitVec 256) (w : World) : (method 285 86 (.agg #[.int .u64 (wd s 0), .int .u64 (wd s 1), .int .u64 (wd s 2), .int .u64 (wd s 3)]) "bolter/length.parts").run Tryd.prog w = .ok (78, .agg #[.int .u64 (wd s 0), .int .u64 (wd s 1), .int .u64 (wd s 2), .int .u64 (wd s 3)]) w := by kernel_rfl
theorem parts_cat (p : Option Addr) (n c : Nat) (w : World) : Calls Tryd.prog 79 #[.agg #[.slice p n c]] w fun e w' => e = .returned (.slice p n c) ∧ Gr w w' := by
  go_enter Tryd.func79, Tryd.ntmps79
  go_wp2_with fail
  go_ret
  exact ⟨rfl, (by first | exact Gr.refl _ | exact Gr.alloc _ _)⟩
@[go_sem] theorem method_cat (p : Option Addr) (n c : Nat) (w : World) : (method 285 89 (.agg #[.slice p n c]) "bolter/length.parts").run Tryd.prog w = .ok (79, .agg #[.slice p n c]) w := by kernel_rfl
theorem parts_alt (p : Option Addr) (n c : Nat) (w : World) : Calls Tryd.prog 80 #[.agg #[.slice p n c]] w fun e w' => e = .returned (.slice p n c) ∧ Gr w w' := by
  go_enter Tryd.func80, Tryd.ntmps80
  go_wp2_with fail
  go_ret
  exact ⟨rfl, (by first | exact Gr.refl _ | exact Gr.alloc _ _)⟩
@[go_sem] theorem method_alt (p : Option Addr) (n c : Nat) (w : World) : (method 285 92 (.agg #[.slice p n c]) "bolter/length.parts").run Tryd.prog w = .ok (80, .agg #[.slice p n c]) w := by kernel_rfl
theorem parts_rep (mn mx : Int) (p : Option Addr) (n c : Nat) (w : World) : Calls Tryd.prog 81 #[.agg #[.int .i64 mn, .int .i64 mx, .slice p n c]] w fun e w' => e = .returned (.slice p n c) ∧ Gr w w' := by
  go_enter Tryd.func81, Tryd.ntmps81
  go_wp2_with fail
  go_ret
  exact ⟨rfl, (by first | exact Gr.refl _ | exact Gr.alloc _ _)⟩
@[go_sem] theorem method_rep (mn mx : Int) (p : Option Addr) (n c : Nat) (w : World) : (method 285 94 (.agg #[.int .i64 mn, .int .i64 mx, .slice p n c]) "bolter/length.parts").run Tryd.prog w = .ok (81, .agg #[.int .i64 mn, .int .i64 mx, .slice p n c]) w := by kernel_rfl
theorem parts_none (w : World) : Calls Tryd.prog 90 #[.agg #[]] w fun e w' => e = .returned (.slice none 0 0) ∧ Gr w w' := by
  go_enter Tryd.func90, Tryd.ntmps90
  go_wp2_with fail
  go_ret
  exact ⟨rfl, (by first | exact Gr.refl _ | exact Gr.alloc _ _)⟩
@[go_sem] theorem method_none (w : World) : (method 285 118 (.agg #[]) "bolter/length.parts").run Tryd.prog w = .ok (90, .agg #[]) w := by kernel_rfl
@[go_sem] theorem ta_set_set (x : Value) (w : World) : (Instr.typeAssert (.iface 86 x) 81 86 true).run Tryd.prog w = .ok (.tuple #[x, .bool true]) w := by kernel_rfl
@[go_sem] theorem ta_set_cat (x : Value) (w : World) : (Instr.typeAssert (.iface 86 x) 81 89 true).run Tryd.prog w = .ok (.tuple #[.agg #[.slice none 0 0], .bool false]) w := by kernel_rfl
@[go_sem] theorem ta_set_alt (x : Value) (w : World) : (Instr.typeAssert (.iface 86 x) 81 92 true).run Tryd.prog w = .ok (.tuple #[.agg #[.slice none 0 0], .bool false]) w := by kernel_rfl
@[go_sem] theorem ta_set_rep (x : Value) (w : World) : (Instr.typeAssert (.iface 86 x) 81 94 true).run Tryd.prog w = .ok (.tuple #[.agg #[.int .i64 0, .int .i64 0, .slice none 0 0], .bool false]) w := by kernel_rfl
@[go_sem] theorem ta_cat_set (x : Value) (w : World) : (Instr.typeAssert (.iface 89 x) 81 86 true).run Tryd.prog w = .ok (.tuple #[.agg #[.int .u64 0, .int .u64 0, .int .u64 0, .int .u64 0], .bool false]) w := by kernel_rfl
@[go_sem] theorem ta_cat_cat (x : Value) (w : World) : (Instr.typeAssert (.iface 89 x) 81 89 true).run Tryd.prog w = .ok (.tuple #[x, .bool true]) w := by kernel_rfl
@[go_sem] theorem ta_cat_alt (x : Value) (w : World) : (Instr.typeAssert (.iface 89 x) 81 92 true).run Tryd.prog w = .ok (.tuple #[.agg #[.slice none 0 0], .bool false]) w := by kernel_rfl
@[go_sem] theorem ta_cat_rep (x : Value) (w : World) : (Instr.typeAssert (.iface 89 x) 81 94 true).run Tryd.prog w = .ok (.tuple #[.agg #[.int .i64 0, .int .i64 0, .slice none 0 0], .bool false]) w := by kernel_rfl
@[go_sem] theorem ta_alt_set (x : Value) (w : World) : (Instr.typeAssert (.iface 92 x) 81 86 true).run Tryd.prog w = .ok (.tuple #[.agg #[.int .u64 0, .int .u64 0, .int .u64 0, .int .u64 0], .bool false]) w := by kernel_rfl
@[go_sem] theorem ta_alt_cat (x : Value) (w : World) : (Instr.typeAssert (.iface 92 x) 81 89 true).run Tryd.prog w = .ok (.tuple #[.agg #[.slice none 0 0], .bool false]) w := by kernel_rfl
@[go_sem] theorem ta_alt_alt (x : Value) (w : World) : (Instr.typeAssert (.iface 92 x) 81 92 true).run Tryd.prog w = .ok (.tuple #[x, .bool true]) w := by kernel_rfl
@[go_sem] theorem ta_alt_rep (x : Value) (w : World) : (Instr.typeAssert (.iface 92 x) 81 94 true).run Tryd.prog w = .ok (.tuple #[.agg #[.int .i64 0, .int .i64 0, .slice none 0 0], .bool false]) w := by kernel_rfl
@[go_sem] theorem ta_rep_set (x : Value) (w : World) : (Instr.typeAssert (.iface 94 x) 81 86 true).run Tryd.prog w = .ok (.tuple #[.agg #[.int .u64 0, .int .u64 0, .int .u64 0, .int .u64 0], .bool false]) w := by kernel_rfl
@[go_sem] theorem ta_rep_cat (x : Value) (w : World) : (Instr.typeAssert (.iface 94 x) 81 89 true).run Tryd.prog w = .ok (.tuple #[.agg #[.slice none 0 0], .bool false]) w := by kernel_rfl
@[go_sem] theorem ta_rep_alt (x : Value) (w : World) : (Instr.typeAssert (.iface 94 x) 81 92 true).run Tryd.prog w = .ok (.tuple #[.agg #[.slice none 0 0], .bool false]) w := by kernel_rfl
@[go_sem] theorem ta_rep_rep (x : Value) (w : World) : (Instr.typeAssert (.iface 94 x) 81 94 true).run Tryd.prog w = .ok (.tuple #[x, .bool true]) w := by kernel_rfl
@[go_sem] theorem ta_none_set (x : Value) (w : World) : (Instr.typeAssert (.iface 118 x) 81 86 true).run Tryd.prog w = .ok (.tuple #[.agg #[.int .u64 0, .int .u64 0, .int .u64 0, .int .u64 0], .bool false]) w := by kernel_rfl
@[go_sem] theorem ta_none_cat (x : Value) (w : World) : (Instr.typeAssert (.iface 118 x) 81 89 true).run Tryd.prog w = .ok (.tuple #[.agg #[.slice none 0 0], .bool false]) w := by kernel_rfl
@[go_sem] theorem ta_none_alt (x : Value) (w : World) : (Instr.typeAssert (.iface 118 x) 81 92 true).run Tryd.prog w = .ok (.tuple #[.agg #[.slice none 0 0], .bool false]) w := by kernel_rfl
@[go_sem] theorem ta_none_rep (x : Value) (w : World) : (Instr.typeAssert (.iface 118 x) 81 94 true).run Tryd.prog w = .ok (.tuple #[.agg #[.int .i64 0, .int .i64 0, .slice none 0 0], .bool false]) w := by kernel_rfl

set_option maxRecDepth 100000 in
set_option maxHeartbeats 4000000 in
theorem of_set (pos : Int) (s : BitVec 256) (text : ByteArray) (mn mx : Int) (p : Option Addr) (n c : Nat) (w : World) (b : Bool) (hb : (s == emptyS) = b) :
    Calls Tryd.prog 22 #[.agg #[.int .i64 2, .int .i64 pos, .int .u64 (wd s 0), .int .u64 (wd s 1), .int .u64 (wd s 2), .int .u64 (wd s 3), .string text, .int .i64 mn, .int .i64 mx, (.slice p n c)]] w fun e w' => e = .returned (.agg #[.bool (if b then Le.no else ⟨false, 1, 1⟩).none, .int .i64 (if b then Le.no else ⟨false, 1, 1⟩).least, .int .i64 (if b then Le.no else ⟨false, 1, 1⟩).most]) ∧ Gr w w' := by
  go_enter Tryd.func22, Tryd.ntmps22
  go_wp2_with fail
  go_at_call 35
  refine name_calls (fun W hW => ?_)
  obtain ⟨xe, xr, hgW, hsz⟩ : _ ∧ _ ∧ Gr w W ∧ W.heap.size = w.heap.size + 2 := by rw [hW]; exact bx2 w [.int .i64 2, .int .i64 pos, .int .u64 (wd s 0), .int .u64 (wd s 1), .int .u64 (wd s 2), .int .u64 (wd s 3), .string text, .int .i64 mn, .int .i64 mx, (.slice p n c)] [.bool false, .int .i64 0, .int .i64 0] 27 33
  rw [← hW] at xe xr
  clear hW
  refine (formed_set pos s text mn mx p n c W).mono ?_; rintro e' w1 ⟨rfl, hg⟩
  go_wp2_with fail
  go_at_call 78
  replace xe := xe.later hg
  replace xr := xr.later hg
  replace hgW := hgW.trans hg
  have hsz1 : w.heap.size + 2 ≤ w1.heap.size := by have := hg.size; omega
  clear hg hsz
  refine (parts_set s w1).mono ?_; rintro e' w2 ⟨rfl, hg⟩
  replace xe := xe.later hg
  replace xr := xr.later hg
  replace hgW := hgW.trans hg
  have hsz2 : w.heap.size + 2 ≤ w2.heap.size := by have := hg.size; omega
  clear hg hsz1
  go_wp2_with fail
  refine wp_loop_rounds 1 ?_
  rw [rounds_succ]
  have c_r0 := xr.cell 0 _ rfl
  have c_r1 := xr.cell 1 _ rfl
  have c_r2 := xr.cell 2 _ rfl
  have m_r0 := xr.mark 0 _ rfl
  have m_r1 := xr.mark 1 _ rfl
  have m_r2 := xr.mark 2 _ rfl
  have l_r := xr.lt (Nat.succ_pos _)
  cases b
  · go_wp2_with fail
    have z := (((xr.put 0 (.bool false) (by simp)).put 1 (.int .i64 1) (by simp)).put 2 (.int .i64 1) (by simp)).later (Gr.alloc _ (.cells #[.int .u64 (wd s 0), .int .u64 (wd s 1), .int .u64 (wd s 2), .int .u64 (wd s 3)] 86))
    exact bodyPost_ret (v := .agg #[.bool false, .int .i64 1, .int .i64 1]) (by simp [results, Tryd.results22, go_sem, z.cell 0 _ rfl, z.cell 1 _ rfl, z.cell 2 _ rfl]) rfl ⟨rfl, Gr.trans (put3 hgW (by omega) _ _ _) (Gr.alloc _ _)⟩
  · go_wp2_with fail
    clear c_r0 c_r1 c_r2 m_r0 m_r1 m_r2 l_r
    go_at_call 36
    refine name_calls (fun W3 hW3 => ?_)
    have hg3 : Gr w2 W3 := by rw [hW3]; exact Gr.alloc _ _
    clear hW3
    refine (none_any W3).mono ?_; rintro e' w4 ⟨rfl, hg⟩
    replace hg3 := hg3.trans hg
    replace xr := xr.later hg3
    have hsw := hg3.size
    have c_r0 := xr.cell 0 _ rfl
    have c_r1 := xr.cell 1 _ rfl
    have c_r2 := xr.cell 2 _ rfl
    have m_r0 := xr.mark 0 _ rfl
    have m_r1 := xr.mark 1 _ rfl
    have m_r2 := xr.mark 2 _ rfl
    have l_r := xr.lt (Nat.succ_pos _)
    unfold Le.no
    go_wp2_with fail
    exact bodyPost_ret (v := .agg #[.bool true, .int .i64 0, .int .i64 0]) (by simp [results, Tryd.results22, go_sem, c_r0, c_r1, c_r2]) rfl ⟨rfl, put3 (hgW.trans hg3) (by omega) _ _ _⟩

end Go.Proofs.YtpcmgkohebihmaaDoor
