/- image.Decode: what is deferred. No condition. -/
import Derived.Test.YtcbfmajojkcibaaDoorPImgM
import Derived.Defers
import Derived.Recover
namespace Go.Proofs.YtcbfmajojkcibaaDoor
open Go Go.RowKit

theorem as_refusal (w : World) : (Instr.typeAssert refusalV 20 88 true).run Tryd.prog w = .ok (.tuple #[.agg #[], .bool true]) w := by kernel_rfl
theorem as_nothing (w : World) : (Instr.typeAssert .nilIface 20 88 true).run Tryd.prog w = .ok (.tuple #[.agg #[], .bool false]) w := by kernel_rfl
theorem build_tables (w : World) : (Instr.build 30 #[]).run Tryd.prog w = .ok (.agg #[.slice none 0 0, .slice none 0 0, .slice none 0 0, .slice none 0 0, .slice none 0 0, .int .i64 0, .slice none 0 0, .slice none 0 0, .slice none 0 0, .slice none 0 0, .slice none 0 0, .slice none 0 0]) w := by kernel_rfl

/-- All blocks but these two are as they were. -/
def zeroTb : List Value := [.slice none 0 0, .slice none 0 0, .slice none 0 0, .slice none 0 0, .slice none 0 0, .int .i64 0, .slice none 0 0, .slice none 0 0, .slice none 0 0, .slice none 0 0, .slice none 0 0, .slice none 0 0]
structure Kp2 (a b : Nat) (w w' : World) : Prop where
  os : w'.os = w.os
  tape : w'.tape = w.tape
  output : w'.output = w.output
  size : w.heap.size ≤ w'.heap.size
  block : ∀ k, k < w.heap.size → k ≠ a → k ≠ b → w'.heap[k]? = w.heap[k]?

set_option maxRecDepth 100000 in
set_option maxHeartbeats 4000000 in
theorem catch_refusal (a b : Nat) (vs : List Value) (e0 : Value) (te : TypeId) (ye : Value) (w : World) (hv : vs.length = 12) (xa : boxAt w a vs) (xb : boxAt w b [e0]) (hab : a ≠ b) (hg : w.cell? ⟨1, 0, none⟩ = some (.iface te ye)) :
    CallsD Tryd.prog 53 #[.pointer (some ⟨a, 0, none⟩), .pointer (some ⟨b, 0, none⟩)] (.panicking [{ v := refusalV, recovered := false }]) w fun e u' w' =>
      e = .returned (.tuple #[]) ∧ u' = .panicking [{ v := refusalV, recovered := true }] ∧ boxAt w' a zeroTb ∧ boxAt w' b [.iface te ye] ∧ Kp2 a b w w' := by
  refine callsD_of_wpS Tryd.func53 rfl fun c₀ cs hu => ?_
  apply wpS_seq
  apply wpS_region
  simp [wpOpsS, go_sem, recoverD, hu, Tryd.ntmps53, Exit.thenS, as_refusal]
  apply wpS_seq
  apply wpS_region
  simp [wpOpsS, go_sem, Exit.thenS]
  refine wpS_cond (t := true) (by simp [Act.eval, Array.replicate]) ?_
  simp only [if_true]
  obtain ⟨u0, u1, u2, u3, u4, u5, u6, u7, u8, u9, u10, u11, rfl⟩ : ∃ u0 u1 u2 u3 u4 u5 u6 u7 u8 u9 u10 u11, vs = [u0, u1, u2, u3, u4, u5, u6, u7, u8, u9, u10, u11] := by
    match vs, hv with
    | [u0, u1, u2, u3, u4, u5, u6, u7, u8, u9, u10, u11], _ => exact ⟨u0, u1, u2, u3, u4, u5, u6, u7, u8, u9, u10, u11, rfl⟩
  obtain ⟨W1, hW1⟩ : ∃ W1, W1 = w.alloc (.cells #[] 88) := ⟨_, rfl⟩
  have hG : Gr w W1 := by rw [hW1]; exact Gr.alloc _ _
  rw [← hW1]
  have ya := xa.later hG
  have yb := xb.later hG
  have yg := hG.cell hg
  have c_e0 := ya.cell 0 _ rfl
  have c_e1 := ya.cell 1 _ rfl
  have c_e2 := ya.cell 2 _ rfl
  have c_e3 := ya.cell 3 _ rfl
  have c_e4 := ya.cell 4 _ rfl
  have c_e5 := ya.cell 5 _ rfl
  have c_e6 := ya.cell 6 _ rfl
  have c_e7 := ya.cell 7 _ rfl
  have c_e8 := ya.cell 8 _ rfl
  have c_e9 := ya.cell 9 _ rfl
  have c_e10 := ya.cell 10 _ rfl
  have c_e11 := ya.cell 11 _ rfl
  have m_e0 := ya.mark 0 _ rfl
  have m_e1 := ya.mark 1 _ rfl
  have m_e2 := ya.mark 2 _ rfl
  have m_e3 := ya.mark 3 _ rfl
  have m_e4 := ya.mark 4 _ rfl
  have m_e5 := ya.mark 5 _ rfl
  have m_e6 := ya.mark 6 _ rfl
  have m_e7 := ya.mark 7 _ rfl
  have m_e8 := ya.mark 8 _ rfl
  have m_e9 := ya.mark 9 _ rfl
  have m_e10 := ya.mark 10 _ rfl
  have m_e11 := ya.mark 11 _ rfl
  have l_e := ya.lt (Nat.succ_pos _)
  have c_f0 := yb.cell 0 _ rfl
  have m_f0 := yb.mark 0 _ rfl
  have l_f := yb.lt (Nat.succ_pos _)
  apply wpS_region
  have hbt := build_tables
  simp [wpOpsS, go_sem, yg, c_e0, m_e0, c_e1, m_e1, c_e2, m_e2, c_e3, m_e3, c_e4, m_e4, c_e5, m_e5, c_e6, m_e6, c_e7, m_e7, c_e8, m_e8, c_e9, m_e9, c_e10, m_e10, c_e11, m_e11, c_f0, m_f0, hab, bodyPostS, results, Tryd.results53]
  obtain ⟨W2, hW2⟩ : ∃ W2, W2 = (((((((((((((W1.setCell ⟨a, 0, none⟩ (.slice none 0 0)).setCell ⟨a, 1, none⟩ (.slice none 0 0)).setCell ⟨a, 2, none⟩ (.slice none 0 0)).setCell ⟨a, 3, none⟩ (.slice none 0 0)).setCell ⟨a, 4, none⟩ (.slice none 0 0)).setCell ⟨a, 5, none⟩ (.int .i64 0)).setCell ⟨a, 6, none⟩ (.slice none 0 0)).setCell ⟨a, 7, none⟩ (.slice none 0 0)).setCell ⟨a, 8, none⟩ (.slice none 0 0)).setCell ⟨a, 9, none⟩ (.slice none 0 0)).setCell ⟨a, 10, none⟩ (.slice none 0 0)).setCell ⟨a, 11, none⟩ (.slice none 0 0)).setCell ⟨b, 0, none⟩ (.iface te ye)) := ⟨_, rfl⟩
  rw [← hW2]
  have hblk : ∀ j, j ≠ a → j ≠ b → W2.heap[j]? = W1.heap[j]? := fun j h1 h2 => by
    rw [hW2, Below.heap_setCell _ _ _ j (by exact h2)]
    iterate 12 rw [Below.heap_setCell _ _ _ j (by exact h1)]
  have hsz : W2.heap.size = W1.heap.size := by rw [hW2]; simp [World.setCell]
  have hos : W2.os = W1.os ∧ W2.tape = W1.tape ∧ W2.output = W1.output := by rw [hW2]; simp only [setCell_os, setCell_tape, setCell_output]; exact ⟨trivial, trivial, trivial⟩
  refine ⟨?_, ?_, ⟨hos.1.trans hG.os, hos.2.1.trans hG.tape, hos.2.2.trans hG.output, by rw [hsz]; exact hG.size, fun k hk h1 h2 => (hblk k h1 h2).trans (Below.block hG k hk)⟩⟩
  · rw [hW2]; exact (((((((((((((ya.put 0 _ (by simp)).put 1 _ (by simp)).put 2 _ (by simp)).put 3 _ (by simp)).put 4 _ (by simp)).put 5 _ (by simp)).put 6 _ (by simp)).put 7 _ (by simp)).put 8 _ (by simp)).put 9 _ (by simp)).put 10 _ (by simp)).put 11 _ (by simp))).far _ _ (Ne.symm hab)
  · rw [hW2]; exact (((((((((((((yb.far ⟨a, 0, none⟩ _ hab).far ⟨a, 1, none⟩ _ hab).far ⟨a, 2, none⟩ _ hab).far ⟨a, 3, none⟩ _ hab).far ⟨a, 4, none⟩ _ hab).far ⟨a, 5, none⟩ _ hab).far ⟨a, 6, none⟩ _ hab).far ⟨a, 7, none⟩ _ hab).far ⟨a, 8, none⟩ _ hab).far ⟨a, 9, none⟩ _ hab).far ⟨a, 10, none⟩ _ hab).far ⟨a, 11, none⟩ _ hab)).put 0 _ (by simp)

set_option maxRecDepth 100000 in
set_option maxHeartbeats 4000000 in
theorem catch_nothing (a b : Nat) (w : World) :
    CallsD Tryd.prog 53 #[.pointer (some ⟨a, 0, none⟩), .pointer (some ⟨b, 0, none⟩)] .returning w fun e u' w' => e = .returned (.tuple #[]) ∧ u' = .returning ∧ Gr w w' := by
  refine callsD_of_wpS Tryd.func53 rfl fun c₀ cs hu => ?_
  apply wpS_seq
  apply wpS_region
  simp [wpOpsS, go_sem, recoverD, hu, Tryd.ntmps53, Exit.thenS, as_nothing]
  apply wpS_seq
  apply wpS_region
  simp [wpOpsS, go_sem, Exit.thenS]
  refine wpS_cond (t := false) (by simp [Act.eval, Array.replicate]) ?_
  simp only [Bool.false_eq_true, if_false]
  refine wpS_of_wp (wp_skip ?_)
  cases c₀
  simp_all [bodyPostS, results, Tryd.results53]
  exact Gr.alloc _ _

end Go.Proofs.YtcbfmajojkcibaaDoor
