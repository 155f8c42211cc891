/- class: named. No condition. Printed by gen_named.py. -/
import Derived.Test.YtihjmeoklbmnmaaDoorChar
namespace Go.Proofs.YtihjmeoklbmnmaaDoor
open Go Go.RowKit

theorem sl_alloc (w : World) (cs : List Value) (e : TypeId) (k n : Nat) (h : cs.length = n * k) (hn : n ≤ maxLen) : Sl (w.alloc (.cells cs.toArray e)) (.slice (some ⟨w.heap.size, 0, none⟩) n n) k n cs :=
  ⟨h, hn, .inr ⟨w.heap.size, 0, n, rfl, fun _ => by simp, fun j u hj => by rw [Nat.zero_add]; exact (boxAt.new cs e rfl j u hj).1⟩⟩

set_option maxRecDepth 100000 in
set_option maxHeartbeats 2000000 in
theorem named_digit (w : World) : Calls Tryd.prog 74 #[.string (st [100, 105, 103, 105, 116])] w fun e w' => e = .returned (.tuple #[.agg #[.int .u64 (wd digitS 0), .int .u64 (wd digitS 1), .int .u64 (wd digitS 2), .int .u64 (wd digitS 3)], .bool true]) ∧ Gr w w' := by
  have hst := st_list [100, 105, 103, 105, 116]
  go_enter Tryd.func74, Tryd.ntmps74
  go_wp2_with fail
  go_at_call 55
  refine name_calls (fun W0 hW => ?_)
  have xr : boxAt W0 w.heap.size [.int .u64 0, .int .u64 0, .int .u64 0, .int .u64 0] := boxAt.new _ _ hW
  have hgW : Gr w W0 := by rw [hW]; exact Gr.alloc _ _
  clear hW
  refine (digit_any W0).mono ?_; rintro e w_0 ⟨rfl, hb⟩
  have xr := xr.later hb
  replace hgW := hgW.trans hb
  clear hb
  have c_r0 := xr.cell 0 _ rfl
  have c_r1 := xr.cell 1 _ rfl
  have c_r2 := xr.cell 2 _ rfl
  have c_r3 := xr.cell 3 _ rfl
  have m_r0 := xr.mark 0 _ rfl
  have m_r1 := xr.mark 1 _ rfl
  have m_r2 := xr.mark 2 _ rfl
  have m_r3 := xr.mark 3 _ rfl
  have l_r := xr.lt (Nat.succ_pos _)
  go_wp2
  refine bodyPost_ret (v := .tuple #[.agg #[.int .u64 (wd digitS 0), .int .u64 (wd digitS 1), .int .u64 (wd digitS 2), .int .u64 (wd digitS 3)], .bool true]) (by simp [results, Tryd.results74, go_sem, c_r0, c_r1, c_r2, c_r3]) rfl ⟨rfl, ?_⟩
  exact Below.put4 hgW (Nat.le_refl _) _ _ _ _
set_option maxRecDepth 100000 in
set_option maxHeartbeats 2000000 in
theorem named_lower (w : World) : Calls Tryd.prog 74 #[.string (st [108, 111, 119, 101, 114])] w fun e w' => e = .returned (.tuple #[.agg #[.int .u64 (wd lowerS 0), .int .u64 (wd lowerS 1), .int .u64 (wd lowerS 2), .int .u64 (wd lowerS 3)], .bool true]) ∧ Gr w w' := by
  have hst := st_list [108, 111, 119, 101, 114]
  go_enter Tryd.func74, Tryd.ntmps74
  go_wp2_with fail
  go_at_call 56
  refine name_calls (fun W0 hW => ?_)
  have xr : boxAt W0 w.heap.size [.int .u64 0, .int .u64 0, .int .u64 0, .int .u64 0] := boxAt.new _ _ hW
  have hgW : Gr w W0 := by rw [hW]; exact Gr.alloc _ _
  clear hW
  refine (lower_any W0).mono ?_; rintro e w_0 ⟨rfl, hb⟩
  have xr := xr.later hb
  replace hgW := hgW.trans hb
  clear hb
  have c_r0 := xr.cell 0 _ rfl
  have c_r1 := xr.cell 1 _ rfl
  have c_r2 := xr.cell 2 _ rfl
  have c_r3 := xr.cell 3 _ rfl
  have m_r0 := xr.mark 0 _ rfl
  have m_r1 := xr.mark 1 _ rfl
  have m_r2 := xr.mark 2 _ rfl
  have m_r3 := xr.mark 3 _ rfl
  have l_r := xr.lt (Nat.succ_pos _)
  go_wp2
  refine bodyPost_ret (v := .tuple #[.agg #[.int .u64 (wd lowerS 0), .int .u64 (wd lowerS 1), .int .u64 (wd lowerS 2), .int .u64 (wd lowerS 3)], .bool true]) (by simp [results, Tryd.results74, go_sem, c_r0, c_r1, c_r2, c_r3]) rfl ⟨rfl, ?_⟩
  exact Below.put4 hgW (Nat.le_refl _) _ _ _ _
set_option maxRecDepth 100000 in
set_option maxHeartbeats 2000000 in
theorem named_upper (w : World) : Calls Tryd.prog 74 #[.string (st [117, 112, 112, 101, 114])] w fun e w' => e = .returned (.tuple #[.agg #[.int .u64 (wd upperS 0), .int .u64 (wd upperS 1), .int .u64 (wd upperS 2), .int .u64 (wd upperS 3)], .bool true]) ∧ Gr w w' := by
  have hst := st_list [117, 112, 112, 101, 114]
  go_enter Tryd.func74, Tryd.ntmps74
  go_wp2_with fail
  go_at_call 57
  refine name_calls (fun W0 hW => ?_)
  have xr : boxAt W0 w.heap.size [.int .u64 0, .int .u64 0, .int .u64 0, .int .u64 0] := boxAt.new _ _ hW
  have hgW : Gr w W0 := by rw [hW]; exact Gr.alloc _ _
  clear hW
  refine (upper_any W0).mono ?_; rintro e w_0 ⟨rfl, hb⟩
  have xr := xr.later hb
  replace hgW := hgW.trans hb
  clear hb
  have c_r0 := xr.cell 0 _ rfl
  have c_r1 := xr.cell 1 _ rfl
  have c_r2 := xr.cell 2 _ rfl
  have c_r3 := xr.cell 3 _ rfl
  have m_r0 := xr.mark 0 _ rfl
  have m_r1 := xr.mark 1 _ rfl
  have m_r2 := xr.mark 2 _ rfl
  have m_r3 := xr.mark 3 _ rfl
  have l_r := xr.lt (Nat.succ_pos _)
  go_wp2
  refine bodyPost_ret (v := .tuple #[.agg #[.int .u64 (wd upperS 0), .int .u64 (wd upperS 1), .int .u64 (wd upperS 2), .int .u64 (wd upperS 3)], .bool true]) (by simp [results, Tryd.results74, go_sem, c_r0, c_r1, c_r2, c_r3]) rfl ⟨rfl, ?_⟩
  exact Below.put4 hgW (Nat.le_refl _) _ _ _ _
set_option maxRecDepth 100000 in
set_option maxHeartbeats 2000000 in
theorem named_alpha (w : World) : Calls Tryd.prog 74 #[.string (st [97, 108, 112, 104, 97])] w fun e w' => e = .returned (.tuple #[.agg #[.int .u64 (wd (lowerS ||| upperS) 0), .int .u64 (wd (lowerS ||| upperS) 1), .int .u64 (wd (lowerS ||| upperS) 2), .int .u64 (wd (lowerS ||| upperS) 3)], .bool true]) ∧ Gr w w' := by
  have hst := st_list [97, 108, 112, 104, 97]
  go_enter Tryd.func74, Tryd.ntmps74
  go_wp2_with fail
  go_at_call 56
  refine name_calls (fun W0 hW => ?_)
  have xr : boxAt W0 w.heap.size [.int .u64 0, .int .u64 0, .int .u64 0, .int .u64 0] := boxAt.new _ _ hW
  have hgW : Gr w W0 := by rw [hW]; exact Gr.alloc _ _
  clear hW
  refine (lower_any W0).mono ?_; rintro e w_0 ⟨rfl, hb⟩
  have xr := xr.later hb
  replace hgW := hgW.trans hb
  clear hb
  go_wp2_with fail
  go_at_call 57
  refine name_calls (fun W1 hW => ?_)
  have hgi : Gr w_0 W1 := by rw [hW]; exact Gr.refl _
  have xr := xr.later hgi
  replace hgW := hgW.trans hgi
  clear hW
  refine (upper_any W1).mono ?_; rintro e w_1 ⟨rfl, hb⟩
  have xr := xr.later hb
  replace hgW := hgW.trans hb
  clear hb
  go_wp2_with fail
  go_at_call 15
  refine name_calls (fun W2 hW => ?_)
  have hgi : Gr w_1 W2 := by rw [hW]; exact Gr.refl _
  have xr := xr.later hgi
  replace hgW := hgW.trans hgi
  clear hW
  refine (union_any _ _ W2).mono ?_; rintro e w_2 ⟨rfl, hb⟩
  have xr := xr.later hb
  replace hgW := hgW.trans hb
  clear hb
  have c_r0 := xr.cell 0 _ rfl
  have c_r1 := xr.cell 1 _ rfl
  have c_r2 := xr.cell 2 _ rfl
  have c_r3 := xr.cell 3 _ rfl
  have m_r0 := xr.mark 0 _ rfl
  have m_r1 := xr.mark 1 _ rfl
  have m_r2 := xr.mark 2 _ rfl
  have m_r3 := xr.mark 3 _ rfl
  have l_r := xr.lt (Nat.succ_pos _)
  go_wp2
  refine bodyPost_ret (v := .tuple #[.agg #[.int .u64 (wd (lowerS ||| upperS) 0), .int .u64 (wd (lowerS ||| upperS) 1), .int .u64 (wd (lowerS ||| upperS) 2), .int .u64 (wd (lowerS ||| upperS) 3)], .bool true]) (by simp [results, Tryd.results74, go_sem, c_r0, c_r1, c_r2, c_r3]) rfl ⟨rfl, ?_⟩
  exact Below.put4 hgW (Nat.le_refl _) _ _ _ _
set_option maxRecDepth 100000 in
set_option maxHeartbeats 2000000 in
theorem named_alnum (w : World) : Calls Tryd.prog 74 #[.string (st [97, 108, 110, 117, 109])] w fun e w' => e = .returned (.tuple #[.agg #[.int .u64 (wd alnumS 0), .int .u64 (wd alnumS 1), .int .u64 (wd alnumS 2), .int .u64 (wd alnumS 3)], .bool true]) ∧ Gr w w' := by
  have hst := st_list [97, 108, 110, 117, 109]
  go_enter Tryd.func74, Tryd.ntmps74
  go_wp2_with fail
  go_at_call 46
  refine name_calls (fun W0 hW => ?_)
  have xr : boxAt W0 w.heap.size [.int .u64 0, .int .u64 0, .int .u64 0, .int .u64 0] := boxAt.new _ _ hW
  have hgW : Gr w W0 := by rw [hW]; exact Gr.alloc _ _
  clear hW
  refine (alnum_any W0).mono ?_; rintro e w_0 ⟨rfl, hb⟩
  have xr := xr.later hb
  replace hgW := hgW.trans hb
  clear hb
  have c_r0 := xr.cell 0 _ rfl
  have c_r1 := xr.cell 1 _ rfl
  have c_r2 := xr.cell 2 _ rfl
  have c_r3 := xr.cell 3 _ rfl
  have m_r0 := xr.mark 0 _ rfl
  have m_r1 := xr.mark 1 _ rfl
  have m_r2 := xr.mark 2 _ rfl
  have m_r3 := xr.mark 3 _ rfl
  have l_r := xr.lt (Nat.succ_pos _)
  go_wp2
  refine bodyPost_ret (v := .tuple #[.agg #[.int .u64 (wd alnumS 0), .int .u64 (wd alnumS 1), .int .u64 (wd alnumS 2), .int .u64 (wd alnumS 3)], .bool true]) (by simp [results, Tryd.results74, go_sem, c_r0, c_r1, c_r2, c_r3]) rfl ⟨rfl, ?_⟩
  exact Below.put4 hgW (Nat.le_refl _) _ _ _ _
set_option maxRecDepth 100000 in
set_option maxHeartbeats 2000000 in
theorem named_word (w : World) : Calls Tryd.prog 74 #[.string (st [119, 111, 114, 100])] w fun e w' => e = .returned (.tuple #[.agg #[.int .u64 (wd (alnumS ||| ofList [95]) 0), .int .u64 (wd (alnumS ||| ofList [95]) 1), .int .u64 (wd (alnumS ||| ofList [95]) 2), .int .u64 (wd (alnumS ||| ofList [95]) 3)], .bool true]) ∧ Gr w w' := by
  have hst := st_list [119, 111, 114, 100]
  go_enter Tryd.func74, Tryd.ntmps74
  go_wp2_with fail
  go_at_call 46
  refine name_calls (fun W0 hW => ?_)
  have xr : boxAt W0 w.heap.size [.int .u64 0, .int .u64 0, .int .u64 0, .int .u64 0] := boxAt.new _ _ hW
  have hgW : Gr w W0 := by rw [hW]; exact Gr.alloc _ _
  clear hW
  refine (alnum_any W0).mono ?_; rintro e w_0 ⟨rfl, hb⟩
  have xr := xr.later hb
  replace hgW := hgW.trans hb
  clear hb
  go_wp2_with fail
  go_at_call 19
  refine name_calls (fun W1 hW => ?_)
  have hgi : Gr w_0 W1 := by rw [hW]; exact Gr.alloc _ _
  have xr := xr.later hgi
  replace hgW := hgW.trans hgi
  have hsl : Sl W1 (.slice (some ⟨w_0.heap.size, 0, none⟩) 1 1) 1 1 (([95] : List UInt8).map vB) := by
    rw [hW]; have := sl_alloc w_0 (([95] : List UInt8).map vB) 5 1 1 rfl (by unfold maxLen; omega)
    rw [show w_0.heap.size = w_0.heap.size by simp] at this; exact this
  clear hW
  refine (of_is [95] (ofList [95]) _ W1 hsl rfl).mono ?_; rintro e w_1 ⟨rfl, hb⟩
  have xr := xr.later hb
  replace hgW := hgW.trans hb
  clear hb
  go_wp2_with fail
  go_at_call 15
  refine name_calls (fun W2 hW => ?_)
  have hgi : Gr w_1 W2 := by rw [hW]; exact Gr.refl _
  have xr := xr.later hgi
  replace hgW := hgW.trans hgi
  clear hW
  refine (union_any _ _ W2).mono ?_; rintro e w_2 ⟨rfl, hb⟩
  have xr := xr.later hb
  replace hgW := hgW.trans hb
  clear hb
  have c_r0 := xr.cell 0 _ rfl
  have c_r1 := xr.cell 1 _ rfl
  have c_r2 := xr.cell 2 _ rfl
  have c_r3 := xr.cell 3 _ rfl
  have m_r0 := xr.mark 0 _ rfl
  have m_r1 := xr.mark 1 _ rfl
  have m_r2 := xr.mark 2 _ rfl
  have m_r3 := xr.mark 3 _ rfl
  have l_r := xr.lt (Nat.succ_pos _)
  go_wp2
  refine bodyPost_ret (v := .tuple #[.agg #[.int .u64 (wd (alnumS ||| ofList [95]) 0), .int .u64 (wd (alnumS ||| ofList [95]) 1), .int .u64 (wd (alnumS ||| ofList [95]) 2), .int .u64 (wd (alnumS ||| ofList [95]) 3)], .bool true]) (by simp [results, Tryd.results74, go_sem, c_r0, c_r1, c_r2, c_r3]) rfl ⟨rfl, ?_⟩
  exact Below.put4 hgW (Nat.le_refl _) _ _ _ _
set_option maxRecDepth 100000 in
set_option maxHeartbeats 2000000 in
theorem named_xdigit (w : World) : Calls Tryd.prog 74 #[.string (st [120, 100, 105, 103, 105, 116])] w fun e w' => e = .returned (.tuple #[.agg #[.int .u64 (wd (ofSpans [(48, 57), (97, 102), (65, 70)]) 0), .int .u64 (wd (ofSpans [(48, 57), (97, 102), (65, 70)]) 1), .int .u64 (wd (ofSpans [(48, 57), (97, 102), (65, 70)]) 2), .int .u64 (wd (ofSpans [(48, 57), (97, 102), (65, 70)]) 3)], .bool true]) ∧ Gr w w' := by
  have hst := st_list [120, 100, 105, 103, 105, 116]
  go_enter Tryd.func74, Tryd.ntmps74
  go_wp2_with fail
  go_at_call 76
  refine name_calls (fun W0 hW => ?_)
  have xr : boxAt W0 w.heap.size [.int .u64 0, .int .u64 0, .int .u64 0, .int .u64 0] := by rw [hW]; exact (boxAt.new _ _ rfl).later (Gr.alloc _ _)
  have hgW : Gr w W0 := by rw [hW]; exact (Gr.alloc _ _).trans (Gr.alloc _ _)
  have hsl : Sl W0 (.slice (some ⟨w.heap.size + 1, 0, none⟩) 3 3) 2 3 (spsCells [(48, 57), (97, 102), (65, 70)]) := by
    rw [hW]; have := sl_alloc (w.alloc (.cells #[.int .u64 0, .int .u64 0, .int .u64 0, .int .u64 0] 29)) (spsCells [(48, 57), (97, 102), (65, 70)]) 53 2 3 rfl (by unfold maxLen; omega)
    rw [show (w.alloc (.cells #[.int .u64 0, .int .u64 0, .int .u64 0, .int .u64 0] 29)).heap.size = w.heap.size + 1 by simp] at this; exact this
  clear hW
  refine (ofSpans_is [(48, 57), (97, 102), (65, 70)] _ _ W0 hsl rfl).mono ?_; rintro e w_0 ⟨rfl, hb⟩
  have xr := xr.later hb
  replace hgW := hgW.trans hb
  clear hb
  have c_r0 := xr.cell 0 _ rfl
  have c_r1 := xr.cell 1 _ rfl
  have c_r2 := xr.cell 2 _ rfl
  have c_r3 := xr.cell 3 _ rfl
  have m_r0 := xr.mark 0 _ rfl
  have m_r1 := xr.mark 1 _ rfl
  have m_r2 := xr.mark 2 _ rfl
  have m_r3 := xr.mark 3 _ rfl
  have l_r := xr.lt (Nat.succ_pos _)
  go_wp2
  refine bodyPost_ret (v := .tuple #[.agg #[.int .u64 (wd (ofSpans [(48, 57), (97, 102), (65, 70)]) 0), .int .u64 (wd (ofSpans [(48, 57), (97, 102), (65, 70)]) 1), .int .u64 (wd (ofSpans [(48, 57), (97, 102), (65, 70)]) 2), .int .u64 (wd (ofSpans [(48, 57), (97, 102), (65, 70)]) 3)], .bool true]) (by simp [results, Tryd.results74, go_sem, c_r0, c_r1, c_r2, c_r3]) rfl ⟨rfl, ?_⟩
  exact Below.put4 hgW (Nat.le_refl _) _ _ _ _
set_option maxRecDepth 100000 in
set_option maxHeartbeats 2000000 in
theorem named_blank (w : World) : Calls Tryd.prog 74 #[.string (st [98, 108, 97, 110, 107])] w fun e w' => e = .returned (.tuple #[.agg #[.int .u64 (wd (ofList [32, 9]) 0), .int .u64 (wd (ofList [32, 9]) 1), .int .u64 (wd (ofList [32, 9]) 2), .int .u64 (wd (ofList [32, 9]) 3)], .bool true]) ∧ Gr w w' := by
  have hst := st_list [98, 108, 97, 110, 107]
  go_enter Tryd.func74, Tryd.ntmps74
  go_wp2_with fail
  go_at_call 19
  refine name_calls (fun W0 hW => ?_)
  have xr : boxAt W0 w.heap.size [.int .u64 0, .int .u64 0, .int .u64 0, .int .u64 0] := by rw [hW]; exact (boxAt.new _ _ rfl).later (Gr.alloc _ _)
  have hgW : Gr w W0 := by rw [hW]; exact (Gr.alloc _ _).trans (Gr.alloc _ _)
  have hsl : Sl W0 (.slice (some ⟨w.heap.size + 1, 0, none⟩) 2 2) 1 2 (([32, 9] : List UInt8).map vB) := by
    rw [hW]; have := sl_alloc (w.alloc (.cells #[.int .u64 0, .int .u64 0, .int .u64 0, .int .u64 0] 29)) (([32, 9] : List UInt8).map vB) 5 1 2 rfl (by unfold maxLen; omega)
    rw [show (w.alloc (.cells #[.int .u64 0, .int .u64 0, .int .u64 0, .int .u64 0] 29)).heap.size = w.heap.size + 1 by simp] at this; exact this
  clear hW
  refine (of_is [32, 9] (ofList [32, 9]) _ W0 hsl rfl).mono ?_; rintro e w_0 ⟨rfl, hb⟩
  have xr := xr.later hb
  replace hgW := hgW.trans hb
  clear hb
  have c_r0 := xr.cell 0 _ rfl
  have c_r1 := xr.cell 1 _ rfl
  have c_r2 := xr.cell 2 _ rfl
  have c_r3 := xr.cell 3 _ rfl
  have m_r0 := xr.mark 0 _ rfl
  have m_r1 := xr.mark 1 _ rfl
  have m_r2 := xr.mark 2 _ rfl
  have m_r3 := xr.mark 3 _ rfl
  have l_r := xr.lt (Nat.succ_pos _)
  go_wp2
  refine bodyPost_ret (v := .tuple #[.agg #[.int .u64 (wd (ofList [32, 9]) 0), .int .u64 (wd (ofList [32, 9]) 1), .int .u64 (wd (ofList [32, 9]) 2), .int .u64 (wd (ofList [32, 9]) 3)], .bool true]) (by simp [results, Tryd.results74, go_sem, c_r0, c_r1, c_r2, c_r3]) rfl ⟨rfl, ?_⟩
  exact Below.put4 hgW (Nat.le_refl _) _ _ _ _
set_option maxRecDepth 100000 in
set_option maxHeartbeats 2000000 in
theorem named_space (w : World) : Calls Tryd.prog 74 #[.string (st [115, 112, 97, 99, 101])] w fun e w' => e = .returned (.tuple #[.agg #[.int .u64 (wd (rangeSet 9 13 ||| ofList [32]) 0), .int .u64 (wd (rangeSet 9 13 ||| ofList [32]) 1), .int .u64 (wd (rangeSet 9 13 ||| ofList [32]) 2), .int .u64 (wd (rangeSet 9 13 ||| ofList [32]) 3)], .bool true]) ∧ Gr w w' := by
  have hst := st_list [115, 112, 97, 99, 101]
  go_enter Tryd.func74, Tryd.ntmps74
  go_wp2_with fail
  go_at_call 68
  refine name_calls (fun W0 hW => ?_)
  have xr : boxAt W0 w.heap.size [.int .u64 0, .int .u64 0, .int .u64 0, .int .u64 0] := boxAt.new _ _ hW
  have hgW : Gr w W0 := by rw [hW]; exact Gr.alloc _ _
  clear hW
  refine (range_any 9 13 W0 (by decide) (by decide)).mono ?_; rintro e w_0 ⟨rfl, hb⟩
  have xr := xr.later hb
  replace hgW := hgW.trans hb
  clear hb
  go_wp2_with fail
  go_at_call 19
  refine name_calls (fun W1 hW => ?_)
  have hgi : Gr w_0 W1 := by rw [hW]; exact Gr.alloc _ _
  have xr := xr.later hgi
  replace hgW := hgW.trans hgi
  have hsl : Sl W1 (.slice (some ⟨w_0.heap.size, 0, none⟩) 1 1) 1 1 (([32] : List UInt8).map vB) := by
    rw [hW]; have := sl_alloc w_0 (([32] : List UInt8).map vB) 5 1 1 rfl (by unfold maxLen; omega)
    rw [show w_0.heap.size = w_0.heap.size by simp] at this; exact this
  clear hW
  refine (of_is [32] (ofList [32]) _ W1 hsl rfl).mono ?_; rintro e w_1 ⟨rfl, hb⟩
  have xr := xr.later hb
  replace hgW := hgW.trans hb
  clear hb
  go_wp2_with fail
  go_at_call 15
  refine name_calls (fun W2 hW => ?_)
  have hgi : Gr w_1 W2 := by rw [hW]; exact Gr.refl _
  have xr := xr.later hgi
  replace hgW := hgW.trans hgi
  clear hW
  refine (union_any _ _ W2).mono ?_; rintro e w_2 ⟨rfl, hb⟩
  have xr := xr.later hb
  replace hgW := hgW.trans hb
  clear hb
  have c_r0 := xr.cell 0 _ rfl
  have c_r1 := xr.cell 1 _ rfl
  have c_r2 := xr.cell 2 _ rfl
  have c_r3 := xr.cell 3 _ rfl
  have m_r0 := xr.mark 0 _ rfl
  have m_r1 := xr.mark 1 _ rfl
  have m_r2 := xr.mark 2 _ rfl
  have m_r3 := xr.mark 3 _ rfl
  have l_r := xr.lt (Nat.succ_pos _)
  go_wp2
  refine bodyPost_ret (v := .tuple #[.agg #[.int .u64 (wd (rangeSet 9 13 ||| ofList [32]) 0), .int .u64 (wd (rangeSet 9 13 ||| ofList [32]) 1), .int .u64 (wd (rangeSet 9 13 ||| ofList [32]) 2), .int .u64 (wd (rangeSet 9 13 ||| ofList [32]) 3)], .bool true]) (by simp [results, Tryd.results74, go_sem, c_r0, c_r1, c_r2, c_r3]) rfl ⟨rfl, ?_⟩
  exact Below.put4 hgW (Nat.le_refl _) _ _ _ _
set_option maxRecDepth 100000 in
set_option maxHeartbeats 2000000 in
theorem named_punct (w : World) : Calls Tryd.prog 74 #[.string (st [112, 117, 110, 99, 116])] w fun e w' => e = .returned (.tuple #[.agg #[.int .u64 (wd (rangeSet 33 126 &&& ~~~alnumS) 0), .int .u64 (wd (rangeSet 33 126 &&& ~~~alnumS) 1), .int .u64 (wd (rangeSet 33 126 &&& ~~~alnumS) 2), .int .u64 (wd (rangeSet 33 126 &&& ~~~alnumS) 3)], .bool true]) ∧ Gr w w' := by
  have hst := st_list [112, 117, 110, 99, 116]
  go_enter Tryd.func74, Tryd.ntmps74
  go_wp2_with fail
  go_at_call 68
  refine name_calls (fun W0 hW => ?_)
  have xr : boxAt W0 w.heap.size [.int .u64 0, .int .u64 0, .int .u64 0, .int .u64 0] := boxAt.new _ _ hW
  have hgW : Gr w W0 := by rw [hW]; exact Gr.alloc _ _
  clear hW
  refine (range_any 33 126 W0 (by decide) (by decide)).mono ?_; rintro e w_0 ⟨rfl, hb⟩
  have xr := xr.later hb
  replace hgW := hgW.trans hb
  clear hb
  go_wp2_with fail
  go_at_call 46
  refine name_calls (fun W1 hW => ?_)
  have hgi : Gr w_0 W1 := by rw [hW]; exact Gr.refl _
  have xr := xr.later hgi
  replace hgW := hgW.trans hgi
  clear hW
  refine (alnum_any W1).mono ?_; rintro e w_1 ⟨rfl, hb⟩
  have xr := xr.later hb
  replace hgW := hgW.trans hb
  clear hb
  go_wp2_with fail
  go_at_call 17
  refine name_calls (fun W2 hW => ?_)
  have hgi : Gr w_1 W2 := by rw [hW]; exact Gr.refl _
  have xr := xr.later hgi
  replace hgW := hgW.trans hgi
  clear hW
  refine (minus_any _ _ W2).mono ?_; rintro e w_2 ⟨rfl, hb⟩
  have xr := xr.later hb
  replace hgW := hgW.trans hb
  clear hb
  have c_r0 := xr.cell 0 _ rfl
  have c_r1 := xr.cell 1 _ rfl
  have c_r2 := xr.cell 2 _ rfl
  have c_r3 := xr.cell 3 _ rfl
  have m_r0 := xr.mark 0 _ rfl
  have m_r1 := xr.mark 1 _ rfl
  have m_r2 := xr.mark 2 _ rfl
  have m_r3 := xr.mark 3 _ rfl
  have l_r := xr.lt (Nat.succ_pos _)
  go_wp2
  refine bodyPost_ret (v := .tuple #[.agg #[.int .u64 (wd (rangeSet 33 126 &&& ~~~alnumS) 0), .int .u64 (wd (rangeSet 33 126 &&& ~~~alnumS) 1), .int .u64 (wd (rangeSet 33 126 &&& ~~~alnumS) 2), .int .u64 (wd (rangeSet 33 126 &&& ~~~alnumS) 3)], .bool true]) (by simp [results, Tryd.results74, go_sem, c_r0, c_r1, c_r2, c_r3]) rfl ⟨rfl, ?_⟩
  exact Below.put4 hgW (Nat.le_refl _) _ _ _ _
set_option maxRecDepth 100000 in
set_option maxHeartbeats 2000000 in
theorem named_print (w : World) : Calls Tryd.prog 74 #[.string (st [112, 114, 105, 110, 116])] w fun e w' => e = .returned (.tuple #[.agg #[.int .u64 (wd (rangeSet 32 126) 0), .int .u64 (wd (rangeSet 32 126) 1), .int .u64 (wd (rangeSet 32 126) 2), .int .u64 (wd (rangeSet 32 126) 3)], .bool true]) ∧ Gr w w' := by
  have hst := st_list [112, 114, 105, 110, 116]
  go_enter Tryd.func74, Tryd.ntmps74
  go_wp2_with fail
  go_at_call 68
  refine name_calls (fun W0 hW => ?_)
  have xr : boxAt W0 w.heap.size [.int .u64 0, .int .u64 0, .int .u64 0, .int .u64 0] := boxAt.new _ _ hW
  have hgW : Gr w W0 := by rw [hW]; exact Gr.alloc _ _
  clear hW
  refine (range_any 32 126 W0 (by decide) (by decide)).mono ?_; rintro e w_0 ⟨rfl, hb⟩
  have xr := xr.later hb
  replace hgW := hgW.trans hb
  clear hb
  have c_r0 := xr.cell 0 _ rfl
  have c_r1 := xr.cell 1 _ rfl
  have c_r2 := xr.cell 2 _ rfl
  have c_r3 := xr.cell 3 _ rfl
  have m_r0 := xr.mark 0 _ rfl
  have m_r1 := xr.mark 1 _ rfl
  have m_r2 := xr.mark 2 _ rfl
  have m_r3 := xr.mark 3 _ rfl
  have l_r := xr.lt (Nat.succ_pos _)
  go_wp2
  refine bodyPost_ret (v := .tuple #[.agg #[.int .u64 (wd (rangeSet 32 126) 0), .int .u64 (wd (rangeSet 32 126) 1), .int .u64 (wd (rangeSet 32 126) 2), .int .u64 (wd (rangeSet 32 126) 3)], .bool true]) (by simp [results, Tryd.results74, go_sem, c_r0, c_r1, c_r2, c_r3]) rfl ⟨rfl, ?_⟩
  exact Below.put4 hgW (Nat.le_refl _) _ _ _ _
set_option maxRecDepth 100000 in
set_option maxHeartbeats 2000000 in
theorem named_cntrl (w : World) : Calls Tryd.prog 74 #[.string (st [99, 110, 116, 114, 108])] w fun e w' => e = .returned (.tuple #[.agg #[.int .u64 (wd (rangeSet 0 31 ||| ofList [127]) 0), .int .u64 (wd (rangeSet 0 31 ||| ofList [127]) 1), .int .u64 (wd (rangeSet 0 31 ||| ofList [127]) 2), .int .u64 (wd (rangeSet 0 31 ||| ofList [127]) 3)], .bool true]) ∧ Gr w w' := by
  have hst := st_list [99, 110, 116, 114, 108]
  go_enter Tryd.func74, Tryd.ntmps74
  go_wp2_with fail
  go_at_call 68
  refine name_calls (fun W0 hW => ?_)
  have xr : boxAt W0 w.heap.size [.int .u64 0, .int .u64 0, .int .u64 0, .int .u64 0] := boxAt.new _ _ hW
  have hgW : Gr w W0 := by rw [hW]; exact Gr.alloc _ _
  clear hW
  refine (range_any 0 31 W0 (by decide) (by decide)).mono ?_; rintro e w_0 ⟨rfl, hb⟩
  have xr := xr.later hb
  replace hgW := hgW.trans hb
  clear hb
  go_wp2_with fail
  go_at_call 19
  refine name_calls (fun W1 hW => ?_)
  have hgi : Gr w_0 W1 := by rw [hW]; exact Gr.alloc _ _
  have xr := xr.later hgi
  replace hgW := hgW.trans hgi
  have hsl : Sl W1 (.slice (some ⟨w_0.heap.size, 0, none⟩) 1 1) 1 1 (([127] : List UInt8).map vB) := by
    rw [hW]; have := sl_alloc w_0 (([127] : List UInt8).map vB) 5 1 1 rfl (by unfold maxLen; omega)
    rw [show w_0.heap.size = w_0.heap.size by simp] at this; exact this
  clear hW
  refine (of_is [127] (ofList [127]) _ W1 hsl rfl).mono ?_; rintro e w_1 ⟨rfl, hb⟩
  have xr := xr.later hb
  replace hgW := hgW.trans hb
  clear hb
  go_wp2_with fail
  go_at_call 15
  refine name_calls (fun W2 hW => ?_)
  have hgi : Gr w_1 W2 := by rw [hW]; exact Gr.refl _
  have xr := xr.later hgi
  replace hgW := hgW.trans hgi
  clear hW
  refine (union_any _ _ W2).mono ?_; rintro e w_2 ⟨rfl, hb⟩
  have xr := xr.later hb
  replace hgW := hgW.trans hb
  clear hb
  have c_r0 := xr.cell 0 _ rfl
  have c_r1 := xr.cell 1 _ rfl
  have c_r2 := xr.cell 2 _ rfl
  have c_r3 := xr.cell 3 _ rfl
  have m_r0 := xr.mark 0 _ rfl
  have m_r1 := xr.mark 1 _ rfl
  have m_r2 := xr.mark 2 _ rfl
  have m_r3 := xr.mark 3 _ rfl
  have l_r := xr.lt (Nat.succ_pos _)
  go_wp2
  refine bodyPost_ret (v := .tuple #[.agg #[.int .u64 (wd (rangeSet 0 31 ||| ofList [127]) 0), .int .u64 (wd (rangeSet 0 31 ||| ofList [127]) 1), .int .u64 (wd (rangeSet 0 31 ||| ofList [127]) 2), .int .u64 (wd (rangeSet 0 31 ||| ofList [127]) 3)], .bool true]) (by simp [results, Tryd.results74, go_sem, c_r0, c_r1, c_r2, c_r3]) rfl ⟨rfl, ?_⟩
  exact Below.put4 hgW (Nat.le_refl _) _ _ _ _
set_option maxRecDepth 100000 in
set_option maxHeartbeats 2000000 in
theorem named_any (w : World) : Calls Tryd.prog 74 #[.string (st [97, 110, 121])] w fun e w' => e = .returned (.tuple #[.agg #[.int .u64 (wd (~~~emptyS) 0), .int .u64 (wd (~~~emptyS) 1), .int .u64 (wd (~~~emptyS) 2), .int .u64 (wd (~~~emptyS) 3)], .bool true]) ∧ Gr w w' := by
  have hst := st_list [97, 110, 121]
  go_enter Tryd.func74, Tryd.ntmps74
  go_wp2_with fail
  go_at_call 77
  refine name_calls (fun W0 hW => ?_)
  have xr : boxAt W0 w.heap.size [.int .u64 0, .int .u64 0, .int .u64 0, .int .u64 0] := boxAt.new _ _ hW
  have hgW : Gr w W0 := by rw [hW]; exact Gr.alloc _ _
  clear hW
  refine (all_any W0).mono ?_; rintro e w_0 ⟨rfl, hb⟩
  have xr := xr.later hb
  replace hgW := hgW.trans hb
  clear hb
  have c_r0 := xr.cell 0 _ rfl
  have c_r1 := xr.cell 1 _ rfl
  have c_r2 := xr.cell 2 _ rfl
  have c_r3 := xr.cell 3 _ rfl
  have m_r0 := xr.mark 0 _ rfl
  have m_r1 := xr.mark 1 _ rfl
  have m_r2 := xr.mark 2 _ rfl
  have m_r3 := xr.mark 3 _ rfl
  have l_r := xr.lt (Nat.succ_pos _)
  go_wp2
  refine bodyPost_ret (v := .tuple #[.agg #[.int .u64 (wd (~~~emptyS) 0), .int .u64 (wd (~~~emptyS) 1), .int .u64 (wd (~~~emptyS) 2), .int .u64 (wd (~~~emptyS) 3)], .bool true]) (by simp [results, Tryd.results74, go_sem, c_r0, c_r1, c_r2, c_r3]) rfl ⟨rfl, ?_⟩
  exact Below.put4 hgW (Nat.le_refl _) _ _ _ _
set_option maxRecDepth 100000 in
set_option maxHeartbeats 2000000 in
theorem named_none (n : List UInt8) (w : World) (h_digit : (n == [100, 105, 103, 105, 116]) = false) (h_lower : (n == [108, 111, 119, 101, 114]) = false) (h_upper : (n == [117, 112, 112, 101, 114]) = false) (h_alpha : (n == [97, 108, 112, 104, 97]) = false) (h_alnum : (n == [97, 108, 110, 117, 109]) = false) (h_word : (n == [119, 111, 114, 100]) = false) (h_xdigit : (n == [120, 100, 105, 103, 105, 116]) = false) (h_blank : (n == [98, 108, 97, 110, 107]) = false) (h_space : (n == [115, 112, 97, 99, 101]) = false) (h_punct : (n == [112, 117, 110, 99, 116]) = false) (h_print : (n == [112, 114, 105, 110, 116]) = false) (h_cntrl : (n == [99, 110, 116, 114, 108]) = false) (h_any : (n == [97, 110, 121]) = false) : Calls Tryd.prog 74 #[.string (st n)] w fun e w' => e = .returned (.tuple #[.agg #[.int .u64 (wd emptyS 0), .int .u64 (wd emptyS 1), .int .u64 (wd emptyS 2), .int .u64 (wd emptyS 3)], .bool false]) ∧ Gr w w' := by
  have hst := st_list n
  go_enter Tryd.func74, Tryd.ntmps74
  go_wp2
  refine bodyPost_ret (v := .tuple #[.agg #[.int .u64 (wd emptyS 0), .int .u64 (wd emptyS 1), .int .u64 (wd emptyS 2), .int .u64 (wd emptyS 3)], .bool false]) (by simp [results, Tryd.results74, go_sem, wd_zero]) rfl ⟨rfl, ?_⟩
  exact Gr.alloc _ _
/-- What a name stands for. -/
theorem named_all (n : List UInt8) (w : World) : Calls Tryd.prog 74 #[.string (st n)] w fun e w' => (match namedS n with
    | some s => e = .returned (.tuple #[.agg #[.int .u64 (wd s 0), .int .u64 (wd s 1), .int .u64 (wd s 2), .int .u64 (wd s 3)], .bool true])
    | none => e = .returned (.tuple #[.agg #[.int .u64 (wd emptyS 0), .int .u64 (wd emptyS 1), .int .u64 (wd emptyS 2), .int .u64 (wd emptyS 3)], .bool false])) ∧ Gr w w' := by
  unfold namedS
  by_cases h_digit : n = [100, 105, 103, 105, 116]
  · rw [if_pos h_digit, h_digit]; exact named_digit w
  rw [if_neg h_digit]
  by_cases h_lower : n = [108, 111, 119, 101, 114]
  · rw [if_pos h_lower, h_lower]; exact named_lower w
  rw [if_neg h_lower]
  by_cases h_upper : n = [117, 112, 112, 101, 114]
  · rw [if_pos h_upper, h_upper]; exact named_upper w
  rw [if_neg h_upper]
  by_cases h_alpha : n = [97, 108, 112, 104, 97]
  · rw [if_pos h_alpha, h_alpha]; exact named_alpha w
  rw [if_neg h_alpha]
  by_cases h_alnum : n = [97, 108, 110, 117, 109]
  · rw [if_pos h_alnum, h_alnum]; exact named_alnum w
  rw [if_neg h_alnum]
  by_cases h_word : n = [119, 111, 114, 100]
  · rw [if_pos h_word, h_word]; exact named_word w
  rw [if_neg h_word]
  by_cases h_xdigit : n = [120, 100, 105, 103, 105, 116]
  · rw [if_pos h_xdigit, h_xdigit]; exact named_xdigit w
  rw [if_neg h_xdigit]
  by_cases h_blank : n = [98, 108, 97, 110, 107]
  · rw [if_pos h_blank, h_blank]; exact named_blank w
  rw [if_neg h_blank]
  by_cases h_space : n = [115, 112, 97, 99, 101]
  · rw [if_pos h_space, h_space]; exact named_space w
  rw [if_neg h_space]
  by_cases h_punct : n = [112, 117, 110, 99, 116]
  · rw [if_pos h_punct, h_punct]; exact named_punct w
  rw [if_neg h_punct]
  by_cases h_print : n = [112, 114, 105, 110, 116]
  · rw [if_pos h_print, h_print]; exact named_print w
  rw [if_neg h_print]
  by_cases h_cntrl : n = [99, 110, 116, 114, 108]
  · rw [if_pos h_cntrl, h_cntrl]; exact named_cntrl w
  rw [if_neg h_cntrl]
  by_cases h_any : n = [97, 110, 121]
  · rw [if_pos h_any, h_any]; exact named_any w
  rw [if_neg h_any]
  exact named_none n w (beq_false_of_ne h_digit) (beq_false_of_ne h_lower) (beq_false_of_ne h_upper) (beq_false_of_ne h_alpha) (beq_false_of_ne h_alnum) (beq_false_of_ne h_word) (beq_false_of_ne h_xdigit) (beq_false_of_ne h_blank) (beq_false_of_ne h_space) (beq_false_of_ne h_punct) (beq_false_of_ne h_print) (beq_false_of_ne h_cntrl) (beq_false_of_ne h_any)

end Go.Proofs.YtihjmeoklbmnmaaDoor
