/- Range. -/
import Derived.Test.YtihjmeoklbmnmaaDoorRange
import Derived.Test.YtihjmeoklbmnmaaDoorRegion
namespace Go.Proofs.YtihjmeoklbmnmaaDoor
open Go.RowKit

set_option maxRecDepth 100000 in
set_option maxHeartbeats 400000 in
theorem minus_any (s t : BitVec 256) (w : World) :
    Calls Tryd.prog 17 #[.agg #[.int .u64 (wd s 0), .int .u64 (wd s 1), .int .u64 (wd s 2), .int .u64 (wd s 3)], .agg #[.int .u64 (wd t 0), .int .u64 (wd t 1), .int .u64 (wd t 2), .int .u64 (wd t 3)]] w fun e w' => e = .returned (.agg #[.int .u64 (wd ((s &&& ~~~t)) 0), .int .u64 (wd ((s &&& ~~~t)) 1), .int .u64 (wd ((s &&& ~~~t)) 2), .int .u64 (wd ((s &&& ~~~t)) 3)]) ∧ Below w.heap.size w w' := by
  go_enter Tryd.func17, Tryd.ntmps17
  go_wp2
  refine name_world (fun W hW => ?_)
  have hz : W.heap.size = w.heap.size + 3 := by subst hW; simp
  have c_s0 : W.cell? ⟨w.heap.size, 0, none⟩ = some (.int .u64 (wd (s) 0)) := by subst hW; go_simp
  have c_s1 : W.cell? ⟨w.heap.size, 1, none⟩ = some (.int .u64 (wd (s) 1)) := by subst hW; go_simp
  have c_s2 : W.cell? ⟨w.heap.size, 2, none⟩ = some (.int .u64 (wd (s) 2)) := by subst hW; go_simp
  have c_s3 : W.cell? ⟨w.heap.size, 3, none⟩ = some (.int .u64 (wd (s) 3)) := by subst hW; go_simp
  have m_s0 : W.frozen? ⟨w.heap.size, 0, none⟩ = false := by subst hW; go_simp
  have m_s1 : W.frozen? ⟨w.heap.size, 1, none⟩ = false := by subst hW; go_simp
  have m_s2 : W.frozen? ⟨w.heap.size, 2, none⟩ = false := by subst hW; go_simp
  have m_s3 : W.frozen? ⟨w.heap.size, 3, none⟩ = false := by subst hW; go_simp
  have c_t0 : W.cell? ⟨w.heap.size + 1, 0, none⟩ = some (.int .u64 (wd (t) 0)) := by subst hW; go_simp
  have c_t1 : W.cell? ⟨w.heap.size + 1, 1, none⟩ = some (.int .u64 (wd (t) 1)) := by subst hW; go_simp
  have c_t2 : W.cell? ⟨w.heap.size + 1, 2, none⟩ = some (.int .u64 (wd (t) 2)) := by subst hW; go_simp
  have c_t3 : W.cell? ⟨w.heap.size + 1, 3, none⟩ = some (.int .u64 (wd (t) 3)) := by subst hW; go_simp
  have m_t0 : W.frozen? ⟨w.heap.size + 1, 0, none⟩ = false := by subst hW; go_simp
  have m_t1 : W.frozen? ⟨w.heap.size + 1, 1, none⟩ = false := by subst hW; go_simp
  have m_t2 : W.frozen? ⟨w.heap.size + 1, 2, none⟩ = false := by subst hW; go_simp
  have m_t3 : W.frozen? ⟨w.heap.size + 1, 3, none⟩ = false := by subst hW; go_simp
  have c_r0 : W.cell? ⟨w.heap.size + 1 + 1, 0, none⟩ = some (.int .u64 0) := by subst hW; go_simp
  have c_r1 : W.cell? ⟨w.heap.size + 1 + 1, 1, none⟩ = some (.int .u64 0) := by subst hW; go_simp
  have c_r2 : W.cell? ⟨w.heap.size + 1 + 1, 2, none⟩ = some (.int .u64 0) := by subst hW; go_simp
  have c_r3 : W.cell? ⟨w.heap.size + 1 + 1, 3, none⟩ = some (.int .u64 0) := by subst hW; go_simp
  have m_r0 : W.frozen? ⟨w.heap.size + 1 + 1, 0, none⟩ = false := by subst hW; go_simp
  have m_r1 : W.frozen? ⟨w.heap.size + 1 + 1, 1, none⟩ = false := by subst hW; go_simp
  have m_r2 : W.frozen? ⟨w.heap.size + 1 + 1, 2, none⟩ = false := by subst hW; go_simp
  have m_r3 : W.frozen? ⟨w.heap.size + 1 + 1, 3, none⟩ = false := by subst hW; go_simp
  have hb0 : Below w.heap.size w W := by subst hW; exact (((Below.refl _ _).alloc (Nat.le_refl _) _).alloc (by simp) _).alloc (by simp; omega) _
  clear hW
  refine wp_region_G (.take 0 (.take 1 (.run 2 false (.run 3 false (.run 4 true .nil))))) (by kernel_rfl) (by kernel_rfl) ?_
  simp only [pickOps, nthOp]
  intro wq hG
  repeat (first | (refine wpG_skip_take ?_ ?_; (focus rfl); try simp only [Act.put, List.setIfInBounds_toArray, List.set_cons_zero, List.set_cons_succ]) | (refine wpG_skip_run ?_ ?_; (focus rfl); try simp only [Act.put, List.setIfInBounds_toArray, List.set_cons_zero, List.set_cons_succ]) | (refine wpG_take ?_ ?_; (focus rfl); apply Exists.intro; refine ⟨fun w' hw' => ?_, ?_⟩; (focus (have hc := Gr.cells hw'; go_simp; (try rfl); done)); try simp only [Act.put, List.setIfInBounds_toArray, List.set_cons_zero, List.set_cons_succ]) | (refine wpG_run ?_ (fun K hK => ?_); (focus rfl); go_simp; (first | (go_at_call 14; refine (complement_any _ _).mono ?_; rintro e w' ⟨rfl, hb⟩) | (go_at_call 16; refine (inter_any _ _ _).mono ?_; rintro e w' ⟨rfl, hb⟩)); (try dsimp only); replace hG := hG.trans hb; refine hK.out _ _ hG ?_; clear hK K hb; try simp only [Act.put, List.setIfInBounds_toArray, List.set_cons_zero, List.set_cons_succ]))
  rename_i w2
  refine wpG_last ?_ (fun K hK => ?_); (focus rfl)
  have hc := hG.cells
  have hm := hG.marks
  go_simp
  refine hK.out _ _ ?_
  try simp only [Act.put, List.setIfInBounds_toArray, List.set_cons_zero, List.set_cons_succ]
  clear hK K hc hm
  refine wpG_done ?_
  go_wp2
  refine bodyPost_ret (v := .agg #[.int .u64 (wd ((s &&& ~~~t)) 0), .int .u64 (wd ((s &&& ~~~t)) 1), .int .u64 (wd ((s &&& ~~~t)) 2), .int .u64 (wd ((s &&& ~~~t)) 3)]) (by have hc := hG.cells; simp [results, Tryd.results17, go_sem, hc, hz, c_r0, c_r1, c_r2, c_r3]) rfl ⟨rfl, ?_⟩
  exact ((((hb0.trans (Below.mono hG (by omega))).setCell (by simp; omega) _).setCell (by simp; omega) _).setCell (by simp; omega) _).setCell (by simp; omega) _

end Go.Proofs.YtihjmeoklbmnmaaDoor

