/- bolterlaw17: the least tables, wakes. No condition but that the errors' variables hold them. -/
import Derived.Test.YtcbfmajojkcibaaDoorPImgQ
namespace Go.Proofs.YtcbfmajojkcibaaDoor
open Go Go.RowKit

theorem block_at {w W W' : World} (c : Array Value) (e : TypeId) (b : Nat) (hW : W = w.alloc (.cells c e)) (hb : b = w.heap.size) (hG : Gr W W') : W'.heap[b]? = some (.cells c e (0, 0)) := by
  rw [Below.block hG b (by rw [hW, hb]; simp), hW, hb]; exact heap_alloc_new w _
def leastT : Tb := ⟨[[115, 116, 97, 114, 116]], [], [], [], List.replicate 256 0, 1, [0], [-1], [0], [-1], [], []⟩
set_option maxRecDepth 100000 in
set_option maxHeartbeats 4000000 in
theorem least17_any (w : World) : Calls Tryd.prog 24 #[] w fun e w' => Gr w w' ∧ ∃ v, e = .returned (tbV leastT v) ∧ TbO w' w.heap.size leastT v := by
  have hmk : ∀ w, (Instr.makeSlice 23 (.int .i64 256) (.int .i64 256)).run Tryd.prog w = .ok (.slice (some ⟨w.heap.size, 0, none⟩) 256 256) (w.alloc (.cells (List.replicate 256 (.int .i64 0)).toArray 3)) := fun _ => by kernel_rfl
  obtain ⟨cs, hcs⟩ : ∃ cs, (List.replicate 256 (Value.int .i64 0)).toArray = cs := ⟨_, rfl⟩
  rw [hcs] at hmk
  have HCS := Lib.hid hcs
  clear hcs
  go_enter Tryd.func24, Tryd.ntmps24
  go_wp2_with fail
  refine name_endI (fun W hW => ?_)
  have hG : Gr w W := by
    rw [hW]
    exact (((((Gr.alloc _ _).trans (Gr.alloc _ _)).trans (Gr.alloc _ _)).trans (Gr.alloc _ _)).trans (Gr.alloc _ _)).trans (Gr.alloc _ _) |>.trans (Gr.alloc _ _)
  have xb : boxAt W w.heap.size [.slice (some ⟨w.heap.size + 1, 0, none⟩) 1 1, .slice none 0 0, .slice none 0 0, .slice none 0 0, .slice (some ⟨w.heap.size + 1 + 1, 0, none⟩) 256 256, .int .i64 1, .slice (some ⟨w.heap.size + 1 + 1 + 1, 0, none⟩) 1 1, .slice (some ⟨w.heap.size + 1 + 1 + 1 + 1, 0, none⟩) 1 1, .slice (some ⟨w.heap.size + 1 + 1 + 1 + 1 + 1, 0, none⟩) 1 1, .slice (some ⟨w.heap.size + 1 + 1 + 1 + 1 + 1 + 1, 0, none⟩) 1 1, .slice none 0 0, .slice none 0 0] := by
    rw [hW]
    exact ((((((boxAt.new_at [.slice (some ⟨w.heap.size + 1, 0, none⟩) 1 1, .slice none 0 0, .slice none 0 0, .slice none 0 0, .slice (some ⟨w.heap.size + 1 + 1, 0, none⟩) 256 256, .int .i64 1, .slice (some ⟨w.heap.size + 1 + 1 + 1, 0, none⟩) 1 1, .slice (some ⟨w.heap.size + 1 + 1 + 1 + 1, 0, none⟩) 1 1, .slice (some ⟨w.heap.size + 1 + 1 + 1 + 1 + 1, 0, none⟩) 1 1, .slice (some ⟨w.heap.size + 1 + 1 + 1 + 1 + 1 + 1, 0, none⟩) 1 1, .slice none 0 0, .slice none 0 0] _ _ rfl rfl).later (Gr.alloc _ _)).later (Gr.alloc _ _)).later (Gr.alloc _ _)).later (Gr.alloc _ _)).later (Gr.alloc _ _)).later (Gr.alloc _ _)
  have r1 : W.heap[(w.heap.size + 1)]? = some (.cells #[.string (st [115, 116, 97, 114, 116])] 9 (0, 0)) := by rw [hW]; exact block_at _ _ _ rfl (by simp) (((((Gr.alloc _ _).trans (Gr.alloc _ _)).trans (Gr.alloc _ _)).trans (Gr.alloc _ _)).trans (Gr.alloc _ _))
  have r2 : W.heap[(w.heap.size + 1 + 1)]? = some (.cells cs 3 (0, 0)) := by rw [hW]; exact block_at _ _ _ rfl (by simp) ((((Gr.alloc _ _).trans (Gr.alloc _ _)).trans (Gr.alloc _ _)).trans (Gr.alloc _ _))
  have r3 : W.heap[(w.heap.size + 1 + 1 + 1)]? = some (.cells #[.int .i64 0] 3 (0, 0)) := by rw [hW]; exact block_at _ _ _ rfl (by simp) (((Gr.alloc _ _).trans (Gr.alloc _ _)).trans (Gr.alloc _ _))
  have r4 : W.heap[(w.heap.size + 1 + 1 + 1 + 1)]? = some (.cells #[.int .i64 (-1)] 3 (0, 0)) := by rw [hW]; exact block_at _ _ _ rfl (by simp) ((Gr.alloc _ _).trans (Gr.alloc _ _))
  have r5 : W.heap[(w.heap.size + 1 + 1 + 1 + 1 + 1)]? = some (.cells #[.int .i64 0] 3 (0, 0)) := by rw [hW]; exact block_at _ _ _ rfl (by simp) (Gr.alloc _ _)
  have r6 : W.heap[(w.heap.size + 1 + 1 + 1 + 1 + 1 + 1)]? = some (.cells #[.int .i64 (-1)] 3 (0, 0)) := by rw [hW]; exact block_at _ _ _ rfl (by simp) (Gr.refl _)
  have hcl : cs.size = 256 := by rw [← HCS.out, List.size_toArray, List.length_replicate]
  have hT : TbO W w.heap.size leastT ⟨.slice (some ⟨w.heap.size + 1, 0, none⟩) 1 1, .slice none 0 0, .slice none 0 0, .slice none 0 0, [], .slice (some ⟨w.heap.size + 1 + 1, 0, none⟩) 256 256, .slice (some ⟨w.heap.size + 1 + 1 + 1, 0, none⟩) 1 1, .slice (some ⟨w.heap.size + 1 + 1 + 1 + 1, 0, none⟩) 1 1, .slice (some ⟨w.heap.size + 1 + 1 + 1 + 1 + 1, 0, none⟩) 1 1, .slice (some ⟨w.heap.size + 1 + 1 + 1 + 1 + 1 + 1, 0, none⟩) 1 1, .slice none 0 0, .slice none 0 0⟩ := by
    refine ⟨⟨fun r hr => ?_, ?_, fun r hr g hg hm => (by cases hm)⟩, rfl⟩
    · simp only [rowsOf, leastT, actRows, List.append_nil, List.mem_cons, List.not_mem_nil, or_false] at hr
      rcases hr with rfl | rfl | rfl | rfl | rfl | rfl | rfl | rfl | rfl | rfl | rfl
      · exact ⟨rfl, .inr ⟨_, 1, _, rfl, by omega, r1, by simp, by decide, rfl, rfl⟩⟩
      · exact World.ownsRow_nil ..
      · exact World.ownsRow_nil ..
      · exact World.ownsRow_nil ..
      · refine ⟨by simp, .inr ⟨_, 256, cs, by simp, by omega, r2, by simp, by decide, by rw [hcl]; rfl, ?_⟩⟩
        rw [← HCS.out]
        simp [vI]
      · exact ⟨rfl, .inr ⟨_, 1, _, rfl, by omega, r3, by simp, by decide, rfl, rfl⟩⟩
      · exact ⟨rfl, .inr ⟨_, 1, _, rfl, by omega, r4, by simp, by decide, rfl, rfl⟩⟩
      · exact ⟨rfl, .inr ⟨_, 1, _, rfl, by omega, r5, by simp, by decide, rfl, rfl⟩⟩
      · exact ⟨rfl, .inr ⟨_, 1, _, rfl, by omega, r6, by simp, by decide, rfl, rfl⟩⟩
      · exact World.ownsRow_nil ..
      · exact World.ownsRow_nil ..
    · simp [rowsOf, leastT, actRows, Value.ownBlock]
      omega
  have HT := Lib.hid hT
  have HG := Lib.hid hG
  clear hT hG hW r1 r2 r3 r4 r5 r6 hcl
  have c_e0 := xb.cell 0 _ rfl
  have c_e1 := xb.cell 1 _ rfl
  have c_e2 := xb.cell 2 _ rfl
  have c_e3 := xb.cell 3 _ rfl
  have c_e4 := xb.cell 4 _ rfl
  have c_e5 := xb.cell 5 _ rfl
  have c_e6 := xb.cell 6 _ rfl
  have c_e7 := xb.cell 7 _ rfl
  have c_e8 := xb.cell 8 _ rfl
  have c_e9 := xb.cell 9 _ rfl
  have c_e10 := xb.cell 10 _ rfl
  have c_e11 := xb.cell 11 _ rfl
  have m_e0 := xb.mark 0 _ rfl
  have m_e1 := xb.mark 1 _ rfl
  have m_e2 := xb.mark 2 _ rfl
  have m_e3 := xb.mark 3 _ rfl
  have m_e4 := xb.mark 4 _ rfl
  have m_e5 := xb.mark 5 _ rfl
  have m_e6 := xb.mark 6 _ rfl
  have m_e7 := xb.mark 7 _ rfl
  have m_e8 := xb.mark 8 _ rfl
  have m_e9 := xb.mark 9 _ rfl
  have m_e10 := xb.mark 10 _ rfl
  have m_e11 := xb.mark 11 _ rfl
  have l_e := xb.lt (Nat.succ_pos _)
  refine bodyPost_ret (v := .agg #[.slice (some ⟨w.heap.size + 1, 0, none⟩) 1 1, .slice none 0 0, .slice none 0 0, .slice none 0 0, .slice (some ⟨w.heap.size + 1 + 1, 0, none⟩) 256 256, .int .i64 1, .slice (some ⟨w.heap.size + 1 + 1 + 1, 0, none⟩) 1 1, .slice (some ⟨w.heap.size + 1 + 1 + 1 + 1, 0, none⟩) 1 1, .slice (some ⟨w.heap.size + 1 + 1 + 1 + 1 + 1, 0, none⟩) 1 1, .slice (some ⟨w.heap.size + 1 + 1 + 1 + 1 + 1 + 1, 0, none⟩) 1 1, .slice none 0 0, .slice none 0 0]) (by simp [results, Tryd.results24, go_sem, c_e0, c_e1, c_e2, c_e3, c_e4, c_e5, c_e6, c_e7, c_e8, c_e9, c_e10, c_e11]) rfl ?_
  exact ⟨HG.out, _, rfl, HT.out⟩

end Go.Proofs.YtcbfmajojkcibaaDoor
