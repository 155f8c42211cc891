/- bolterref17.Encode of tables that may not be. No condition but bounds of lengths. -/
import Derived.Test.YtcbfmajojkcibaaDoorPIrE
import Derived.Test.YtcbfmajojkcibaaDoorPImgT
namespace Go.Proofs.YtcbfmajojkcibaaDoor
open Go Go.RowKit

set_option maxRecDepth 100000 in
set_option maxHeartbeats 4000000 in
theorem enc17_bad (t : Tb) (v : TbV) (w : World) (h : TbIn w t v) (hfit : ∀ s, s ∈ t.base → -9223372036854775808 ≤ s ∧ s ≤ 9223372036854775807) (hm : mayB t = false) :
    Calls Tryd.prog 9 #[tbV t v] w fun e w' => e = .returned (.tuple #[.slice none 0 0, .agg #[.int .i64 15, .int .i64 0, .int .i64 0, .int .i64 0, .slice none 0 0]]) ∧ Gr w w' := by
  have HC := Lib.hid (fun w' (hg : Gr w w') => hm ▸ may17_any t v w' (h.later hg) hfit)
  unfold tbV at HC ⊢
  obtain ⟨pm, cm, em⟩ := h.modes.len
  obtain ⟨pl, cl, el⟩ := h.labels.len
  obtain ⟨pc, cc, ec⟩ := h.cuts.len
  obtain ⟨pa, ca, ea⟩ := h.acts.len
  obtain ⟨pk, ck, ek⟩ := h.classes.len
  obtain ⟨ps, cs, es⟩ := h.starts.len
  obtain ⟨pb, cb, eb⟩ := h.label.len
  obtain ⟨p1, c1, e1⟩ := h.base.len
  obtain ⟨p2, c2, e2⟩ := h.dflt.len
  obtain ⟨p3, c3, e3⟩ := h.next.len
  obtain ⟨p4, c4, e4⟩ := h.check.len
  rw [em, el, ec, ea, ek, es, eb, e1, e2, e3, e4] at HC ⊢
  clear h em el ec ea ek es eb e1 e2 e3 e4 hm hfit
  go_enter Tryd.func9, Tryd.ntmps9
  go_wp2_with fail
  go_at_call 12
  refine name_calls (fun W1 hW => ?_)
  have xf : boxAt W1 (w.heap.size + 1) [.int .i64 0, .int .i64 0, .int .i64 0, .int .i64 0, .slice none 0 0] := by rw [hW]; exact boxAt.new_at _ _ _ rfl (by simp)
  have hg : Gr w W1 := by rw [hW]; exact (Gr.alloc _ _).trans (Gr.alloc _ _)
  clear hW
  (with_reducible refine (HC.out W1 hg).mono ?_); rintro r w2 ⟨rfl, hb⟩
  replace hg := hg.trans hb
  replace xf := xf.later hb
  clear hb
  go_wp2_with fail
  go_at_call 25
  (with_reducible refine (is17_any 15 w2).mono ?_); rintro e w3 ⟨rfl, hb⟩
  replace hg := hg.trans hb
  replace xf := xf.later hb
  clear hb
  have c_g0 := xf.cell 0 _ rfl
  have c_g1 := xf.cell 1 _ rfl
  have c_g2 := xf.cell 2 _ rfl
  have c_g3 := xf.cell 3 _ rfl
  have c_g4 := xf.cell 4 _ rfl
  have m_g0 := xf.mark 0 _ rfl
  have m_g1 := xf.mark 1 _ rfl
  have m_g2 := xf.mark 2 _ rfl
  have m_g3 := xf.mark 3 _ rfl
  have m_g4 := xf.mark 4 _ rfl
  have l_g := xf.lt (Nat.succ_pos _)
  go_wp2_with fail
  clear c_g0 c_g1 c_g2 c_g3 c_g4 m_g0 m_g1 m_g2 m_g3 m_g4 l_g
  refine name_endI (fun W hW => ?_)
  have xg : boxAt W (w.heap.size + 1) [.int .i64 15, .int .i64 0, .int .i64 0, .int .i64 0, .slice none 0 0] := by
    rw [hW]
    exact ((((xf.put 0 _ (by decide)).put 1 _ (by decide)).put 2 _ (by decide)).put 3 _ (by decide)).put 4 _ (by decide)
  have hgW : Gr w W := by
    rw [hW]
    exact Below.setCell (Below.setCell (Below.setCell (Below.setCell (Below.setCell hg (Nat.le_succ _) _) (Nat.le_succ _) _) (Nat.le_succ _) _) (Nat.le_succ _) _) (Nat.le_succ _) _
  have HGW := Lib.hid hgW
  clear hW hgW xf
  have c_g0 := xg.cell 0 _ rfl
  have c_g1 := xg.cell 1 _ rfl
  have c_g2 := xg.cell 2 _ rfl
  have c_g3 := xg.cell 3 _ rfl
  have c_g4 := xg.cell 4 _ rfl
  have m_g0 := xg.mark 0 _ rfl
  have m_g1 := xg.mark 1 _ rfl
  have m_g2 := xg.mark 2 _ rfl
  have m_g3 := xg.mark 3 _ rfl
  have m_g4 := xg.mark 4 _ rfl
  have l_g := xg.lt (Nat.succ_pos _)
  refine bodyPost_ret (v := .tuple #[.slice none 0 0, .agg #[.int .i64 15, .int .i64 0, .int .i64 0, .int .i64 0, .slice none 0 0]]) (by simp [results, Tryd.results9, go_sem, c_g0, c_g1, c_g2, c_g3, c_g4]) rfl ⟨rfl, HGW.out⟩

end Go.Proofs.YtcbfmajojkcibaaDoor
