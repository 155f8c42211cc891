/- bolterlaw17: wakes. No condition but that the errors' variables hold them. -/
import Derived.Test.YtcbfmajojkcibaaDoorPImgT
namespace Go.Proofs.YtcbfmajojkcibaaDoor
open Go Go.RowKit

theorem Sl.new3I (a b c : UInt8) (w W : World) (hW : W = w.alloc (.cells #[vB a, vB b, vB c] 5)) : Sl W (.slice (some ⟨w.heap.size, 0, none⟩) 3 3) 1 3 [vB a, vB b, vB c] :=
  ⟨rfl, by unfold maxLen; omega, .inr ⟨_, _, _, rfl, fun _ => by subst hW; simp, fun j u hj => by
    have := (boxAt.new (w := w) (W := W) [vB a, vB b, vB c] 5 hW).cell j u hj
    rw [Nat.zero_add]; exact this⟩⟩

set_option maxRecDepth 100000 in
set_option maxHeartbeats 8000000 in
theorem wakes17_any (w : World) (s : Nat → Addr) (hF : FaultsIn w s) : Calls Tryd.prog 17 #[] w fun e w' => e = .returned (.bool true) ∧ Gr w w' := by
  have HF := Lib.hid hF
  clear hF
  go_enter Tryd.func17, Tryd.ntmps17
  go_wp2_with fail
  go_at_call 24
  (with_reducible refine (least17_any w).mono ?_); rintro e w1 ⟨hg1, v, rfl, hT1⟩
  have HE1 := Lib.hid (encI_ok leastT v w1 (hT1.tabs least_txt) least_fit may_least)
  unfold tbV at HE1 ⊢
  dsimp only at HE1 ⊢
  go_wp2_with fail
  go_at_call 10
  (with_reducible refine HE1.out.mono ?_); rintro e w2 ⟨ub, rfl, hob, hg2⟩
  clear HE1
  have hnl := len_least
  have hcap := hob.cap
  have hsl := Sl.of_owns hob
  obtain ⟨pb, cb, rfl⟩ := hsl.len
  have hroom := hcap _ _ _ rfl
  replace hg2 := hg1.trans hg2
  have HD1 := Lib.hid (decode_any w2 pb cb (encT leastT) s (HF.out.later hg2) hsl (by omega) hroom)
  rw [hnl] at HD1 ⊢
  clear hcap hsl hob hroom hT1 hg1
  go_wp2_with fail
  go_at_call 19
  (with_reducible refine HD1.out.mono ?_); rintro e w3 ⟨hg3, hE3⟩
  rw [dec_enc may_least 2 3 255 (by omega) (by omega) (by omega)] at hE3
  obtain ⟨v3, rfl, hT3⟩ := hE3
  replace hg3 := hg2.trans hg3
  clear HD1 hg2
  have hi3 := hT3.tabs least_txt
  have HI3 := Lib.hid hi3
  obtain ⟨v0, v1, v2, v3, vr, v4, v5, v6, v7, v8, v9, v10⟩ := v3
  obtain ⟨p0, c0, rfl⟩ : ∃ p c, v0 = .slice p 1 c := HI3.out.modes.len
  obtain ⟨p1, c1, rfl⟩ : ∃ p c, v1 = .slice p 0 c := HI3.out.labels.len
  obtain ⟨p2, c2, rfl⟩ : ∃ p c, v2 = .slice p 0 c := HI3.out.cuts.len
  obtain ⟨p3, c3, rfl⟩ : ∃ p c, v3 = .slice p 0 c := HI3.out.acts.len
  obtain ⟨p4, c4, rfl⟩ : ∃ p c, v4 = .slice p 256 c := HI3.out.classes.len
  obtain ⟨p5, c5, rfl⟩ : ∃ p c, v5 = .slice p 1 c := HI3.out.starts.len
  obtain ⟨p6, c6, rfl⟩ : ∃ p c, v6 = .slice p 1 c := HI3.out.label.len
  obtain ⟨p7, c7, rfl⟩ : ∃ p c, v7 = .slice p 1 c := HI3.out.base.len
  obtain ⟨p8, c8, rfl⟩ : ∃ p c, v8 = .slice p 1 c := HI3.out.dflt.len
  obtain ⟨p9, c9, rfl⟩ : ∃ p c, v9 = .slice p 0 c := HI3.out.next.len
  obtain ⟨p10, c10, rfl⟩ : ∃ p c, v10 = .slice p 0 c := HI3.out.check.len
  clear hT3 hi3
  unfold tbV
  dsimp only
  rw [show leastT.count = 1 from rfl]
  have hsh : ((w3.alloc (.cells #[.slice p0 1 c0, .slice p1 0 c1, .slice p2 0 c2, .slice p3 0 c3, .slice p4 256 c4, .int .i64 1, .slice p5 1 c5, .slice p6 1 c6, .slice p7 1 c7, .slice p8 1 c8, .slice p9 0 c9, .slice p10 0 c10] 30)).alloc (.cells #[.int .u8 66, .int .u8 76, .int .u8 84] 5)).shape? (w3.heap.size + 1) = some (5, 3) := by
    have := shape_new (w := w3.alloc (.cells #[.slice p0 1 c0, .slice p1 0 c1, .slice p2 0 c2, .slice p3 0 c3, .slice p4 256 c4, .int .i64 1, .slice p5 1 c5, .slice p6 1 c6, .slice p7 1 c7, .slice p8 1 c8, .slice p9 0 c9, .slice p10 0 c10] 30)) (C := #[.int .u8 66, .int .u8 76, .int .u8 84]) (e := 5) rfl
    rw [show (w3.alloc (.cells #[.slice p0 1 c0, .slice p1 0 c1, .slice p2 0 c2, .slice p3 0 c3, .slice p4 256 c4, .int .i64 1, .slice p5 1 c5, .slice p6 1 c6, .slice p7 1 c7, .slice p8 1 c8, .slice p9 0 c9, .slice p10 0 c10] 30)).heap.size = w3.heap.size + 1 by simp] at this
    exact this
  have hcv := run_convert_bytes_same (P := Tryd.prog) _ 32 5 _ 3 3 _ _ Tryd.underlying32 Tryd.underlying5 hsh
  clear hsh
  go_wp2_with fail
  refine name_calls (fun W4 hW4 => ?_)
  have hgB : Gr w3 ((w3.alloc (.cells #[.slice p0 1 c0, .slice p1 0 c1, .slice p2 0 c2, .slice p3 0 c3, .slice p4 256 c4, .int .i64 1, .slice p5 1 c5, .slice p6 1 c6, .slice p7 1 c7, .slice p8 1 c8, .slice p9 0 c9, .slice p10 0 c10] 30)).alloc (.cells #[.int .u8 66, .int .u8 76, .int .u8 84] 5)) := (Gr.alloc _ _).trans (Gr.alloc _ _)
  have hg4 : Gr w3 W4 := by rw [hW4]; exact hgB.freeze _ _ (by show w3.heap.size ≤ w3.heap.size + 1; omega)
  have hs4 : Sl W4 (.slice (some ⟨w3.heap.size + 1, 0, none⟩) 3 3) 1 3 (([66, 76, 84] : List UInt8).map vB) := by
    have := (Sl.new3I 66 76 84 (w3.alloc (.cells #[.slice p0 1 c0, .slice p1 0 c1, .slice p2 0 c2, .slice p3 0 c3, .slice p4 256 c4, .int .i64 1, .slice p5 1 c5, .slice p6 1 c6, .slice p7 1 c7, .slice p8 1 c8, .slice p9 0 c9, .slice p10 0 c10] 30)) _ rfl).freeze ⟨w3.heap.size + 1, 3, none⟩ 1
    rw [show (w3.alloc (.cells #[.slice p0 1 c0, .slice p1 0 c1, .slice p2 0 c2, .slice p3 0 c3, .slice p4 256 c4, .int .i64 1, .slice p5 1 c5, .slice p6 1 c6, .slice p7 1 c7, .slice p8 1 c8, .slice p9 0 c9, .slice p10 0 c10] 30)).heap.size = w3.heap.size + 1 by simp] at this
    rw [hW4]; exact this
  have x4 : boxAt W4 w3.heap.size [.slice p0 1 c0, .slice p1 0 c1, .slice p2 0 c2, .slice p3 0 c3, .slice p4 256 c4, .int .i64 1, .slice p5 1 c5, .slice p6 1 c6, .slice p7 1 c7, .slice p8 1 c8, .slice p9 0 c9, .slice p10 0 c10] := by
    rw [hW4]
    have h1 : boxAt ((w3.alloc (.cells #[.slice p0 1 c0, .slice p1 0 c1, .slice p2 0 c2, .slice p3 0 c3, .slice p4 256 c4, .int .i64 1, .slice p5 1 c5, .slice p6 1 c6, .slice p7 1 c7, .slice p8 1 c8, .slice p9 0 c9, .slice p10 0 c10] 30)).alloc (.cells #[.int .u8 66, .int .u8 76, .int .u8 84] 5)) w3.heap.size [.slice p0 1 c0, .slice p1 0 c1, .slice p2 0 c2, .slice p3 0 c3, .slice p4 256 c4, .int .i64 1, .slice p5 1 c5, .slice p6 1 c6, .slice p7 1 c7, .slice p8 1 c8, .slice p9 0 c9, .slice p10 0 c10] := (boxAt.new_at [.slice p0 1 c0, .slice p1 0 c1, .slice p2 0 c2, .slice p3 0 c3, .slice p4 256 c4, .int .i64 1, .slice p5 1 c5, .slice p6 1 c6, .slice p7 1 c7, .slice p8 1 c8, .slice p9 0 c9, .slice p10 0 c10] _ _ rfl rfl).later (Gr.alloc _ _)
    exact h1.heap (freeze_heap _ _ _ _ (by show w3.heap.size ≠ w3.heap.size + 1; omega))
  have HD2 := Lib.hid (decode_any W4 _ 3 [66, 76, 84] s (HF.out.later (hg3.trans hg4)) hs4 (by decide) (by decide))
  rw [show ([66, 76, 84] : List UInt8).length = 3 from rfl] at HD2
  clear hcv hW4 hgB hs4
  go_at_call 19
  (with_reducible refine HD2.out.mono ?_); rintro e w5 ⟨hg5, hE5⟩
  rw [dec_three] at hE5
  obtain rfl := hE5
  clear HD2
  have x5 := x4.later hg5
  have hg35 := hg4.trans hg5
  unfold tbV tb0 v0
  dsimp only
  clear x4 hg4 hg5
  go_wp2_with fail
  refine name_world (fun W6 hW6 => ?_)
  have hg6 : Gr w5 W6 := by rw [hW6]; exact Gr.alloc _ _
  have x6 := x5.later hg6
  replace hg35 := hg35.trans hg6
  clear hW6 x5 hg6
  have HI6 := Lib.hid (HI3.out.later hg35)
  have hgw := hg3.trans hg35
  have c_e0 := x6.cell 0 _ rfl
  have c_e1 := x6.cell 1 _ rfl
  have c_e2 := x6.cell 2 _ rfl
  have c_e3 := x6.cell 3 _ rfl
  have c_e4 := x6.cell 4 _ rfl
  have c_e5 := x6.cell 5 _ rfl
  have c_e6 := x6.cell 6 _ rfl
  have c_e7 := x6.cell 7 _ rfl
  have c_e8 := x6.cell 8 _ rfl
  have c_e9 := x6.cell 9 _ rfl
  have c_e10 := x6.cell 10 _ rfl
  have c_e11 := x6.cell 11 _ rfl
  have m_e0 := x6.mark 0 _ rfl
  have m_e1 := x6.mark 1 _ rfl
  have m_e2 := x6.mark 2 _ rfl
  have m_e3 := x6.mark 3 _ rfl
  have m_e4 := x6.mark 4 _ rfl
  have m_e5 := x6.mark 5 _ rfl
  have m_e6 := x6.mark 6 _ rfl
  have m_e7 := x6.mark 7 _ rfl
  have m_e8 := x6.mark 8 _ rfl
  have m_e9 := x6.mark 9 _ rfl
  have m_e10 := x6.mark 10 _ rfl
  have m_e11 := x6.mark 11 _ rfl
  have l_e := x6.lt (Nat.succ_pos _)
  clear hg35 HI3
  have HEQ : Hid (∀ (w' : World), Gr W6 w' → ∀ u, TbIn w' leastT u → Calls Tryd.prog 16 #[.agg #[.slice p0 1 c0, .slice p1 0 c1, .slice p2 0 c2, .slice p3 0 c3, .slice p4 256 c4, .int .i64 1, .slice p5 1 c5, .slice p6 1 c6, .slice p7 1 c7, .slice p8 1 c8, .slice p9 0 c9, .slice p10 0 c10], tbV leastT u] w' fun e w'' => e = .returned (.bool true) ∧ Gr w' w'') := Lib.hid (fun w' hg u hu => eqTables17 leastT ⟨.slice p0 1 c0, .slice p1 0 c1, .slice p2 0 c2, .slice p3 0 c3, vr, .slice p4 256 c4, .slice p5 1 c5, .slice p6 1 c6, .slice p7 1 c7, .slice p8 1 c8, .slice p9 0 c9, .slice p10 0 c10⟩ u w' (HI6.out.later hg) hu)
  have HCK : Hid (∀ (w' : World), Gr W6 w' → Calls Tryd.prog 11 #[.agg #[.slice p0 1 c0, .slice p1 0 c1, .slice p2 0 c2, .slice p3 0 c3, .slice p4 256 c4, .int .i64 1, .slice p5 1 c5, .slice p6 1 c6, .slice p7 1 c7, .slice p8 1 c8, .slice p9 0 c9, .slice p10 0 c10]] w' fun e w'' => e = .returned (.bool true) ∧ Gr w' w'') := Lib.hid (fun w' hg => by
    have := checkI_any leastT ⟨.slice p0 1 c0, .slice p1 0 c1, .slice p2 0 c2, .slice p3 0 c3, vr, .slice p4 256 c4, .slice p5 1 c5, .slice p6 1 c6, .slice p7 1 c7, .slice p8 1 c8, .slice p9 0 c9, .slice p10 0 c10⟩ w' (HI6.out.later hg) least_fit
    rw [may_least] at this; exact this)
  have HSA : Hid (∀ (w' : World), Gr W6 w' → Calls Tryd.prog 13 #[.iface 157 (.pointer (some (s 12))), .agg #[.int .i64 12, .int .i64 0, .int .i64 0, .int .i64 0, .slice none 0 0]] w' fun e w'' => e = .returned (.bool true) ∧ Gr w' w'') := Lib.hid (fun w' hg => leaf_same (HF.out.later (hgw.trans hg)) 12 (by omega) (by omega))
  refine wp_region_G (.take 0 (.take 1 (.take 2 (.take 3 (.take 4 (.take 5 (.take 6 (.take 7 (.take 8 (.take 9 (.take 10 (.take 11 (.take 12 (.run 13 false (.run 14 false (.take 15 (.take 16 (.take 17 (.run 18 false (.take 19 (.take 20 (.take 21 (.run 22 false (.run 23 false (.take 24 (.run 25 true .nil)))))))))))))))))))))))))) (by kernel_rfl) (by kernel_rfl) ?_
  simp only [pickOps, nthOp]
  intro wq hG
  repeat (first | (refine wpG_skip_take ?_ ?_; (focus rfl); try simp only [Act.put, List.setIfInBounds_toArray, List.set_cons_zero, List.set_cons_succ]) | (refine wpG_skip_run ?_ ?_; (focus rfl); try simp only [Act.put, List.setIfInBounds_toArray, List.set_cons_zero, List.set_cons_succ]) | (refine wpG_take ?_ ?_; (focus rfl); apply Exists.intro; refine ⟨fun w' hw' => ?_, ?_⟩; (focus (have hc := Gr.cells hw'; go_simp; (try rfl); done)); try simp only [Act.put, List.setIfInBounds_toArray, List.set_cons_zero, List.set_cons_succ]) | (refine wpG_run ?_ (fun K hK => ?_); (focus rfl); go_simp; (first | (go_at_call 24; (with_reducible refine (least17_any _).mono ?_); rintro e w' ⟨hb, vq, rfl, hTq⟩; have hIq := Lib.hid (hTq.tabs least_txt); clear hTq) | (go_at_call 16; (with_reducible refine (HEQ.out _ hG vq hIq.out).mono ?_); rintro e w' ⟨rfl, hb⟩) | (go_at_call 11; (with_reducible refine (HCK.out _ hG).mono ?_); rintro e w' ⟨rfl, hb⟩) | (go_at_call 25; (with_reducible refine (is17_any _ _).mono ?_); rintro e w' ⟨rfl, hb⟩) | (go_at_call 13; (with_reducible refine (HSA.out _ hG).mono ?_); rintro e w' ⟨rfl, hb⟩)); (try dsimp only); replace hG := hG.trans hb; refine hK.out _ _ hG ?_; clear hK K hb; try simp only [Act.put, List.setIfInBounds_toArray, List.set_cons_zero, List.set_cons_succ]))
  refine wpG_last ?_ (fun K hK => ?_); (focus rfl)
  have hc := hG.cells
  have hm := hG.marks
  go_simp
  refine hK.out _ _ ?_
  try simp only [Act.put, List.setIfInBounds_toArray, List.set_cons_zero, List.set_cons_succ]
  clear hK K hc hm
  refine wpG_done ?_
  go_wp2_with fail
  go_ret
  exact ⟨rfl, hgw.trans hG⟩

end Go.Proofs.YtcbfmajojkcibaaDoor
