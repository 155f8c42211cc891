/- bolterref17.Encode. Printed by gen_ire.py. No condition but bounds of lengths. -/
import Derived.Test.YtcbfmajojkcibaaDoorPIrD
import Derived.Test.YtcbfmajojkcibaaDoorPImgO
import Derived.Laws.OwnMore
namespace Go.Proofs.YtcbfmajojkcibaaDoor
open Go Go.RowKit

theorem own_far {w : World} {B b : Nat} {v : Value} {l : List UInt8} (h : OwnB w B v l) (hb : b < B) (j : Nat) (u : Value) : OwnB (w.setCell ⟨b, j, none⟩ u) B v l := by
  refine owns_heap h (fun g hg => Below.heap_setCell w _ u g ?_)
  have := (World.ownsRow.lt h g hg).1
  rintro rfl
  exact absurd this (Nat.not_le.2 hb)
set_option maxRecDepth 100000 in
set_option maxHeartbeats 32000000 in
/-- Tables that may be. -/
theorem enc17_ok (t : Tb) (v : TbV) (w : World) (h : TbIn w t v) (hfit : ∀ s, s ∈ t.base → -9223372036854775808 ≤ s ∧ s ≤ 9223372036854775807) (hm : mayB t = true) :
    Calls Tryd.prog 9 #[tbV t v] w fun e w' => ∃ u, e = .returned (.tuple #[u, .agg #[.int .i64 0, .int .i64 0, .int .i64 0, .int .i64 0, .slice none 0 0]]) ∧ OwnB w' w.heap.size u (encT t) ∧ Gr w w' := by
  have HC := Lib.hid (fun w' (hg : Gr w w') => hm ▸ may17_any t v w' (h.later hg) hfit)
  have HT := Lib.hid h
  have HP := Lib.hid (may_prc hm 2 3 255 (by omega) (by omega) (by omega)).1
  have hTL := encT_len hm
  obtain ⟨l1, l2, l3, l4, l5, l6⟩ := may_lens hm
  have HLN := Lib.hid (show _ ∧ _ ∧ _ ∧ _ ∧ _ ∧ _ from ⟨l1, l2, l3, l4, l5, l6⟩)
  unfold tbV at HC ⊢
  obtain ⟨pm, cm, em⟩ := h.modes.len
  obtain ⟨pl, cl, el⟩ := h.labels.len
  obtain ⟨pc, cc, ec⟩ := h.cuts.len
  obtain ⟨pa, ca, ea⟩ := h.acts.len
  obtain ⟨pk, ck, ek⟩ := h.classes.len
  obtain ⟨ps, cs, es⟩ := h.starts.len
  obtain ⟨pb, cb, eb⟩ := h.label.len
  obtain ⟨p1, c1, e1⟩ := h.base.len
  obtain ⟨p2, c2, e2⟩ := h.dflt.len
  obtain ⟨p3, c3, e3⟩ := h.next.len
  obtain ⟨p4, c4, e4⟩ := h.check.len
  have HM := Lib.hid (em ▸ h.modes)
  have HL := Lib.hid (el ▸ h.labels)
  have HCU := Lib.hid (ec ▸ h.cuts)
  have HA := Lib.hid (ea ▸ h.acts)
  have HK := Lib.hid (ek ▸ h.classes)
  have HS := Lib.hid (es ▸ h.starts)
  have HB := Lib.hid (eb ▸ h.label)
  have H1 := Lib.hid (e1 ▸ h.base)
  have H2 := Lib.hid (e2 ▸ h.dflt)
  have H3 := Lib.hid (e3 ▸ h.next)
  have H4 := Lib.hid (e4 ▸ h.check)
  rw [em, el, ec, ea, ek, es, eb, e1, e2, e3, e4] at HC ⊢
  rw [l1, l2, l3, l4, l5, l6] at HC ⊢
  clear em el ec ea ek es eb e1 e2 e3 e4 h l1 l2 l3 l4 l5 l6 hfit
  obtain ⟨n, hn⟩ : ∃ n, t.modes.length = n := ⟨_, rfl⟩
  obtain ⟨N, hN⟩ : ∃ n, t.labels.length = n := ⟨_, rfl⟩
  obtain ⟨K, hK0⟩ : ∃ n, t.classes.length = n := ⟨_, rfl⟩
  obtain ⟨Z, hZ⟩ : ∃ n, t.base.length = n := ⟨_, rfl⟩
  obtain ⟨C, hC⟩ : ∃ n, t.next.length = n := ⟨_, rfl⟩
  have HLE := Lib.hid (show _ ∧ _ ∧ _ ∧ _ ∧ _ from ⟨hn, hN, hK0, hZ, hC⟩)
  rw [hn, hN, hK0, hZ, hC] at HC ⊢
  have hn16 : n ≤ 16 := by
    have := HP.out.1.1
    rw [show (rcOf t).modes.length = min t.modes.length t.starts.length by simp [rcOf]] at this
    have := HLN.out.1
    omega
  obtain ⟨T, hT⟩ : ∃ T, encT t = T := ⟨_, rfl⟩
  rw [hT] at hTL ⊢
  obtain ⟨r5, hr5⟩ : ∃ r, (rcOf t).slots.flatMap encC = r := ⟨_, rfl⟩
  obtain ⟨r4, hr4⟩ : ∃ r, (rcOf t).states.flatMap encS ++ (varB C ++ r5) = r := ⟨_, rfl⟩
  obtain ⟨r3, hr3⟩ : ∃ r, (rcOf t).classes.flatMap encI ++ (varB Z ++ r4) = r := ⟨_, rfl⟩
  obtain ⟨r2, hr2⟩ : ∃ r, (rcOf t).rules.flatMap encR ++ (encI t.count ++ r3) = r := ⟨_, rfl⟩
  obtain ⟨r1, hr1⟩ : ∃ r, (rcOf t).modes.flatMap encM ++ (varB N ++ r2) = r := ⟨_, rfl⟩
  have hz1 : (rcOf t).modes.length = n := by have := HLN.out; simp [rcOf]; omega
  have hz2 : (rcOf t).rules.length = N := by have := HLN.out; simp [rcOf]; omega
  have hz4 : (rcOf t).states.length = Z := by have := HLN.out; simp [rcOf]; omega
  have hz5 : (rcOf t).slots.length = C := by have := HLN.out; simp [rcOf]; omega
  obtain ⟨CT, hCT⟩ : ∃ Y : Nat, t.count = (Y : Int) := ⟨t.count.toNat, by have := HP.out.2.2.1.1; show t.count = _; change 0 ≤ t.count at this; omega⟩
  have HCT := Lib.hid hCT
  have hCT256 : CT ≤ 256 := by have := HP.out.2.2.1.2; change t.count ≤ _ at this; omega
  have hK256 : K ≤ 256 := Nat.le_of_eq (hK0 ▸ HP.out.2.2.2.1.1)
  rw [hCT] at HC ⊢
  have hN200 : N ≤ 200 := hz2 ▸ HP.out.2.1.1
  have hZ600 : Z ≤ 600 := hz4 ▸ HP.out.2.2.2.2.1.1
  have hC18 : C ≤ 262144 := hz5 ▸ HP.out.2.2.2.2.2.1
  have HE0 := Lib.hid (show headB ++ (varB n ++ r1) = T by
    rw [← hT, ← hr1, ← hr2, ← hr3, ← hr4, ← hr5]
    unfold encT encRc
    rw [hz1, hz2, hz4, hz5]
    show _ = headB ++ ((varB n ++ _) ++ ((varB N ++ _) ++ (encI t.count ++ _)))
    simp only [List.append_assoc])
  have HR1 := Lib.hid hr1
  have HR2 := Lib.hid hr2
  have HR3 := Lib.hid hr3
  have HR4 := Lib.hid hr4
  have HR5 := Lib.hid hr5
  have HZ := Lib.hid (show _ ∧ _ ∧ _ ∧ _ from ⟨hz1, hz2, hz4, hz5⟩)
  clear hCT hn hN hK0 hZ hC hT hm hr1 hr2 hr3 hr4 hr5 hz1 hz2 hz4 hz5
  go_enter Tryd.func9, Tryd.ntmps9
  go_wp2_with fail
  go_at_call 12
  refine name_calls (fun W1 hW => ?_)
  have xe : boxAt W1 w.heap.size [.slice pm n cm, .slice pl N cl, .slice pc N cc, .slice pa N ca, .slice pk K ck, .int .i64 (CT : Int), .slice ps n cs, .slice pb Z cb, .slice p1 Z c1, .slice p2 Z c2, .slice p3 C c3, .slice p4 C c4] := by rw [hW]; exact (boxAt.new [.slice pm n cm, .slice pl N cl, .slice pc N cc, .slice pa N ca, .slice pk K ck, .int .i64 (CT : Int), .slice ps n cs, .slice pb Z cb, .slice p1 Z c1, .slice p2 Z c2, .slice p3 C c3, .slice p4 C c4] _ rfl).later (Gr.alloc _ _)
  have xf : boxAt W1 (w.heap.size + 1) [.int .i64 0, .int .i64 0, .int .i64 0, .int .i64 0, .slice none 0 0] := by rw [hW]; exact boxAt.new_at _ _ _ rfl (by simp)
  have hgW1 : Gr w W1 := by rw [hW]; exact (Gr.alloc _ _).trans (Gr.alloc _ _)
  clear hW
  (with_reducible refine (HC.out W1 hgW1).mono ?_); rintro r w2 ⟨rfl, hb⟩
  have xr := xe.later hb
  have hg := hb
  clear hb
  have c_e0 := xr.cell 0 _ rfl
  have c_e1 := xr.cell 1 _ rfl
  have c_e2 := xr.cell 2 _ rfl
  have c_e3 := xr.cell 3 _ rfl
  have c_e4 := xr.cell 4 _ rfl
  have c_e5 := xr.cell 5 _ rfl
  have c_e6 := xr.cell 6 _ rfl
  have c_e7 := xr.cell 7 _ rfl
  have c_e8 := xr.cell 8 _ rfl
  have c_e9 := xr.cell 9 _ rfl
  have c_e10 := xr.cell 10 _ rfl
  have c_e11 := xr.cell 11 _ rfl
  have m_e0 := xr.mark 0 _ rfl
  have m_e1 := xr.mark 1 _ rfl
  have m_e2 := xr.mark 2 _ rfl
  have m_e3 := xr.mark 3 _ rfl
  have m_e4 := xr.mark 4 _ rfl
  have m_e5 := xr.mark 5 _ rfl
  have m_e6 := xr.mark 6 _ rfl
  have m_e7 := xr.mark 7 _ rfl
  have m_e8 := xr.mark 8 _ rfl
  have m_e9 := xr.mark 9 _ rfl
  have m_e10 := xr.mark 10 _ rfl
  have m_e11 := xr.mark 11 _ rfl
  have l_e := xr.lt (Nat.succ_pos _)
  go_wp2_with fail
  clear c_e0 c_e1 c_e2 c_e3 c_e4 c_e5 c_e6 c_e7 c_e8 c_e9 c_e10 c_e11 m_e0 m_e1 m_e2 m_e3 m_e4 m_e5 m_e6 m_e7 m_e8 m_e9 m_e10 m_e11 l_e
  go_at_call 31
  refine name_calls (fun W3 hW => ?_)
  have ho0 : OwnB W3 W1.heap.size (.slice (some ⟨w2.heap.size, 0, none⟩) 4 4) headB := by
    rw [hW]
    exact World.ownsRow_lit (base := W1.heap.size) (e := 5) (size := 1) w2 #[.int .u8 66, .int .u8 76, .int .u8 84, .int .u8 1] 4 hg.size (by unfold maxLen; omega) rfl
  have hg3 : Gr W1 W3 := by rw [hW]; exact hg.trans (Gr.alloc _ _)
  clear hW xr
  (with_reducible refine (var17_any W1.heap.size n _ headB W3 ho0 hg3.size (by omega) (by decide)).mono ?_); rintro r w4 ⟨v4, rfl, ho, hb⟩
  replace hg := Below.trans hg3 hb
  obtain ⟨a0, ha0⟩ : ∃ a, headB ++ varB n = a := ⟨_, rfl⟩
  rw [ha0] at ho
  have HO := Lib.hid ho
  have HE := Lib.hid (show a0 ++ r1 = T by rw [← ha0, List.append_assoc]; exact HE0.out)
  obtain ⟨q4, d4, rfl⟩ := (Sl.of_owns ho).len
  clear ho0 hg3 ho hb ha0
  have xr := xe.later hg
  have c_e0 := xr.cell 0 _ rfl
  have c_e1 := xr.cell 1 _ rfl
  have c_e2 := xr.cell 2 _ rfl
  have c_e3 := xr.cell 3 _ rfl
  have c_e4 := xr.cell 4 _ rfl
  have c_e5 := xr.cell 5 _ rfl
  have c_e6 := xr.cell 6 _ rfl
  have c_e7 := xr.cell 7 _ rfl
  have c_e8 := xr.cell 8 _ rfl
  have c_e9 := xr.cell 9 _ rfl
  have c_e10 := xr.cell 10 _ rfl
  have c_e11 := xr.cell 11 _ rfl
  have m_e0 := xr.mark 0 _ rfl
  have m_e1 := xr.mark 1 _ rfl
  have m_e2 := xr.mark 2 _ rfl
  have m_e3 := xr.mark 3 _ rfl
  have m_e4 := xr.mark 4 _ rfl
  have m_e5 := xr.mark 5 _ rfl
  have m_e6 := xr.mark 6 _ rfl
  have m_e7 := xr.mark 7 _ rfl
  have m_e8 := xr.mark 8 _ rfl
  have m_e9 := xr.mark 9 _ rfl
  have m_e10 := xr.mark 10 _ rfl
  have m_e11 := xr.mark 11 _ rfl
  have l_e := xr.lt (Nat.succ_pos _)
  go_wp2_with fail
  clear c_e0 c_e1 c_e2 c_e3 c_e4 c_e5 c_e6 c_e7 c_e8 c_e9 c_e10 c_e11 m_e0 m_e1 m_e2 m_e3 m_e4 m_e5 m_e6 m_e7 m_e8 m_e9 m_e10 m_e11 l_e
  clear xr
  go_loopw [4, 5] (fun b i wr => ∃ (k : Nat) (acc : List UInt8), k ≤ n ∧ i = .int .i64 (k : Int) ∧ Gr W1 wr ∧ Hid (OwnB wr W1.heap.size b acc) ∧ Hid (acc ++ (((rcOf t).modes.drop k).flatMap encM ++ (varB N ++ r2)) = T) ∧ ∃ p c, b = .slice p acc.length c) (fun _ i _ => n - (intOf i).toNat)
  case atStart => exact ⟨0, _, Nat.zero_le _, rfl, hg, HO, Lib.hid (by rw [List.drop_zero, HR1.out]; exact HE.out), _, _, rfl⟩
  case round =>
    clear hg HO HE
    obtain ⟨k, acc, hk, rfl, hg, HO, HE, q, d, rfl⟩ := hrel
    have xr := xe.later hg
    have hal := acc_le HE.out hTL
    rcases Nat.lt_or_ge k n with hkl | hkl
    · obtain ⟨x, hx⟩ : ∃ x, t.modes[k]? = some x := ⟨_, List.getElem?_eq_getElem (by rw [HLE.out.1]; exact hkl)⟩
      obtain ⟨y, hy⟩ : ∃ x, t.starts[k]? = some x := ⟨_, List.getElem?_eq_getElem (by rw [HLN.out.1, HLE.out.1]; exact hkl)⟩
      have hz : (rcOf t).modes[k]? = some (x, y) := by show (t.modes.zip t.starts)[k]? = _; rw [List.getElem?_zip_eq_some]; exact ⟨hx, hy⟩
      obtain ⟨hp1, hp2, hp3⟩ := HP.out.1.2 _ (List.mem_of_getElem? hz)
      obtain ⟨Y, rfl⟩ : ∃ Y : Nat, y = (Y : Int) := ⟨y.toNat, by omega⟩
      dsimp only at hp1 hp2 hp3
      obtain ⟨b1, o1, rfl, hb1, a1⟩ := str_at (w := W1) (HLE.out.1 ▸ HM.out.later hgW1 : Sl W1 (.slice pm t.modes.length cm) 1 t.modes.length (t.modes.map vS)) hx
      obtain ⟨b2, o2, rfl, hb2, a2⟩ := int_at (w := W1) ((HLN.out.1.trans HLE.out.1).symm ▸ HS.out.later hgW1 : Sl W1 (.slice ps t.starts.length cs) 1 t.starts.length (t.starts.map vI)) hy
      have a1r := hg.cell a1
      have a2r := hg.cell a2
      have hb1r := Nat.lt_of_lt_of_le hb1 hg.size
      have hb2r := Nat.lt_of_lt_of_le hb2 hg.size
      have HEN := Lib.hid (show (acc ++ txB x ++ varB Y) ++ (((rcOf t).modes.drop (k + 1)).flatMap encM ++ (varB N ++ r2)) = T by
        rw [← HE.out, drop_step hz encM]; unfold encM; simp)
      have hal2 : (acc ++ txB x).length ≤ 2097152 := acc_le (rest := varB Y ++ (((rcOf t).modes.drop (k + 1)).flatMap encM ++ (varB N ++ r2))) (by rw [← HEN.out]; simp) hTL
      have hkI : (k : Int) < (n : Int) := by omega
      have HKL := Lib.hid hkl
      clear hx hy hz hk hkl
      have c_e0 := xr.cell 0 _ rfl
      have c_e1 := xr.cell 1 _ rfl
      have c_e2 := xr.cell 2 _ rfl
      have c_e3 := xr.cell 3 _ rfl
      have c_e4 := xr.cell 4 _ rfl
      have c_e5 := xr.cell 5 _ rfl
      have c_e6 := xr.cell 6 _ rfl
      have c_e7 := xr.cell 7 _ rfl
      have c_e8 := xr.cell 8 _ rfl
      have c_e9 := xr.cell 9 _ rfl
      have c_e10 := xr.cell 10 _ rfl
      have c_e11 := xr.cell 11 _ rfl
      have m_e0 := xr.mark 0 _ rfl
      have m_e1 := xr.mark 1 _ rfl
      have m_e2 := xr.mark 2 _ rfl
      have m_e3 := xr.mark 3 _ rfl
      have m_e4 := xr.mark 4 _ rfl
      have m_e5 := xr.mark 5 _ rfl
      have m_e6 := xr.mark 6 _ rfl
      have m_e7 := xr.mark 7 _ rfl
      have m_e8 := xr.mark 8 _ rfl
      have m_e9 := xr.mark 9 _ rfl
      have m_e10 := xr.mark 10 _ rfl
      have m_e11 := xr.mark 11 _ rfl
      have l_e := xr.lt (Nat.succ_pos _)
      go_wp2_with fail
      have c_f0 := xe.cell 0 _ rfl
      have c_f1 := xe.cell 1 _ rfl
      have c_f2 := xe.cell 2 _ rfl
      have c_f3 := xe.cell 3 _ rfl
      have c_f4 := xe.cell 4 _ rfl
      have c_f5 := xe.cell 5 _ rfl
      have c_f6 := xe.cell 6 _ rfl
      have c_f7 := xe.cell 7 _ rfl
      have c_f8 := xe.cell 8 _ rfl
      have c_f9 := xe.cell 9 _ rfl
      have c_f10 := xe.cell 10 _ rfl
      have c_f11 := xe.cell 11 _ rfl
      have m_f0 := xe.mark 0 _ rfl
      have m_f1 := xe.mark 1 _ rfl
      have m_f2 := xe.mark 2 _ rfl
      have m_f3 := xe.mark 3 _ rfl
      have m_f4 := xe.mark 4 _ rfl
      have m_f5 := xe.mark 5 _ rfl
      have m_f6 := xe.mark 6 _ rfl
      have m_f7 := xe.mark 7 _ rfl
      have m_f8 := xe.mark 8 _ rfl
      have m_f9 := xe.mark 9 _ rfl
      have m_f10 := xe.mark 10 _ rfl
      have m_f11 := xe.mark 11 _ rfl
      have l_f := xe.lt (Nat.succ_pos _)
      refine wp_region_S (Gr W1) (.take 0 (.take 1 (.take 2 (.take 3 (.take 4 (.take 5 (.take 7 (.take 8 (.take 9 (.take 10 (.take 11 (.run 6 false (.run 12 false (.run 13 true .nil)))))))))))))) (hg.trans (Gr.drew _)) (by kernel_rfl) (by kernel_rfl) ?_
      simp only [pickOps, nthOp]
      intro wq hN hG
      repeat (first | (refine wpG_skip_take ?_ ?_; (focus rfl); try simp only [Act.put, List.setIfInBounds_toArray, List.set_cons_zero, List.set_cons_succ]) | (refine wpG_skip_run ?_ ?_; (focus rfl); try simp only [Act.put, List.setIfInBounds_toArray, List.set_cons_zero, List.set_cons_succ]) | (refine wpG_take ?_ ?_; (focus rfl); apply Exists.intro; refine ⟨fun w' hw' => ?_, ?_⟩; (focus (have hc := Gr.cells hw'; go_simp; (try rfl); done)); try simp only [Act.put, List.setIfInBounds_toArray, List.set_cons_zero, List.set_cons_succ]) | (refine wpG_run ?_ (fun K hK => ?_); (focus rfl); go_simp; (first | (go_at_call 32; (with_reducible refine (text17_any W1.heap.size _ acc x _ (HO.out.later hN) hG.size (by omega)).mono ?_); rintro r w6 ⟨v6, rfl, ho6, hb0⟩; have hG0 : Gr W1 w6 := Below.trans hG hb0; clear hG hb0; have hG := hG0; clear hG0; have hb := Gr.refl w6) | (go_at_call 31; (with_reducible refine (var17_any W1.heap.size Y _ _ _ ho6 hG.size (by omega) (by omega)).mono ?_); rintro r w7 ⟨v7, rfl, ho7, hb0⟩; have hG0 : Gr W1 w7 := Below.trans hG hb0; clear hG hb0; have hG := hG0; clear hG0; have hb := Gr.refl w7)); (try dsimp only); replace hG := hG.trans hb; refine hK.out _ _ hG ?_; clear hK K hb; try simp only [Act.put, List.setIfInBounds_toArray, List.set_cons_zero, List.set_cons_succ]))
      refine wpG_last ?_ (fun K hK => ?_); (focus rfl)
      have hc := hG.cells
      have hm := hG.marks
      go_simp
      refine hK.out _ _ ?_
      try simp only [Act.put, List.setIfInBounds_toArray, List.set_cons_zero, List.set_cons_succ]
      clear hK K hc hm
      refine wpG_done ?_
      obtain ⟨a2, ha2⟩ : ∃ a, acc ++ txB x ++ varB Y = a := ⟨_, rfl⟩
      rw [ha2] at ho7 HEN
      have HO2 := Lib.hid ho7
      obtain ⟨q7, d7, rfl⟩ := (Sl.of_owns ho7).len
      clear ho6 ho7 ha2
      clear c_e0 c_e1 c_e2 c_e3 c_e4 c_e5 c_e6 c_e7 c_e8 c_e9 c_e10 c_e11 m_e0 m_e1 m_e2 m_e3 m_e4 m_e5 m_e6 m_e7 m_e8 m_e9 m_e10 m_e11 l_e
      clear c_f0 c_f1 c_f2 c_f3 c_f4 c_f5 c_f6 c_f7 c_f8 c_f9 c_f10 c_f11 m_f0 m_f1 m_f2 m_f3 m_f4 m_f5 m_f6 m_f7 m_f8 m_f9 m_f10 m_f11 l_f
      go_wp2_with fail
      go_roundw
      case rel => exact ⟨k + 1, a2, by have := HKL.out; omega, by go_num, hG, HO2, HEN, _, _, rfl⟩
      case measure => have := HKL.out; simp [intOf]; omega
    · have hkn : k = n := by omega
      subst hkn
      have HE1 := Lib.hid (show acc ++ (varB N ++ r2) = T by
        rw [← HE.out, List.drop_of_length_le (by rw [HZ.out.1]; exact Nat.le_refl _)]; rfl)
      clear HE hk hkl
      have c_e0 := xr.cell 0 _ rfl
      have c_e1 := xr.cell 1 _ rfl
      have c_e2 := xr.cell 2 _ rfl
      have c_e3 := xr.cell 3 _ rfl
      have c_e4 := xr.cell 4 _ rfl
      have c_e5 := xr.cell 5 _ rfl
      have c_e6 := xr.cell 6 _ rfl
      have c_e7 := xr.cell 7 _ rfl
      have c_e8 := xr.cell 8 _ rfl
      have c_e9 := xr.cell 9 _ rfl
      have c_e10 := xr.cell 10 _ rfl
      have c_e11 := xr.cell 11 _ rfl
      have m_e0 := xr.mark 0 _ rfl
      have m_e1 := xr.mark 1 _ rfl
      have m_e2 := xr.mark 2 _ rfl
      have m_e3 := xr.mark 3 _ rfl
      have m_e4 := xr.mark 4 _ rfl
      have m_e5 := xr.mark 5 _ rfl
      have m_e6 := xr.mark 6 _ rfl
      have m_e7 := xr.mark 7 _ rfl
      have m_e8 := xr.mark 8 _ rfl
      have m_e9 := xr.mark 9 _ rfl
      have m_e10 := xr.mark 10 _ rfl
      have m_e11 := xr.mark 11 _ rfl
      have l_e := xr.lt (Nat.succ_pos _)
      go_wp2_with fail
      clear c_e0 c_e1 c_e2 c_e3 c_e4 c_e5 c_e6 c_e7 c_e8 c_e9 c_e10 c_e11 m_e0 m_e1 m_e2 m_e3 m_e4 m_e5 m_e6 m_e7 m_e8 m_e9 m_e10 m_e11 l_e
      -- TAIL
      go_at_call 31
      (with_reducible refine (var17_any W1.heap.size N _ acc wr HO.out hg.size (by omega) (by omega)).mono ?_); rintro r w5 ⟨v5, rfl, ho, hb0⟩
      have hg5 : Gr W1 w5 := Below.trans hg hb0
      clear hg hb0 HO
      have hg := hg5
      clear hg5
      obtain ⟨a3, ha3⟩ : ∃ a, acc ++ varB N = a := ⟨_, rfl⟩
      rw [ha3] at ho
      have HO := Lib.hid ho
      have HE := Lib.hid (show a3 ++ ((rcOf t).rules.flatMap encR ++ (encI t.count ++ r3)) = T by rw [HR2.out]; rw [← ha3, List.append_assoc]; exact HE1.out)
      obtain ⟨q5, d5, rfl⟩ := (Sl.of_owns ho).len
      clear ho ha3 HE1
      have xr := xe.later hg
      have c_e0 := xr.cell 0 _ rfl
      have c_e1 := xr.cell 1 _ rfl
      have c_e2 := xr.cell 2 _ rfl
      have c_e3 := xr.cell 3 _ rfl
      have c_e4 := xr.cell 4 _ rfl
      have c_e5 := xr.cell 5 _ rfl
      have c_e6 := xr.cell 6 _ rfl
      have c_e7 := xr.cell 7 _ rfl
      have c_e8 := xr.cell 8 _ rfl
      have c_e9 := xr.cell 9 _ rfl
      have c_e10 := xr.cell 10 _ rfl
      have c_e11 := xr.cell 11 _ rfl
      have m_e0 := xr.mark 0 _ rfl
      have m_e1 := xr.mark 1 _ rfl
      have m_e2 := xr.mark 2 _ rfl
      have m_e3 := xr.mark 3 _ rfl
      have m_e4 := xr.mark 4 _ rfl
      have m_e5 := xr.mark 5 _ rfl
      have m_e6 := xr.mark 6 _ rfl
      have m_e7 := xr.mark 7 _ rfl
      have m_e8 := xr.mark 8 _ rfl
      have m_e9 := xr.mark 9 _ rfl
      have m_e10 := xr.mark 10 _ rfl
      have m_e11 := xr.mark 11 _ rfl
      have l_e := xr.lt (Nat.succ_pos _)
      go_wp2_with fail
      clear c_e0 c_e1 c_e2 c_e3 c_e4 c_e5 c_e6 c_e7 c_e8 c_e9 c_e10 c_e11 m_e0 m_e1 m_e2 m_e3 m_e4 m_e5 m_e6 m_e7 m_e8 m_e9 m_e10 m_e11 l_e
      clear xr
      go_loopw [4, 6, 7] (fun b i _ wr => ∃ (k : Nat) (acc : List UInt8), k ≤ N ∧ i = .int .i64 (k : Int) ∧ Gr W1 wr ∧ Hid (OwnB wr W1.heap.size b acc) ∧ Hid (acc ++ (((rcOf t).rules.drop k).flatMap encR ++ (encI t.count ++ r3)) = T) ∧ ∃ p c, b = .slice p acc.length c) (fun _ i _ _ => N - (intOf i).toNat)
      case atStart => exact ⟨0, _, Nat.zero_le _, rfl, hg, HO, Lib.hid (by rw [List.drop_zero]; exact HE.out), _, _, rfl⟩
      case round =>
        clear hg HO HE
        obtain ⟨k, acc, hk, rfl, hg, HO, HE, q, d, rfl⟩ := hrel
        have xr := xe.later hg
        have hal := acc_le HE.out hTL
        rcases Nat.lt_or_ge k N with hkl | hkl
        · obtain ⟨x, hx⟩ : ∃ x, t.labels[k]? = some x := ⟨_, List.getElem?_eq_getElem (by rw [HLE.out.2.1]; exact hkl)⟩
          obtain ⟨⟨cu, cn⟩, hcu⟩ : ∃ x, t.cuts[k]? = some x := ⟨_, List.getElem?_eq_getElem (by rw [HLN.out.2.1, HLE.out.2.1]; exact hkl)⟩
          obtain ⟨ac, hac⟩ : ∃ x, t.acts[k]? = some x := ⟨_, List.getElem?_eq_getElem (by rw [HLN.out.2.2.1, HLE.out.2.1]; exact hkl)⟩
          obtain ⟨u, hu1, hu2⟩ := HT.out.rows k ac hac
          have hz : (rcOf t).rules[k]? = some (x, ((cu, cn), ac)) := by
            show (t.labels.zip (t.cuts.zip t.acts))[k]? = _
            rw [List.getElem?_zip_eq_some]; exact ⟨hx, by rw [List.getElem?_zip_eq_some]; exact ⟨hcu, hac⟩⟩
          obtain ⟨hp1, ⟨⟨hp2, hp3⟩, hp4, hp5⟩, hp6, hp7⟩ := HP.out.2.1.2 _ (List.mem_of_getElem? hz)
          dsimp only at hp1 hp2 hp3 hp4 hp5 hp6 hp7
          obtain ⟨CU, rfl⟩ : ∃ Y : Nat, cu = (Y : Int) := ⟨cu.toNat, by omega⟩
          obtain ⟨CN, rfl⟩ : ∃ Y : Nat, cn = (Y : Int) := ⟨cn.toNat, by omega⟩
          obtain ⟨b1, o1, rfl, hb1, a1⟩ := str_at (w := W1) (HLE.out.2.1 ▸ HL.out.later hgW1 : Sl W1 (.slice pl t.labels.length cl) 1 t.labels.length (t.labels.map vS)) hx
          obtain ⟨b2, o2, rfl, hb2, a2, a3⟩ := pr_at (w := W1) ((HLN.out.2.1.trans HLE.out.2.1).symm ▸ HCU.out.later hgW1 : Sl W1 (.slice pc t.cuts.length cc) 2 t.cuts.length (t.cuts.flatMap prC)) hcu
          obtain ⟨b3, o3, rfl, hb3, a4⟩ := row_at ((HLN.out.2.2.1.trans HLE.out.2.1) ▸ HA.out.later hgW1) hu1
          replace hu2 := hu2.later hgW1
          obtain ⟨qu, du, rfl⟩ := hu2.len
          have HU := Lib.hid hu2
          have HP7 := Lib.hid hp7
          have a1r := hg.cell a1
          have hb1r := Nat.lt_of_lt_of_le hb1 hg.size
          have HEN := Lib.hid (show (acc ++ txB x ++ varB CU ++ varB CN ++ varB ac.length) ++ (ac.flatMap encA ++ (((rcOf t).rules.drop (k + 1)).flatMap encR ++ (encI t.count ++ r3))) = T by
            rw [← HE.out, drop_step hz encR]; unfold encR encL; rw [show encA ((CU : Int), (CN : Int)) = varB CU ++ varB CN from rfl]; simp)
          have hal2 : (acc ++ txB x ++ varB CU ++ varB CN ++ varB ac.length).length ≤ 2097152 := acc_le HEN.out hTL
          simp only [List.length_append] at hal2
          have hkI : (k : Int) < (N : Int) := by omega
          have HKL := Lib.hid hkl
          have HKZ := Lib.hid hz
          clear hx hcu hac hu1 hu2 hz hk hkl hp7
          have c_e0 := xr.cell 0 _ rfl
          have c_e1 := xr.cell 1 _ rfl
          have c_e2 := xr.cell 2 _ rfl
          have c_e3 := xr.cell 3 _ rfl
          have c_e4 := xr.cell 4 _ rfl
          have c_e5 := xr.cell 5 _ rfl
          have c_e6 := xr.cell 6 _ rfl
          have c_e7 := xr.cell 7 _ rfl
          have c_e8 := xr.cell 8 _ rfl
          have c_e9 := xr.cell 9 _ rfl
          have c_e10 := xr.cell 10 _ rfl
          have c_e11 := xr.cell 11 _ rfl
          have m_e0 := xr.mark 0 _ rfl
          have m_e1 := xr.mark 1 _ rfl
          have m_e2 := xr.mark 2 _ rfl
          have m_e3 := xr.mark 3 _ rfl
          have m_e4 := xr.mark 4 _ rfl
          have m_e5 := xr.mark 5 _ rfl
          have m_e6 := xr.mark 6 _ rfl
          have m_e7 := xr.mark 7 _ rfl
          have m_e8 := xr.mark 8 _ rfl
          have m_e9 := xr.mark 9 _ rfl
          have m_e10 := xr.mark 10 _ rfl
          have m_e11 := xr.mark 11 _ rfl
          have l_e := xr.lt (Nat.succ_pos _)
          go_wp2_with fail
          clear c_e0 c_e1 c_e2 c_e3 c_e4 c_e5 c_e6 c_e7 c_e8 c_e9 c_e10 c_e11 m_e0 m_e1 m_e2 m_e3 m_e4 m_e5 m_e6 m_e7 m_e8 m_e9 m_e10 m_e11 l_e
          go_at_call 32
          (with_reducible refine (text17_any W1.heap.size _ acc x _ HO.out hg.size (by omega)).mono ?_); rintro r w6 ⟨v6, rfl, ho6, hb0⟩
          have hg6 : Gr W1 w6 := Below.trans hg hb0
          clear hb0 hg xr a1r hb1r
          obtain ⟨aT, haT⟩ : ∃ a, acc ++ txB x = a := ⟨_, rfl⟩
          have HLT := Lib.hid (show aT.length = acc.length + (txB x).length by rw [← haT, List.length_append])
          rw [haT] at ho6 HEN
          clear haT
          obtain ⟨q6, d6, rfl⟩ := (Sl.of_owns ho6).len
          have xr := xe.later hg6
          go_wp2_with fail
          have c_f0 := xe.cell 0 _ rfl
          have c_f1 := xe.cell 1 _ rfl
          have c_f2 := xe.cell 2 _ rfl
          have c_f3 := xe.cell 3 _ rfl
          have c_f4 := xe.cell 4 _ rfl
          have c_f5 := xe.cell 5 _ rfl
          have c_f6 := xe.cell 6 _ rfl
          have c_f7 := xe.cell 7 _ rfl
          have c_f8 := xe.cell 8 _ rfl
          have c_f9 := xe.cell 9 _ rfl
          have c_f10 := xe.cell 10 _ rfl
          have c_f11 := xe.cell 11 _ rfl
          have m_f0 := xe.mark 0 _ rfl
          have m_f1 := xe.mark 1 _ rfl
          have m_f2 := xe.mark 2 _ rfl
          have m_f3 := xe.mark 3 _ rfl
          have m_f4 := xe.mark 4 _ rfl
          have m_f5 := xe.mark 5 _ rfl
          have m_f6 := xe.mark 6 _ rfl
          have m_f7 := xe.mark 7 _ rfl
          have m_f8 := xe.mark 8 _ rfl
          have m_f9 := xe.mark 9 _ rfl
          have m_f10 := xe.mark 10 _ rfl
          have m_f11 := xe.mark 11 _ rfl
          have l_f := xe.lt (Nat.succ_pos _)
          refine wp_region_S (Gr W1) (.take 0 (.take 1 (.take 2 (.take 3 (.take 4 (.take 5 (.take 6 (.take 8 (.take 9 (.take 10 (.take 11 (.take 12 (.take 13 (.run 7 false (.run 14 false (.run 15 true .nil)))))))))))))))) (hg6.trans (Gr.drew _)) (by kernel_rfl) (by kernel_rfl) ?_
          simp only [pickOps, nthOp]
          intro wq hN hG
          repeat (first | (refine wpG_skip_take ?_ ?_; (focus rfl); try simp only [Act.put, List.setIfInBounds_toArray, List.set_cons_zero, List.set_cons_succ]) | (refine wpG_skip_run ?_ ?_; (focus rfl); try simp only [Act.put, List.setIfInBounds_toArray, List.set_cons_zero, List.set_cons_succ]) | (refine wpG_take ?_ ?_; (focus rfl); apply Exists.intro; refine ⟨fun w' hw' => ?_, ?_⟩; (focus (have hc := Gr.cells hw'; go_simp; (try rfl); done)); try simp only [Act.put, List.setIfInBounds_toArray, List.set_cons_zero, List.set_cons_succ]) | (refine wpG_run ?_ (fun K hK => ?_); (focus rfl); go_simp; (first | (go_at_call 31; (with_reducible refine (var17_any W1.heap.size CU _ _ _ (ho6.later hN) hG.size (by omega) (by have := HLT.out; omega)).mono ?_); rintro r w7 ⟨v7, rfl, ho7, hb0⟩; have hG0 : Gr W1 w7 := Below.trans hG hb0; clear hG hb0; have hG := hG0; clear hG0; have hb := Gr.refl w7) | (go_at_call 31; (with_reducible refine (var17_any W1.heap.size CN _ _ _ ho7 hG.size (by omega) (by have := HLT.out; simp only [List.length_append]; omega)).mono ?_); rintro r w8 ⟨v8, rfl, ho8, hb0⟩; have hG0 : Gr W1 w8 := Below.trans hG hb0; clear hG hb0; have hG := hG0; clear hG0; have hb := Gr.refl w8)); (try dsimp only); replace hG := hG.trans hb; refine hK.out _ _ hG ?_; clear hK K hb; try simp only [Act.put, List.setIfInBounds_toArray, List.set_cons_zero, List.set_cons_succ]))
          refine wpG_last ?_ (fun K hK => ?_); (focus rfl)
          have hc := hG.cells
          have hm := hG.marks
          go_simp
          refine hK.out _ _ ?_
          try simp only [Act.put, List.setIfInBounds_toArray, List.set_cons_zero, List.set_cons_succ]
          clear hK K hc hm
          refine wpG_done ?_
          clear c_f0 c_f1 c_f2 c_f3 c_f4 c_f5 c_f6 c_f7 c_f8 c_f9 c_f10 c_f11 m_f0 m_f1 m_f2 m_f3 m_f4 m_f5 m_f6 m_f7 m_f8 m_f9 m_f10 m_f11 l_f
          obtain ⟨a5, ha5⟩ : ∃ a, aT ++ varB CU ++ varB CN = a := ⟨_, rfl⟩
          rw [ha5] at ho8 HEN
          obtain ⟨q8, d8, rfl⟩ := (Sl.of_owns ho8).len
          have hal5 : a5.length ≤ 2097152 := by have := HLT.out; rw [← ha5]; simp only [List.length_append]; omega
          have a4r := hG.cell a4
          have hb3r := Nat.lt_of_lt_of_le hb3 hG.size
          have xq := xe.later hG
          have c_e0 := xq.cell 0 _ rfl
          have c_e1 := xq.cell 1 _ rfl
          have c_e2 := xq.cell 2 _ rfl
          have c_e3 := xq.cell 3 _ rfl
          have c_e4 := xq.cell 4 _ rfl
          have c_e5 := xq.cell 5 _ rfl
          have c_e6 := xq.cell 6 _ rfl
          have c_e7 := xq.cell 7 _ rfl
          have c_e8 := xq.cell 8 _ rfl
          have c_e9 := xq.cell 9 _ rfl
          have c_e10 := xq.cell 10 _ rfl
          have c_e11 := xq.cell 11 _ rfl
          have m_e0 := xq.mark 0 _ rfl
          have m_e1 := xq.mark 1 _ rfl
          have m_e2 := xq.mark 2 _ rfl
          have m_e3 := xq.mark 3 _ rfl
          have m_e4 := xq.mark 4 _ rfl
          have m_e5 := xq.mark 5 _ rfl
          have m_e6 := xq.mark 6 _ rfl
          have m_e7 := xq.mark 7 _ rfl
          have m_e8 := xq.mark 8 _ rfl
          have m_e9 := xq.mark 9 _ rfl
          have m_e10 := xq.mark 10 _ rfl
          have m_e11 := xq.mark 11 _ rfl
          have l_e := xq.lt (Nat.succ_pos _)
          go_wp2_with fail
          clear c_e0 c_e1 c_e2 c_e3 c_e4 c_e5 c_e6 c_e7 c_e8 c_e9 c_e10 c_e11 m_e0 m_e1 m_e2 m_e3 m_e4 m_e5 m_e6 m_e7 m_e8 m_e9 m_e10 m_e11 l_e
          go_at_call 31
          (with_reducible refine (var17_any W1.heap.size ac.length _ a5 w8 ho8 hG.size (by omega) (by omega)).mono ?_); rintro r w9 ⟨v9, rfl, ho9, hb0⟩
          have hg9 : Gr W1 w9 := Below.trans hG hb0
          obtain ⟨a6, ha6⟩ : ∃ a, a5 ++ varB ac.length = a := ⟨_, rfl⟩
          obtain ⟨rk, hrk⟩ : ∃ r, ((rcOf t).rules.drop (k + 1)).flatMap encR ++ (encI t.count ++ r3) = r := ⟨_, rfl⟩
          have HRK := Lib.hid hrk
          rw [ha6] at ho9 HEN
          rw [hrk] at HEN
          have HO9 := Lib.hid ho9
          obtain ⟨q9, d9, rfl⟩ := (Sl.of_owns ho9).len
          have a4s := hg9.cell a4
          have hb3s := Nat.lt_of_lt_of_le hb3 hg9.size
          have xs := xe.later hg9
          clear hG hb0 ho6 ho7 ho8 ho9 ha5 ha6 hrk hal2 hal5 a4r hb3r xq xr HE HO
          have c_e0 := xs.cell 0 _ rfl
          have c_e1 := xs.cell 1 _ rfl
          have c_e2 := xs.cell 2 _ rfl
          have c_e3 := xs.cell 3 _ rfl
          have c_e4 := xs.cell 4 _ rfl
          have c_e5 := xs.cell 5 _ rfl
          have c_e6 := xs.cell 6 _ rfl
          have c_e7 := xs.cell 7 _ rfl
          have c_e8 := xs.cell 8 _ rfl
          have c_e9 := xs.cell 9 _ rfl
          have c_e10 := xs.cell 10 _ rfl
          have c_e11 := xs.cell 11 _ rfl
          have m_e0 := xs.mark 0 _ rfl
          have m_e1 := xs.mark 1 _ rfl
          have m_e2 := xs.mark 2 _ rfl
          have m_e3 := xs.mark 3 _ rfl
          have m_e4 := xs.mark 4 _ rfl
          have m_e5 := xs.mark 5 _ rfl
          have m_e6 := xs.mark 6 _ rfl
          have m_e7 := xs.mark 7 _ rfl
          have m_e8 := xs.mark 8 _ rfl
          have m_e9 := xs.mark 9 _ rfl
          have m_e10 := xs.mark 10 _ rfl
          have m_e11 := xs.mark 11 _ rfl
          have l_e := xs.lt (Nat.succ_pos _)
          go_wp2_with fail
          clear c_e0 c_e1 c_e2 c_e3 c_e4 c_e5 c_e6 c_e7 c_e8 c_e9 c_e10 c_e11 m_e0 m_e1 m_e2 m_e3 m_e4 m_e5 m_e6 m_e7 m_e8 m_e9 m_e10 m_e11 l_e
          go_loopw [4, 7] (fun b i wr => ∃ (j : Nat) (acc : List UInt8), j ≤ ac.length ∧ i = .int .i64 (j : Int) ∧ Gr W1 wr ∧ Hid (OwnB wr W1.heap.size b acc) ∧ Hid (acc ++ ((ac.drop j).flatMap encA ++ rk) = T) ∧ ∃ p c, b = .slice p acc.length c) (fun _ i _ => ac.length - (intOf i).toNat)
          case atStart => exact ⟨0, _, Nat.zero_le _, rfl, hg9, HO9, Lib.hid (by rw [List.drop_zero]; exact HEN.out), _, _, rfl⟩
          case round =>
            clear hg9 HO9 HEN xs a4s hb3s
            obtain ⟨j, acc, hj, rfl, hg, HO, HE, q, d, rfl⟩ := hrel
            have hal := acc_le HE.out hTL
            rcases Nat.lt_or_ge j ac.length with hjl | hjl
            · obtain ⟨⟨ad, am⟩, hx⟩ : ∃ x, ac[j]? = some x := ⟨_, List.getElem?_eq_getElem hjl⟩
              obtain ⟨⟨hp1, hp2⟩, hp3, hp4⟩ := HP7.out _ (List.mem_of_getElem? hx)
              dsimp only at hp1 hp2 hp3 hp4
              obtain ⟨D, rfl⟩ : ∃ Y : Nat, ad = (Y : Int) := ⟨ad.toNat, by omega⟩
              obtain ⟨M, rfl⟩ : ∃ Y : Nat, am = (Y : Int) := ⟨am.toNat, by omega⟩
              obtain ⟨b4, o4, rfl, hb4, g1, g2⟩ := pr_at HU.out hx
              dsimp only at g1 g2
              have g1r := hg.cell g1
              have g2r := hg.cell g2
              have hb4r := Nat.lt_of_lt_of_le hb4 hg.size
              have HEN := Lib.hid (show (acc ++ varB D ++ varB M) ++ ((ac.drop (j + 1)).flatMap encA ++ rk) = T by
                rw [← HE.out, drop_step hx encA, show encA ((D : Int), (M : Int)) = varB D ++ varB M from rfl]; simp)
              have hal2 : (acc ++ varB D ++ varB M).length ≤ 2097152 := acc_le HEN.out hTL
              simp only [List.length_append] at hal2
              have hjI : (j : Int) < (ac.length : Int) := by omega
              have HJL := Lib.hid hjl
              clear hx hj hjl
              have xr := xe.later hg
              have a4t := hg.cell a4
              have hb3t := Nat.lt_of_lt_of_le hb3 hg.size
              have c_e0 := xr.cell 0 _ rfl
              have c_e1 := xr.cell 1 _ rfl
              have c_e2 := xr.cell 2 _ rfl
              have c_e3 := xr.cell 3 _ rfl
              have c_e4 := xr.cell 4 _ rfl
              have c_e5 := xr.cell 5 _ rfl
              have c_e6 := xr.cell 6 _ rfl
              have c_e7 := xr.cell 7 _ rfl
              have c_e8 := xr.cell 8 _ rfl
              have c_e9 := xr.cell 9 _ rfl
              have c_e10 := xr.cell 10 _ rfl
              have c_e11 := xr.cell 11 _ rfl
              have m_e0 := xr.mark 0 _ rfl
              have m_e1 := xr.mark 1 _ rfl
              have m_e2 := xr.mark 2 _ rfl
              have m_e3 := xr.mark 3 _ rfl
              have m_e4 := xr.mark 4 _ rfl
              have m_e5 := xr.mark 5 _ rfl
              have m_e6 := xr.mark 6 _ rfl
              have m_e7 := xr.mark 7 _ rfl
              have m_e8 := xr.mark 8 _ rfl
              have m_e9 := xr.mark 9 _ rfl
              have m_e10 := xr.mark 10 _ rfl
              have m_e11 := xr.mark 11 _ rfl
              have l_e := xr.lt (Nat.succ_pos _)
              go_wp2_with fail
              clear c_e0 c_e1 c_e2 c_e3 c_e4 c_e5 c_e6 c_e7 c_e8 c_e9 c_e10 c_e11 m_e0 m_e1 m_e2 m_e3 m_e4 m_e5 m_e6 m_e7 m_e8 m_e9 m_e10 m_e11 l_e
              have c_f0 := xe.cell 0 _ rfl
              have c_f1 := xe.cell 1 _ rfl
              have c_f2 := xe.cell 2 _ rfl
              have c_f3 := xe.cell 3 _ rfl
              have c_f4 := xe.cell 4 _ rfl
              have c_f5 := xe.cell 5 _ rfl
              have c_f6 := xe.cell 6 _ rfl
              have c_f7 := xe.cell 7 _ rfl
              have c_f8 := xe.cell 8 _ rfl
              have c_f9 := xe.cell 9 _ rfl
              have c_f10 := xe.cell 10 _ rfl
              have c_f11 := xe.cell 11 _ rfl
              have m_f0 := xe.mark 0 _ rfl
              have m_f1 := xe.mark 1 _ rfl
              have m_f2 := xe.mark 2 _ rfl
              have m_f3 := xe.mark 3 _ rfl
              have m_f4 := xe.mark 4 _ rfl
              have m_f5 := xe.mark 5 _ rfl
              have m_f6 := xe.mark 6 _ rfl
              have m_f7 := xe.mark 7 _ rfl
              have m_f8 := xe.mark 8 _ rfl
              have m_f9 := xe.mark 9 _ rfl
              have m_f10 := xe.mark 10 _ rfl
              have m_f11 := xe.mark 11 _ rfl
              have l_f := xe.lt (Nat.succ_pos _)
              refine wp_region_S (Gr W1) (.take 0 (.take 1 (.take 2 (.take 3 (.take 4 (.take 5 (.take 6 (.take 7 (.take 8 (.take 9 (.take 11 (.take 12 (.take 13 (.take 14 (.take 15 (.take 16 (.take 17 (.take 18 (.take 19 (.run 10 false (.run 20 false (.run 21 true .nil)))))))))))))))))))))) (hg.trans (Gr.drew _)) (by kernel_rfl) (by kernel_rfl) ?_
              simp only [pickOps, nthOp]
              intro wq hN hG
              repeat (first | (refine wpG_skip_take ?_ ?_; (focus rfl); try simp only [Act.put, List.setIfInBounds_toArray, List.set_cons_zero, List.set_cons_succ]) | (refine wpG_skip_run ?_ ?_; (focus rfl); try simp only [Act.put, List.setIfInBounds_toArray, List.set_cons_zero, List.set_cons_succ]) | (refine wpG_take ?_ ?_; (focus rfl); apply Exists.intro; refine ⟨fun w' hw' => ?_, ?_⟩; (focus (have hc := Gr.cells hw'; go_simp; (try rfl); done)); try simp only [Act.put, List.setIfInBounds_toArray, List.set_cons_zero, List.set_cons_succ]) | (refine wpG_run ?_ (fun K hK => ?_); (focus rfl); go_simp; (first | (go_at_call 31; (with_reducible refine (var17_any W1.heap.size D _ acc _ (HO.out.later hN) hG.size (by omega) (by omega)).mono ?_); rintro r w6 ⟨v6, rfl, ho6, hb0⟩; have hG0 : Gr W1 w6 := Below.trans hG hb0; clear hG hb0; have hG := hG0; clear hG0; have hb := Gr.refl w6) | (go_at_call 31; (with_reducible refine (var17_any W1.heap.size M _ _ _ ho6 hG.size (by omega) (by simp only [List.length_append]; omega)).mono ?_); rintro r w7 ⟨v7, rfl, ho7, hb0⟩; have hG0 : Gr W1 w7 := Below.trans hG hb0; clear hG hb0; have hG := hG0; clear hG0; have hb := Gr.refl w7)); (try dsimp only); replace hG := hG.trans hb; refine hK.out _ _ hG ?_; clear hK K hb; try simp only [Act.put, List.setIfInBounds_toArray, List.set_cons_zero, List.set_cons_succ]))
              refine wpG_last ?_ (fun K hK => ?_); (focus rfl)
              have hc := hG.cells
              have hm := hG.marks
              go_simp
              refine hK.out _ _ ?_
              try simp only [Act.put, List.setIfInBounds_toArray, List.set_cons_zero, List.set_cons_succ]
              clear hK K hc hm
              refine wpG_done ?_
              clear c_f0 c_f1 c_f2 c_f3 c_f4 c_f5 c_f6 c_f7 c_f8 c_f9 c_f10 c_f11 m_f0 m_f1 m_f2 m_f3 m_f4 m_f5 m_f6 m_f7 m_f8 m_f9 m_f10 m_f11 l_f
              obtain ⟨a7, ha7⟩ : ∃ a, acc ++ varB D ++ varB M = a := ⟨_, rfl⟩
              rw [ha7] at ho7 HEN
              have HO7 := Lib.hid ho7
              obtain ⟨q7, d7, rfl⟩ := (Sl.of_owns ho7).len
              have hg7 := hG
              clear ho6 ho7 ha7 hG xr
              go_wp2_with fail
              go_roundw
              case rel => exact ⟨j + 1, a7, by have := HJL.out; omega, by go_num, hg7, HO7, HEN, _, _, rfl⟩
              case measure => have := HJL.out; simp [intOf]; omega
            · have hjn : j = ac.length := by omega
              subst hjn
              have HE2 := Lib.hid (show acc ++ (((rcOf t).rules.drop (k + 1)).flatMap encR ++ (encI t.count ++ r3)) = T by
                rw [HRK.out, ← HE.out, List.drop_of_length_le (Nat.le_refl _)]; rfl)
              clear hj hjl
              have xr := xe.later hg
              have a4t := hg.cell a4
              have hb3t := Nat.lt_of_lt_of_le hb3 hg.size
              have c_e0 := xr.cell 0 _ rfl
              have c_e1 := xr.cell 1 _ rfl
              have c_e2 := xr.cell 2 _ rfl
              have c_e3 := xr.cell 3 _ rfl
              have c_e4 := xr.cell 4 _ rfl
              have c_e5 := xr.cell 5 _ rfl
              have c_e6 := xr.cell 6 _ rfl
              have c_e7 := xr.cell 7 _ rfl
              have c_e8 := xr.cell 8 _ rfl
              have c_e9 := xr.cell 9 _ rfl
              have c_e10 := xr.cell 10 _ rfl
              have c_e11 := xr.cell 11 _ rfl
              have m_e0 := xr.mark 0 _ rfl
              have m_e1 := xr.mark 1 _ rfl
              have m_e2 := xr.mark 2 _ rfl
              have m_e3 := xr.mark 3 _ rfl
              have m_e4 := xr.mark 4 _ rfl
              have m_e5 := xr.mark 5 _ rfl
              have m_e6 := xr.mark 6 _ rfl
              have m_e7 := xr.mark 7 _ rfl
              have m_e8 := xr.mark 8 _ rfl
              have m_e9 := xr.mark 9 _ rfl
              have m_e10 := xr.mark 10 _ rfl
              have m_e11 := xr.mark 11 _ rfl
              have l_e := xr.lt (Nat.succ_pos _)
              go_wp2_with fail
              go_roundw
              case rel => exact ⟨k + 1, acc, by have := HKL.out; omega, by go_num, hg, HO, HE2, _, _, rfl⟩
              case measure => have := HKL.out; simp [intOf]; omega
        · have hkn : k = N := by omega
          subst hkn
          have HE1 := Lib.hid (show acc ++ (varB CT ++ r3) = T by
            rw [← HE.out, List.drop_of_length_le (by rw [HZ.out.2.1]; exact Nat.le_refl _), HCT.out]; rfl)
          clear HE hk hkl
          have c_e0 := xr.cell 0 _ rfl
          have c_e1 := xr.cell 1 _ rfl
          have c_e2 := xr.cell 2 _ rfl
          have c_e3 := xr.cell 3 _ rfl
          have c_e4 := xr.cell 4 _ rfl
          have c_e5 := xr.cell 5 _ rfl
          have c_e6 := xr.cell 6 _ rfl
          have c_e7 := xr.cell 7 _ rfl
          have c_e8 := xr.cell 8 _ rfl
          have c_e9 := xr.cell 9 _ rfl
          have c_e10 := xr.cell 10 _ rfl
          have c_e11 := xr.cell 11 _ rfl
          have m_e0 := xr.mark 0 _ rfl
          have m_e1 := xr.mark 1 _ rfl
          have m_e2 := xr.mark 2 _ rfl
          have m_e3 := xr.mark 3 _ rfl
          have m_e4 := xr.mark 4 _ rfl
          have m_e5 := xr.mark 5 _ rfl
          have m_e6 := xr.mark 6 _ rfl
          have m_e7 := xr.mark 7 _ rfl
          have m_e8 := xr.mark 8 _ rfl
          have m_e9 := xr.mark 9 _ rfl
          have m_e10 := xr.mark 10 _ rfl
          have m_e11 := xr.mark 11 _ rfl
          have l_e := xr.lt (Nat.succ_pos _)
          go_wp2_with fail
          clear c_e0 c_e1 c_e2 c_e3 c_e4 c_e5 c_e6 c_e7 c_e8 c_e9 c_e10 c_e11 m_e0 m_e1 m_e2 m_e3 m_e4 m_e5 m_e6 m_e7 m_e8 m_e9 m_e10 m_e11 l_e
          go_at_call 31
          (with_reducible refine (var17_any W1.heap.size CT _ acc wr HO.out hg.size (by omega) (by omega)).mono ?_); rintro r w5 ⟨v5, rfl, ho, hb0⟩
          have hg5 : Gr W1 w5 := Below.trans hg hb0
          clear hg hb0 HO
          have hg := hg5
          clear hg5
          obtain ⟨a3, ha3⟩ : ∃ a, acc ++ varB CT = a := ⟨_, rfl⟩
          rw [ha3] at ho
          have HO := Lib.hid ho
          have HE := Lib.hid (show a3 ++ ((rcOf t).classes.flatMap encI ++ (varB Z ++ r4)) = T by rw [HR3.out]; rw [← ha3, List.append_assoc]; exact HE1.out)
          obtain ⟨q5, d5, rfl⟩ := (Sl.of_owns ho).len
          clear ho ha3 HE1
          have xr := xe.later hg
          have c_e0 := xr.cell 0 _ rfl
          have c_e1 := xr.cell 1 _ rfl
          have c_e2 := xr.cell 2 _ rfl
          have c_e3 := xr.cell 3 _ rfl
          have c_e4 := xr.cell 4 _ rfl
          have c_e5 := xr.cell 5 _ rfl
          have c_e6 := xr.cell 6 _ rfl
          have c_e7 := xr.cell 7 _ rfl
          have c_e8 := xr.cell 8 _ rfl
          have c_e9 := xr.cell 9 _ rfl
          have c_e10 := xr.cell 10 _ rfl
          have c_e11 := xr.cell 11 _ rfl
          have m_e0 := xr.mark 0 _ rfl
          have m_e1 := xr.mark 1 _ rfl
          have m_e2 := xr.mark 2 _ rfl
          have m_e3 := xr.mark 3 _ rfl
          have m_e4 := xr.mark 4 _ rfl
          have m_e5 := xr.mark 5 _ rfl
          have m_e6 := xr.mark 6 _ rfl
          have m_e7 := xr.mark 7 _ rfl
          have m_e8 := xr.mark 8 _ rfl
          have m_e9 := xr.mark 9 _ rfl
          have m_e10 := xr.mark 10 _ rfl
          have m_e11 := xr.mark 11 _ rfl
          have l_e := xr.lt (Nat.succ_pos _)
          go_wp2_with fail
          clear c_e0 c_e1 c_e2 c_e3 c_e4 c_e5 c_e6 c_e7 c_e8 c_e9 c_e10 c_e11 m_e0 m_e1 m_e2 m_e3 m_e4 m_e5 m_e6 m_e7 m_e8 m_e9 m_e10 m_e11 l_e
          clear xr
          go_loopw [4, 8] (fun b i wr => ∃ (k : Nat) (acc : List UInt8), k ≤ K ∧ i = .int .i64 (k : Int) ∧ Gr W1 wr ∧ Hid (OwnB wr W1.heap.size b acc) ∧ Hid (acc ++ (((rcOf t).classes.drop k).flatMap encI ++ (varB Z ++ r4)) = T) ∧ ∃ p c, b = .slice p acc.length c) (fun _ i _ => K - (intOf i).toNat)
          case atStart => exact ⟨0, _, Nat.zero_le _, rfl, hg, HO, Lib.hid (by rw [List.drop_zero]; exact HE.out), _, _, rfl⟩
          case round =>
            clear hg HO HE
            obtain ⟨k3, acc, hk, rfl, hg, HO, HE, q, d, rfl⟩ := hrel
            have xr := xe.later hg
            have hal := acc_le HE.out hTL
            rcases Nat.lt_or_ge k3 K with hkl | hkl
            · obtain ⟨x, hx⟩ : ∃ x, t.classes[k3]? = some x := ⟨_, List.getElem?_eq_getElem (by rw [HLE.out.2.2.1]; exact hkl)⟩
              obtain ⟨hp1, hp2⟩ := HP.out.2.2.2.1.2 _ (List.mem_of_getElem? (show (rcOf t).classes[k3]? = some x from hx))
              obtain ⟨Y, rfl⟩ : ∃ Y : Nat, x = (Y : Int) := ⟨x.toNat, by omega⟩
              obtain ⟨b1, o1, rfl, hb1, a1⟩ := int_at (w := wr) (HLE.out.2.2.1 ▸ HK.out.later (hgW1.trans hg) : Sl wr (.slice pk t.classes.length ck) 1 t.classes.length (t.classes.map vI)) hx
              have HEN := Lib.hid (show (acc ++ varB Y) ++ (((rcOf t).classes.drop (k3 + 1)).flatMap encI ++ (varB Z ++ r4)) = T by
                rw [← HE.out, drop_step (show (rcOf t).classes[k3]? = some (Y : Int) from hx) encI, show encI (Y : Int) = varB Y from rfl]; simp)
              have hkI : (k3 : Int) < (K : Int) := by omega
              have HKL := Lib.hid hkl
              clear hx hk hkl
              have c_e0 := xr.cell 0 _ rfl
              have c_e1 := xr.cell 1 _ rfl
              have c_e2 := xr.cell 2 _ rfl
              have c_e3 := xr.cell 3 _ rfl
              have c_e4 := xr.cell 4 _ rfl
              have c_e5 := xr.cell 5 _ rfl
              have c_e6 := xr.cell 6 _ rfl
              have c_e7 := xr.cell 7 _ rfl
              have c_e8 := xr.cell 8 _ rfl
              have c_e9 := xr.cell 9 _ rfl
              have c_e10 := xr.cell 10 _ rfl
              have c_e11 := xr.cell 11 _ rfl
              have m_e0 := xr.mark 0 _ rfl
              have m_e1 := xr.mark 1 _ rfl
              have m_e2 := xr.mark 2 _ rfl
              have m_e3 := xr.mark 3 _ rfl
              have m_e4 := xr.mark 4 _ rfl
              have m_e5 := xr.mark 5 _ rfl
              have m_e6 := xr.mark 6 _ rfl
              have m_e7 := xr.mark 7 _ rfl
              have m_e8 := xr.mark 8 _ rfl
              have m_e9 := xr.mark 9 _ rfl
              have m_e10 := xr.mark 10 _ rfl
              have m_e11 := xr.mark 11 _ rfl
              have l_e := xr.lt (Nat.succ_pos _)
              go_wp2_with fail
              clear c_e0 c_e1 c_e2 c_e3 c_e4 c_e5 c_e6 c_e7 c_e8 c_e9 c_e10 c_e11 m_e0 m_e1 m_e2 m_e3 m_e4 m_e5 m_e6 m_e7 m_e8 m_e9 m_e10 m_e11 l_e
              go_at_call 31
              (with_reducible refine (var17_any W1.heap.size Y _ acc wr HO.out hg.size (by omega) (by omega)).mono ?_); rintro r w6 ⟨v6, rfl, ho6, hb0⟩
              have hg6 : Gr W1 w6 := Below.trans hg hb0
              obtain ⟨a7, ha7⟩ : ∃ a, acc ++ varB Y = a := ⟨_, rfl⟩
              rw [ha7] at ho6 HEN
              have HO6 := Lib.hid ho6
              obtain ⟨q7, d7, rfl⟩ := (Sl.of_owns ho6).len
              clear hb0 ho6 ha7 xr
              go_wp2_with fail
              go_roundw
              case rel => exact ⟨k3 + 1, a7, by have := HKL.out; omega, by go_num, hg6, HO6, HEN, _, _, rfl⟩
              case measure => have := HKL.out; simp [intOf]; omega
            · have hkn : k3 = K := by omega
              subst hkn
              have HE1 := Lib.hid (show acc ++ (varB Z ++ r4) = T by
                rw [← HE.out, List.drop_of_length_le (by show t.classes.length ≤ _; rw [HLE.out.2.2.1]; exact Nat.le_refl _)]; rfl)
              clear HE hk hkl
              have c_e0 := xr.cell 0 _ rfl
              have c_e1 := xr.cell 1 _ rfl
              have c_e2 := xr.cell 2 _ rfl
              have c_e3 := xr.cell 3 _ rfl
              have c_e4 := xr.cell 4 _ rfl
              have c_e5 := xr.cell 5 _ rfl
              have c_e6 := xr.cell 6 _ rfl
              have c_e7 := xr.cell 7 _ rfl
              have c_e8 := xr.cell 8 _ rfl
              have c_e9 := xr.cell 9 _ rfl
              have c_e10 := xr.cell 10 _ rfl
              have c_e11 := xr.cell 11 _ rfl
              have m_e0 := xr.mark 0 _ rfl
              have m_e1 := xr.mark 1 _ rfl
              have m_e2 := xr.mark 2 _ rfl
              have m_e3 := xr.mark 3 _ rfl
              have m_e4 := xr.mark 4 _ rfl
              have m_e5 := xr.mark 5 _ rfl
              have m_e6 := xr.mark 6 _ rfl
              have m_e7 := xr.mark 7 _ rfl
              have m_e8 := xr.mark 8 _ rfl
              have m_e9 := xr.mark 9 _ rfl
              have m_e10 := xr.mark 10 _ rfl
              have m_e11 := xr.mark 11 _ rfl
              have l_e := xr.lt (Nat.succ_pos _)
              go_wp2_with fail
              clear c_e0 c_e1 c_e2 c_e3 c_e4 c_e5 c_e6 c_e7 c_e8 c_e9 c_e10 c_e11 m_e0 m_e1 m_e2 m_e3 m_e4 m_e5 m_e6 m_e7 m_e8 m_e9 m_e10 m_e11 l_e
              go_at_call 31
              (with_reducible refine (var17_any W1.heap.size Z _ acc wr HO.out hg.size (by omega) (by omega)).mono ?_); rintro r w5 ⟨v5, rfl, ho, hb0⟩
              have hg5 : Gr W1 w5 := Below.trans hg hb0
              clear hg hb0 HO
              have hg := hg5
              clear hg5
              obtain ⟨a3, ha3⟩ : ∃ a, acc ++ varB Z = a := ⟨_, rfl⟩
              rw [ha3] at ho
              have HO := Lib.hid ho
              have HE := Lib.hid (show a3 ++ ((rcOf t).states.flatMap encS ++ (varB C ++ r5)) = T by rw [HR4.out]; rw [← ha3, List.append_assoc]; exact HE1.out)
              obtain ⟨q5, d5, rfl⟩ := (Sl.of_owns ho).len
              clear ho ha3 HE1
              have xr := xe.later hg
              have c_e0 := xr.cell 0 _ rfl
              have c_e1 := xr.cell 1 _ rfl
              have c_e2 := xr.cell 2 _ rfl
              have c_e3 := xr.cell 3 _ rfl
              have c_e4 := xr.cell 4 _ rfl
              have c_e5 := xr.cell 5 _ rfl
              have c_e6 := xr.cell 6 _ rfl
              have c_e7 := xr.cell 7 _ rfl
              have c_e8 := xr.cell 8 _ rfl
              have c_e9 := xr.cell 9 _ rfl
              have c_e10 := xr.cell 10 _ rfl
              have c_e11 := xr.cell 11 _ rfl
              have m_e0 := xr.mark 0 _ rfl
              have m_e1 := xr.mark 1 _ rfl
              have m_e2 := xr.mark 2 _ rfl
              have m_e3 := xr.mark 3 _ rfl
              have m_e4 := xr.mark 4 _ rfl
              have m_e5 := xr.mark 5 _ rfl
              have m_e6 := xr.mark 6 _ rfl
              have m_e7 := xr.mark 7 _ rfl
              have m_e8 := xr.mark 8 _ rfl
              have m_e9 := xr.mark 9 _ rfl
              have m_e10 := xr.mark 10 _ rfl
              have m_e11 := xr.mark 11 _ rfl
              have l_e := xr.lt (Nat.succ_pos _)
              go_wp2_with fail
              clear c_e0 c_e1 c_e2 c_e3 c_e4 c_e5 c_e6 c_e7 c_e8 c_e9 c_e10 c_e11 m_e0 m_e1 m_e2 m_e3 m_e4 m_e5 m_e6 m_e7 m_e8 m_e9 m_e10 m_e11 l_e
              clear xr
              go_loopw [4, 9] (fun b i wr => ∃ (k : Nat) (acc : List UInt8), k ≤ Z ∧ i = .int .i64 (k : Int) ∧ Gr W1 wr ∧ Hid (OwnB wr W1.heap.size b acc) ∧ Hid (acc ++ (((rcOf t).states.drop k).flatMap encS ++ (varB C ++ r5)) = T) ∧ ∃ p c, b = .slice p acc.length c) (fun _ i _ => Z - (intOf i).toNat)
              case atStart => exact ⟨0, _, Nat.zero_le _, rfl, hg, HO, Lib.hid (by rw [List.drop_zero]; exact HE.out), _, _, rfl⟩
              case round =>
                clear hg HO HE
                obtain ⟨k4, acc, hk, rfl, hg, HO, HE, q, d, rfl⟩ := hrel
                have xr := xe.later hg
                have hal := acc_le HE.out hTL
                rcases Nat.lt_or_ge k4 Z with hkl | hkl
                · obtain ⟨x, hx⟩ : ∃ x, t.label[k4]? = some x := ⟨_, List.getElem?_eq_getElem (by rw [HLN.out.2.2.2.1, HLE.out.2.2.2.1]; exact hkl)⟩
                  obtain ⟨y, hy⟩ : ∃ x, t.base[k4]? = some x := ⟨_, List.getElem?_eq_getElem (by rw [HLE.out.2.2.2.1]; exact hkl)⟩
                  obtain ⟨z, hzz⟩ : ∃ x, t.dflt[k4]? = some x := ⟨_, List.getElem?_eq_getElem (by rw [HLN.out.2.2.2.2.1, HLE.out.2.2.2.1]; exact hkl)⟩
                  have hz : (rcOf t).states[k4]? = some (x, (y, z)) := by
                    show (t.label.zip (t.base.zip t.dflt))[k4]? = _
                    rw [List.getElem?_zip_eq_some]; exact ⟨hx, by rw [List.getElem?_zip_eq_some]; exact ⟨hy, hzz⟩⟩
                  obtain ⟨⟨hp1, hp2⟩, ⟨hp3, hp4⟩, hp5, hp6⟩ := HP.out.2.2.2.2.1.2 _ (List.mem_of_getElem? hz)
                  dsimp only at hp1 hp2 hp3 hp4 hp5 hp6
                  obtain ⟨X, hX⟩ : ∃ X : Nat, x + 1 = (X : Int) := ⟨(x + 1).toNat, by omega⟩
                  obtain ⟨Y, rfl⟩ : ∃ Y : Nat, y = (Y : Int) := ⟨y.toNat, by omega⟩
                  obtain ⟨D, hD⟩ : ∃ X : Nat, z + 1 = (X : Int) := ⟨(z + 1).toNat, by omega⟩
                  have hw1 : IntKind.i64.wrap (x + 1) = (X : Int) := by rw [IntWalk.i64_in _ (by omega), hX]
                  have hw2 : IntKind.i64.wrap (z + 1) = (D : Int) := by rw [IntWalk.i64_in _ (by omega), hD]
                  obtain ⟨b1, o1, rfl, hb1, a1⟩ := int_at (w := W1) ((HLN.out.2.2.2.1.trans HLE.out.2.2.2.1).symm ▸ HB.out.later hgW1 : Sl W1 (.slice pb t.label.length cb) 1 t.label.length (t.label.map vI)) hx
                  obtain ⟨b2, o2, rfl, hb2, a2⟩ := int_at (w := W1) (HLE.out.2.2.2.1 ▸ H1.out.later hgW1 : Sl W1 (.slice p1 t.base.length c1) 1 t.base.length (t.base.map vI)) hy
                  obtain ⟨b3, o3, rfl, hb3, a3⟩ := int_at (w := W1) ((HLN.out.2.2.2.2.1.trans HLE.out.2.2.2.1).symm ▸ H2.out.later hgW1 : Sl W1 (.slice p2 t.dflt.length c2) 1 t.dflt.length (t.dflt.map vI)) hzz
                  have a1r := hg.cell a1
                  have hb1r := Nat.lt_of_lt_of_le hb1 hg.size
                  have HEN := Lib.hid (show (acc ++ varB X ++ varB Y ++ varB D) ++ (((rcOf t).states.drop (k4 + 1)).flatMap encS ++ (varB C ++ r5)) = T by
                    rw [← HE.out, drop_step hz encS, show encS (x, ((Y : Int), z)) = varB X ++ (varB Y ++ varB D) by unfold encS; dsimp only; rw [hX, hD]; rfl]; simp)
                  have hal2 : (acc ++ varB X ++ varB Y ++ varB D).length ≤ 2097152 := acc_le HEN.out hTL
                  simp only [List.length_append] at hal2
                  have HX := Lib.hid hX
                  have HD := Lib.hid hD
                  have hXb : X ≤ 200 := by omega
                  have hYb : Y ≤ 262144 := by omega
                  have hDb : D ≤ 600 := by omega
                  have hkI : (k4 : Int) < (Z : Int) := by omega
                  have HKL := Lib.hid hkl
                  clear hx hy hzz hz hk hkl hX hD
                  have c_e0 := xr.cell 0 _ rfl
                  have c_e1 := xr.cell 1 _ rfl
                  have c_e2 := xr.cell 2 _ rfl
                  have c_e3 := xr.cell 3 _ rfl
                  have c_e4 := xr.cell 4 _ rfl
                  have c_e5 := xr.cell 5 _ rfl
                  have c_e6 := xr.cell 6 _ rfl
                  have c_e7 := xr.cell 7 _ rfl
                  have c_e8 := xr.cell 8 _ rfl
                  have c_e9 := xr.cell 9 _ rfl
                  have c_e10 := xr.cell 10 _ rfl
                  have c_e11 := xr.cell 11 _ rfl
                  have m_e0 := xr.mark 0 _ rfl
                  have m_e1 := xr.mark 1 _ rfl
                  have m_e2 := xr.mark 2 _ rfl
                  have m_e3 := xr.mark 3 _ rfl
                  have m_e4 := xr.mark 4 _ rfl
                  have m_e5 := xr.mark 5 _ rfl
                  have m_e6 := xr.mark 6 _ rfl
                  have m_e7 := xr.mark 7 _ rfl
                  have m_e8 := xr.mark 8 _ rfl
                  have m_e9 := xr.mark 9 _ rfl
                  have m_e10 := xr.mark 10 _ rfl
                  have m_e11 := xr.mark 11 _ rfl
                  have l_e := xr.lt (Nat.succ_pos _)
                  go_wp2_with fail
                  have c_f0 := xe.cell 0 _ rfl
                  have c_f1 := xe.cell 1 _ rfl
                  have c_f2 := xe.cell 2 _ rfl
                  have c_f3 := xe.cell 3 _ rfl
                  have c_f4 := xe.cell 4 _ rfl
                  have c_f5 := xe.cell 5 _ rfl
                  have c_f6 := xe.cell 6 _ rfl
                  have c_f7 := xe.cell 7 _ rfl
                  have c_f8 := xe.cell 8 _ rfl
                  have c_f9 := xe.cell 9 _ rfl
                  have c_f10 := xe.cell 10 _ rfl
                  have c_f11 := xe.cell 11 _ rfl
                  have m_f0 := xe.mark 0 _ rfl
                  have m_f1 := xe.mark 1 _ rfl
                  have m_f2 := xe.mark 2 _ rfl
                  have m_f3 := xe.mark 3 _ rfl
                  have m_f4 := xe.mark 4 _ rfl
                  have m_f5 := xe.mark 5 _ rfl
                  have m_f6 := xe.mark 6 _ rfl
                  have m_f7 := xe.mark 7 _ rfl
                  have m_f8 := xe.mark 8 _ rfl
                  have m_f9 := xe.mark 9 _ rfl
                  have m_f10 := xe.mark 10 _ rfl
                  have m_f11 := xe.mark 11 _ rfl
                  have l_f := xe.lt (Nat.succ_pos _)
                  refine wp_region_S (Gr W1) (.take 0 (.take 1 (.take 2 (.take 3 (.take 4 (.take 5 (.take 6 (.take 8 (.take 9 (.take 10 (.take 11 (.take 12 (.take 13 (.take 15 (.take 16 (.take 17 (.take 18 (.take 19 (.take 20 (.take 21 (.run 7 false (.run 14 false (.run 22 false (.run 23 true .nil)))))))))))))))))))))))) (hg.trans (Gr.drew _)) (by kernel_rfl) (by kernel_rfl) ?_
                  simp only [pickOps, nthOp]
                  intro wq hN hG
                  repeat (first | (refine wpG_skip_take ?_ ?_; (focus rfl); try simp only [Act.put, List.setIfInBounds_toArray, List.set_cons_zero, List.set_cons_succ]) | (refine wpG_skip_run ?_ ?_; (focus rfl); try simp only [Act.put, List.setIfInBounds_toArray, List.set_cons_zero, List.set_cons_succ]) | (refine wpG_take ?_ ?_; (focus rfl); apply Exists.intro; refine ⟨fun w' hw' => ?_, ?_⟩; (focus (have hc := Gr.cells hw'; go_simp; (try rfl); done)); try simp only [Act.put, List.setIfInBounds_toArray, List.set_cons_zero, List.set_cons_succ]) | (refine wpG_run ?_ (fun K hK => ?_); (focus rfl); go_simp; (first | (go_at_call 31; (with_reducible refine (var17_any W1.heap.size X _ acc _ (HO.out.later hN) hG.size (by omega) (by omega)).mono ?_); rintro r w6 ⟨v6, rfl, ho6, hb0⟩; have hG0 : Gr W1 w6 := Below.trans hG hb0; clear hG hb0; have hG := hG0; clear hG0; have hb := Gr.refl w6) | (go_at_call 31; (with_reducible refine (var17_any W1.heap.size Y _ _ _ ho6 hG.size (by omega) (by simp only [List.length_append]; omega)).mono ?_); rintro r w7 ⟨v7, rfl, ho7, hb0⟩; have hG0 : Gr W1 w7 := Below.trans hG hb0; clear hG hb0; have hG := hG0; clear hG0; have hb := Gr.refl w7) | (go_at_call 31; (with_reducible refine (var17_any W1.heap.size D _ _ _ ho7 hG.size (by omega) (by simp only [List.length_append]; omega)).mono ?_); rintro r w8 ⟨v8, rfl, ho8, hb0⟩; have hG0 : Gr W1 w8 := Below.trans hG hb0; clear hG hb0; have hG := hG0; clear hG0; have hb := Gr.refl w8)); (try dsimp only); replace hG := hG.trans hb; refine hK.out _ _ hG ?_; clear hK K hb; try simp only [Act.put, List.setIfInBounds_toArray, List.set_cons_zero, List.set_cons_succ]))
                  refine wpG_last ?_ (fun K hK => ?_); (focus rfl)
                  have hc := hG.cells
                  have hm := hG.marks
                  go_simp
                  refine hK.out _ _ ?_
                  try simp only [Act.put, List.setIfInBounds_toArray, List.set_cons_zero, List.set_cons_succ]
                  clear hK K hc hm
                  refine wpG_done ?_
                  clear c_e0 c_e1 c_e2 c_e3 c_e4 c_e5 c_e6 c_e7 c_e8 c_e9 c_e10 c_e11 m_e0 m_e1 m_e2 m_e3 m_e4 m_e5 m_e6 m_e7 m_e8 m_e9 m_e10 m_e11 l_e
                  clear c_f0 c_f1 c_f2 c_f3 c_f4 c_f5 c_f6 c_f7 c_f8 c_f9 c_f10 c_f11 m_f0 m_f1 m_f2 m_f3 m_f4 m_f5 m_f6 m_f7 m_f8 m_f9 m_f10 m_f11 l_f
                  obtain ⟨a5, ha5⟩ : ∃ a, acc ++ varB X ++ varB Y ++ varB D = a := ⟨_, rfl⟩
                  rw [ha5] at ho8 HEN
                  have HO8 := Lib.hid ho8
                  obtain ⟨q8, d8, rfl⟩ := (Sl.of_owns ho8).len
                  clear ho6 ho7 ho8 ha5 xr
                  go_wp2_with fail
                  go_roundw
                  case rel => exact ⟨k4 + 1, a5, by have := HKL.out; omega, by go_num, hG, HO8, HEN, _, _, rfl⟩
                  case measure => have := HKL.out; simp [intOf]; omega
                · have hkn : k4 = Z := by omega
                  subst hkn
                  have HE1 := Lib.hid (show acc ++ (varB C ++ r5) = T by
                    rw [← HE.out, List.drop_of_length_le (by rw [HZ.out.2.2.1]; exact Nat.le_refl _)]; rfl)
                  clear HE hk hkl
                  have c_e0 := xr.cell 0 _ rfl
                  have c_e1 := xr.cell 1 _ rfl
                  have c_e2 := xr.cell 2 _ rfl
                  have c_e3 := xr.cell 3 _ rfl
                  have c_e4 := xr.cell 4 _ rfl
                  have c_e5 := xr.cell 5 _ rfl
                  have c_e6 := xr.cell 6 _ rfl
                  have c_e7 := xr.cell 7 _ rfl
                  have c_e8 := xr.cell 8 _ rfl
                  have c_e9 := xr.cell 9 _ rfl
                  have c_e10 := xr.cell 10 _ rfl
                  have c_e11 := xr.cell 11 _ rfl
                  have m_e0 := xr.mark 0 _ rfl
                  have m_e1 := xr.mark 1 _ rfl
                  have m_e2 := xr.mark 2 _ rfl
                  have m_e3 := xr.mark 3 _ rfl
                  have m_e4 := xr.mark 4 _ rfl
                  have m_e5 := xr.mark 5 _ rfl
                  have m_e6 := xr.mark 6 _ rfl
                  have m_e7 := xr.mark 7 _ rfl
                  have m_e8 := xr.mark 8 _ rfl
                  have m_e9 := xr.mark 9 _ rfl
                  have m_e10 := xr.mark 10 _ rfl
                  have m_e11 := xr.mark 11 _ rfl
                  have l_e := xr.lt (Nat.succ_pos _)
                  go_wp2_with fail
                  clear c_e0 c_e1 c_e2 c_e3 c_e4 c_e5 c_e6 c_e7 c_e8 c_e9 c_e10 c_e11 m_e0 m_e1 m_e2 m_e3 m_e4 m_e5 m_e6 m_e7 m_e8 m_e9 m_e10 m_e11 l_e
                  go_at_call 31
                  (with_reducible refine (var17_any W1.heap.size C _ acc wr HO.out hg.size (by omega) (by omega)).mono ?_); rintro r w5 ⟨v5, rfl, ho, hb0⟩
                  have hg5 : Gr W1 w5 := Below.trans hg hb0
                  clear hg hb0 HO
                  have hg := hg5
                  clear hg5
                  obtain ⟨a3, ha3⟩ : ∃ a, acc ++ varB C = a := ⟨_, rfl⟩
                  rw [ha3] at ho
                  have HO := Lib.hid ho
                  have HE := Lib.hid (show a3 ++ ((rcOf t).slots.flatMap encC ++ []) = T by rw [List.append_nil, HR5.out]; rw [← ha3, List.append_assoc]; exact HE1.out)
                  obtain ⟨q5, d5, rfl⟩ := (Sl.of_owns ho).len
                  clear ho ha3 HE1
                  have xr := xe.later hg
                  have c_e0 := xr.cell 0 _ rfl
                  have c_e1 := xr.cell 1 _ rfl
                  have c_e2 := xr.cell 2 _ rfl
                  have c_e3 := xr.cell 3 _ rfl
                  have c_e4 := xr.cell 4 _ rfl
                  have c_e5 := xr.cell 5 _ rfl
                  have c_e6 := xr.cell 6 _ rfl
                  have c_e7 := xr.cell 7 _ rfl
                  have c_e8 := xr.cell 8 _ rfl
                  have c_e9 := xr.cell 9 _ rfl
                  have c_e10 := xr.cell 10 _ rfl
                  have c_e11 := xr.cell 11 _ rfl
                  have m_e0 := xr.mark 0 _ rfl
                  have m_e1 := xr.mark 1 _ rfl
                  have m_e2 := xr.mark 2 _ rfl
                  have m_e3 := xr.mark 3 _ rfl
                  have m_e4 := xr.mark 4 _ rfl
                  have m_e5 := xr.mark 5 _ rfl
                  have m_e6 := xr.mark 6 _ rfl
                  have m_e7 := xr.mark 7 _ rfl
                  have m_e8 := xr.mark 8 _ rfl
                  have m_e9 := xr.mark 9 _ rfl
                  have m_e10 := xr.mark 10 _ rfl
                  have m_e11 := xr.mark 11 _ rfl
                  have l_e := xr.lt (Nat.succ_pos _)
                  go_wp2_with fail
                  clear c_e0 c_e1 c_e2 c_e3 c_e4 c_e5 c_e6 c_e7 c_e8 c_e9 c_e10 c_e11 m_e0 m_e1 m_e2 m_e3 m_e4 m_e5 m_e6 m_e7 m_e8 m_e9 m_e10 m_e11 l_e
                  clear xr
                  go_loopw [4, 10] (fun b i wr => ∃ (k : Nat) (acc : List UInt8), k ≤ C ∧ i = .int .i64 (k : Int) ∧ Gr W1 wr ∧ Hid (OwnB wr W1.heap.size b acc) ∧ Hid (acc ++ (((rcOf t).slots.drop k).flatMap encC ++ []) = T) ∧ ∃ p c, b = .slice p acc.length c) (fun _ i _ => C - (intOf i).toNat)
                  case atStart => exact ⟨0, _, Nat.zero_le _, rfl, hg, HO, Lib.hid (by rw [List.drop_zero]; exact HE.out), _, _, rfl⟩
                  case round =>
                    clear hg HO HE
                    obtain ⟨k5, acc, hk, rfl, hg, HO, HE, q, d, rfl⟩ := hrel
                    have xr := xe.later hg
                    have hal := acc_le HE.out hTL
                    rcases Nat.lt_or_ge k5 C with hkl | hkl
                    · obtain ⟨x, hx⟩ : ∃ x, t.check[k5]? = some x := ⟨_, List.getElem?_eq_getElem (by rw [HLN.out.2.2.2.2.2, HLE.out.2.2.2.2]; exact hkl)⟩
                      obtain ⟨y, hy⟩ : ∃ x, t.next[k5]? = some x := ⟨_, List.getElem?_eq_getElem (by rw [HLE.out.2.2.2.2]; exact hkl)⟩
                      have hz : (rcOf t).slots[k5]? = some (x, y) := by show (t.check.zip t.next)[k5]? = _; rw [List.getElem?_zip_eq_some]; exact ⟨hx, hy⟩
                      obtain ⟨⟨hp1, hp2⟩, hp3⟩ := HP.out.2.2.2.2.2.2 _ (List.mem_of_getElem? hz)
                      dsimp only at hp1 hp2 hp3
                      obtain ⟨X, hX⟩ : ∃ X : Nat, x + 1 = (X : Int) := ⟨(x + 1).toNat, by omega⟩
                      have hw1 : IntKind.i64.wrap (x + 1) = (X : Int) := by rw [IntWalk.i64_in _ (by omega), hX]
                      obtain ⟨b1, o1, rfl, hb1, a1⟩ := int_at (w := W1) ((HLN.out.2.2.2.2.2.trans HLE.out.2.2.2.2).symm ▸ H4.out.later hgW1 : Sl W1 (.slice p4 t.check.length c4) 1 t.check.length (t.check.map vI)) hx
                      obtain ⟨b2, o2, rfl, hb2, a2⟩ := int_at (w := W1) (HLE.out.2.2.2.2 ▸ H3.out.later hgW1 : Sl W1 (.slice p3 t.next.length c3) 1 t.next.length (t.next.map vI)) hy
                      have a1r := hg.cell a1
                      have hb1r := Nat.lt_of_lt_of_le hb1 hg.size
                      have hXb : X ≤ 600 := by omega
                      have hkI : (k5 : Int) < (C : Int) := by omega
                      have HKL := Lib.hid hkl
                      have HX := Lib.hid hX
                      have HSP := Lib.hid (drop_step hz encC)
                      have HP3 := Lib.hid hp3
                      clear hx hy hz hk hkl hp3 hX
                      have c_e0 := xr.cell 0 _ rfl
                      have c_e1 := xr.cell 1 _ rfl
                      have c_e2 := xr.cell 2 _ rfl
                      have c_e3 := xr.cell 3 _ rfl
                      have c_e4 := xr.cell 4 _ rfl
                      have c_e5 := xr.cell 5 _ rfl
                      have c_e6 := xr.cell 6 _ rfl
                      have c_e7 := xr.cell 7 _ rfl
                      have c_e8 := xr.cell 8 _ rfl
                      have c_e9 := xr.cell 9 _ rfl
                      have c_e10 := xr.cell 10 _ rfl
                      have c_e11 := xr.cell 11 _ rfl
                      have m_e0 := xr.mark 0 _ rfl
                      have m_e1 := xr.mark 1 _ rfl
                      have m_e2 := xr.mark 2 _ rfl
                      have m_e3 := xr.mark 3 _ rfl
                      have m_e4 := xr.mark 4 _ rfl
                      have m_e5 := xr.mark 5 _ rfl
                      have m_e6 := xr.mark 6 _ rfl
                      have m_e7 := xr.mark 7 _ rfl
                      have m_e8 := xr.mark 8 _ rfl
                      have m_e9 := xr.mark 9 _ rfl
                      have m_e10 := xr.mark 10 _ rfl
                      have m_e11 := xr.mark 11 _ rfl
                      have l_e := xr.lt (Nat.succ_pos _)
                      go_wp2_with fail
                      clear c_e0 c_e1 c_e2 c_e3 c_e4 c_e5 c_e6 c_e7 c_e8 c_e9 c_e10 c_e11 m_e0 m_e1 m_e2 m_e3 m_e4 m_e5 m_e6 m_e7 m_e8 m_e9 m_e10 m_e11 l_e
                      go_at_call 31
                      (with_reducible refine (var17_any W1.heap.size X _ acc wr HO.out hg.size (by omega) (by omega)).mono ?_); rintro r w6 ⟨v6, rfl, ho6, hb0⟩
                      have hg6 : Gr W1 w6 := Below.trans hg hb0
                      obtain ⟨a7, ha7⟩ : ∃ a, acc ++ varB X = a := ⟨_, rfl⟩
                      rw [ha7] at ho6
                      have HA7 := Lib.hid ha7
                      have HO6 := Lib.hid ho6
                      obtain ⟨q7, d7, rfl⟩ := (Sl.of_owns ho6).len
                      have a2r := hg6.cell a2
                      have a1s := hg6.cell a1
                      have hb1s := Nat.lt_of_lt_of_le hb1 hg6.size
                      have hb2r := Nat.lt_of_lt_of_le hb2 hg6.size
                      have xq := xe.later hg6
                      clear hb0 ho6 ha7 xr
                      have c_e0 := xq.cell 0 _ rfl
                      have c_e1 := xq.cell 1 _ rfl
                      have c_e2 := xq.cell 2 _ rfl
                      have c_e3 := xq.cell 3 _ rfl
                      have c_e4 := xq.cell 4 _ rfl
                      have c_e5 := xq.cell 5 _ rfl
                      have c_e6 := xq.cell 6 _ rfl
                      have c_e7 := xq.cell 7 _ rfl
                      have c_e8 := xq.cell 8 _ rfl
                      have c_e9 := xq.cell 9 _ rfl
                      have c_e10 := xq.cell 10 _ rfl
                      have c_e11 := xq.cell 11 _ rfl
                      have m_e0 := xq.mark 0 _ rfl
                      have m_e1 := xq.mark 1 _ rfl
                      have m_e2 := xq.mark 2 _ rfl
                      have m_e3 := xq.mark 3 _ rfl
                      have m_e4 := xq.mark 4 _ rfl
                      have m_e5 := xq.mark 5 _ rfl
                      have m_e6 := xq.mark 6 _ rfl
                      have m_e7 := xq.mark 7 _ rfl
                      have m_e8 := xq.mark 8 _ rfl
                      have m_e9 := xq.mark 9 _ rfl
                      have m_e10 := xq.mark 10 _ rfl
                      have m_e11 := xq.mark 11 _ rfl
                      have l_e := xq.lt (Nat.succ_pos _)
                      by_cases h0 : 0 ≤ x
                      · have hp3 := HP3.out
                        rw [if_pos h0] at hp3
                        obtain ⟨Y, hY⟩ : ∃ X : Nat, y + 1 = (X : Int) := ⟨(y + 1).toNat, by omega⟩
                        have hw2 : IntKind.i64.wrap (y + 1) = (Y : Int) := by rw [IntWalk.i64_in _ (by omega), hY]
                        have hYb : Y ≤ 600 := by omega
                        have HEN := Lib.hid (show (a7 ++ varB Y) ++ (((rcOf t).slots.drop (k5 + 1)).flatMap encC ++ []) = T by
                          rw [← HE.out, HSP.out, show encC (x, y) = varB X ++ varB Y by unfold encC; dsimp only; rw [if_pos h0, HX.out, hY]; rfl, ← HA7.out]; simp)
                        have hal7 : a7.length ≤ 2097152 := acc_le (rest := varB Y ++ (((rcOf t).slots.drop (k5 + 1)).flatMap encC ++ [])) (by rw [← HEN.out]; simp) hTL
                        clear hY hp3
                        go_wp2_with fail
                        clear c_e0 c_e1 c_e2 c_e3 c_e4 c_e5 c_e6 c_e7 c_e8 c_e9 c_e10 c_e11 m_e0 m_e1 m_e2 m_e3 m_e4 m_e5 m_e6 m_e7 m_e8 m_e9 m_e10 m_e11 l_e
                        go_at_call 31
                        (with_reducible refine (var17_any W1.heap.size Y _ a7 w6 HO6.out hg6.size (by omega) (by omega)).mono ?_); rintro r w7 ⟨v7, rfl, ho7, hb0⟩
                        have hg7 : Gr W1 w7 := Below.trans hg6 hb0
                        obtain ⟨a8, ha8⟩ : ∃ a, a7 ++ varB Y = a := ⟨_, rfl⟩
                        rw [ha8] at ho7 HEN
                        have HO7 := Lib.hid ho7
                        obtain ⟨q9, d9, rfl⟩ := (Sl.of_owns ho7).len
                        clear hb0 ho7 ha8 xq
                        go_wp2_with fail
                        go_roundw
                        case rel => exact ⟨k5 + 1, a8, by have := HKL.out; omega, by go_num, hg7, HO7, HEN, _, _, rfl⟩
                        case measure => have := HKL.out; simp [intOf]; omega
                      · have HEN := Lib.hid (show a7 ++ (((rcOf t).slots.drop (k5 + 1)).flatMap encC ++ []) = T by
                          rw [← HE.out, HSP.out, show encC (x, y) = varB X by unfold encC; dsimp only; rw [if_neg h0, HX.out, List.append_nil]; rfl, ← HA7.out]; simp)
                        go_wp2_with fail
                        go_roundw
                        case rel => exact ⟨k5 + 1, a7, by have := HKL.out; omega, by go_num, hg6, HO6, HEN, _, _, rfl⟩
                        case measure => have := HKL.out; simp [intOf]; omega
                    · have hkn : k5 = C := by omega
                      subst hkn
                      have HE1 := Lib.hid (show acc = T by
                        rw [← HE.out, List.drop_of_length_le (by rw [HZ.out.2.2.2]; exact Nat.le_refl _)]; simp)
                      clear HE hk hkl
                      have yf := xf.later hg
                      have c_e0 := xr.cell 0 _ rfl
                      have c_e1 := xr.cell 1 _ rfl
                      have c_e2 := xr.cell 2 _ rfl
                      have c_e3 := xr.cell 3 _ rfl
                      have c_e4 := xr.cell 4 _ rfl
                      have c_e5 := xr.cell 5 _ rfl
                      have c_e6 := xr.cell 6 _ rfl
                      have c_e7 := xr.cell 7 _ rfl
                      have c_e8 := xr.cell 8 _ rfl
                      have c_e9 := xr.cell 9 _ rfl
                      have c_e10 := xr.cell 10 _ rfl
                      have c_e11 := xr.cell 11 _ rfl
                      have m_e0 := xr.mark 0 _ rfl
                      have m_e1 := xr.mark 1 _ rfl
                      have m_e2 := xr.mark 2 _ rfl
                      have m_e3 := xr.mark 3 _ rfl
                      have m_e4 := xr.mark 4 _ rfl
                      have m_e5 := xr.mark 5 _ rfl
                      have m_e6 := xr.mark 6 _ rfl
                      have m_e7 := xr.mark 7 _ rfl
                      have m_e8 := xr.mark 8 _ rfl
                      have m_e9 := xr.mark 9 _ rfl
                      have m_e10 := xr.mark 10 _ rfl
                      have m_e11 := xr.mark 11 _ rfl
                      have l_e := xr.lt (Nat.succ_pos _)
                      have c_g0 := yf.cell 0 _ rfl
                      have c_g1 := yf.cell 1 _ rfl
                      have c_g2 := yf.cell 2 _ rfl
                      have c_g3 := yf.cell 3 _ rfl
                      have c_g4 := yf.cell 4 _ rfl
                      have m_g0 := yf.mark 0 _ rfl
                      have m_g1 := yf.mark 1 _ rfl
                      have m_g2 := yf.mark 2 _ rfl
                      have m_g3 := yf.mark 3 _ rfl
                      have m_g4 := yf.mark 4 _ rfl
                      have l_g := yf.lt (Nat.succ_pos _)
                      go_wp2_with fail
                      clear c_e0 c_e1 c_e2 c_e3 c_e4 c_e5 c_e6 c_e7 c_e8 c_e9 c_e10 c_e11 m_e0 m_e1 m_e2 m_e3 m_e4 m_e5 m_e6 m_e7 m_e8 m_e9 m_e10 m_e11 l_e
                      clear c_g0 c_g1 c_g2 c_g3 c_g4 m_g0 m_g1 m_g2 m_g3 m_g4 l_g
                      have hlt := xf.lt (Nat.succ_pos _)
                      have how : OwnB wr W1.heap.size (.slice q acc.length d) T := by rw [← HE1.out]; exact HO.out
                      refine name_endI (fun W hW => ?_)
                      have xg : boxAt W (w.heap.size + 1) [.int .i64 0, .int .i64 0, .int .i64 0, .int .i64 0, .slice none 0 0] := by
                        rw [hW]
                        exact ((((yf.put 0 _ (by decide)).put 1 _ (by decide)).put 2 _ (by decide)).put 3 _ (by decide)).put 4 _ (by decide)
                      have hgW : Gr w W := by
                        rw [hW]
                        exact Below.setCell (Below.setCell (Below.setCell (Below.setCell (Below.setCell (hgW1.trans hg) (Nat.le_succ _) _) (Nat.le_succ _) _) (Nat.le_succ _) _) (Nat.le_succ _) _) (Nat.le_succ _) _
                      have howW : OwnB W w.heap.size (.slice q acc.length d) T := by
                        rw [hW]
                        exact own_mono (own_far (own_far (own_far (own_far (own_far how hlt _ _) hlt _ _) hlt _ _) hlt _ _) hlt _ _) hgW1.size
                      have HGW := Lib.hid hgW
                      have HOW := Lib.hid howW
                      clear hW hgW howW how yf
                      have c_g0 := xg.cell 0 _ rfl
                      have c_g1 := xg.cell 1 _ rfl
                      have c_g2 := xg.cell 2 _ rfl
                      have c_g3 := xg.cell 3 _ rfl
                      have c_g4 := xg.cell 4 _ rfl
                      have m_g0 := xg.mark 0 _ rfl
                      have m_g1 := xg.mark 1 _ rfl
                      have m_g2 := xg.mark 2 _ rfl
                      have m_g3 := xg.mark 3 _ rfl
                      have m_g4 := xg.mark 4 _ rfl
                      have l_g := xg.lt (Nat.succ_pos _)
                      refine bodyPost_ret (v := .tuple #[.slice q acc.length d, .agg #[.int .i64 0, .int .i64 0, .int .i64 0, .int .i64 0, .slice none 0 0]]) (by simp [results, Tryd.results9, go_sem, c_g0, c_g1, c_g2, c_g3, c_g4]) rfl ⟨_, rfl, HOW.out, HGW.out⟩

end Go.Proofs.YtcbfmajojkcibaaDoor
