/- bolterlaw17.ImageBack. No condition but that the errors' variables hold them. -/
import Derived.Test.YtcbfmajojkcibaaDoorPImgU
import Derived.Test.YtcbfmajojkcibaaDoorPGb
namespace Go.Proofs.YtcbfmajojkcibaaDoor
open Go Go.RowKit

set_option maxRecDepth 100000 in
set_option maxHeartbeats 16000000 in
theorem imageBack_any (t : Tb) (v : TbV) (w : World) (s : Nat → Addr) (hF : FaultsIn w s) (h : TbIn w t v) (hfit : ∀ s, s ∈ t.base → -9223372036854775808 ≤ s ∧ s ≤ 9223372036854775807) :
    Calls Tryd.prog 5 #[tbV t v] w fun e w' => e = .returned (.bool true) ∧ Gr w w' := by
  have HF := Lib.hid hF
  have HFIT := Lib.hid hfit
  have HT := Lib.hid h
  have HW := Lib.hid (fun w' (hg : Gr w w') => wakes17_any w' s (hF.later hg))
  obtain ⟨co, hco⟩ : ∃ co, t.count = co := ⟨_, rfl⟩
  obtain ⟨n0, hn0⟩ : ∃ n, t.modes.length = n := ⟨_, rfl⟩
  obtain ⟨n1, hn1⟩ : ∃ n, t.labels.length = n := ⟨_, rfl⟩
  obtain ⟨n2, hn2⟩ : ∃ n, t.cuts.length = n := ⟨_, rfl⟩
  obtain ⟨n3, hn3⟩ : ∃ n, t.acts.length = n := ⟨_, rfl⟩
  obtain ⟨n4, hn4⟩ : ∃ n, t.classes.length = n := ⟨_, rfl⟩
  obtain ⟨n5, hn5⟩ : ∃ n, t.starts.length = n := ⟨_, rfl⟩
  obtain ⟨n6, hn6⟩ : ∃ n, t.label.length = n := ⟨_, rfl⟩
  obtain ⟨n7, hn7⟩ : ∃ n, t.base.length = n := ⟨_, rfl⟩
  obtain ⟨n8, hn8⟩ : ∃ n, t.dflt.length = n := ⟨_, rfl⟩
  obtain ⟨n9, hn9⟩ : ∃ n, t.next.length = n := ⟨_, rfl⟩
  obtain ⟨n10, hn10⟩ : ∃ n, t.check.length = n := ⟨_, rfl⟩
  have hb6 : n6 ≤ 9223372036854775807 := by rw [← hn6]; exact h.label.2.1
  have hb10 : n10 ≤ 9223372036854775807 := by rw [← hn10]; exact h.check.2.1
  obtain ⟨v0, v1, v2, v3, vr, v4, v5, v6, v7, v8, v9, v10⟩ := v
  try dsimp only at h
  obtain ⟨p0, c0, rfl⟩ : ∃ p c, v0 = .slice p n0 c := by rw [← hn0]; exact h.modes.len
  obtain ⟨p1, c1, rfl⟩ : ∃ p c, v1 = .slice p n1 c := by rw [← hn1]; exact h.labels.len
  obtain ⟨p2, c2, rfl⟩ : ∃ p c, v2 = .slice p n2 c := by rw [← hn2]; exact h.cuts.len
  obtain ⟨p3, c3, rfl⟩ : ∃ p c, v3 = .slice p n3 c := by rw [← hn3]; exact h.acts.len
  obtain ⟨p4, c4, rfl⟩ : ∃ p c, v4 = .slice p n4 c := by rw [← hn4]; exact h.classes.len
  obtain ⟨p5, c5, rfl⟩ : ∃ p c, v5 = .slice p n5 c := by rw [← hn5]; exact h.starts.len
  obtain ⟨p6, c6, rfl⟩ : ∃ p c, v6 = .slice p n6 c := by rw [← hn6]; exact h.label.len
  obtain ⟨p7, c7, rfl⟩ : ∃ p c, v7 = .slice p n7 c := by rw [← hn7]; exact h.base.len
  obtain ⟨p8, c8, rfl⟩ : ∃ p c, v8 = .slice p n8 c := by rw [← hn8]; exact h.dflt.len
  obtain ⟨p9, c9, rfl⟩ : ∃ p c, v9 = .slice p n9 c := by rw [← hn9]; exact h.next.len
  obtain ⟨p10, c10, rfl⟩ : ∃ p c, v10 = .slice p n10 c := by rw [← hn10]; exact h.check.len
  have HEB := Lib.hid (fun (hm : mayB t = false) (w' : World) (hg : Gr w w') => encI_bad t ⟨.slice p0 n0 c0, .slice p1 n1 c1, .slice p2 n2 c2, .slice p3 n3 c3, vr, .slice p4 n4 c4, .slice p5 n5 c5, .slice p6 n6 c6, .slice p7 n7 c7, .slice p8 n8 c8, .slice p9 n9 c9, .slice p10 n10 c10⟩ w' s (hF.later hg) (h.later hg) hfit hm)
  have HEG := Lib.hid (fun (hm : mayB t = true) (w' : World) (hg : Gr w w') => encI_ok t ⟨.slice p0 n0 c0, .slice p1 n1 c1, .slice p2 n2 c2, .slice p3 n3 c3, vr, .slice p4 n4 c4, .slice p5 n5 c5, .slice p6 n6 c6, .slice p7 n7 c7, .slice p8 n8 c8, .slice p9 n9 c9, .slice p10 n10 c10⟩ w' (h.later hg) hfit hm)
  have HCK := Lib.hid (fun (w' : World) (hg : Gr w w') => checkI_any t ⟨.slice p0 n0 c0, .slice p1 n1 c1, .slice p2 n2 c2, .slice p3 n3 c3, vr, .slice p4 n4 c4, .slice p5 n5 c5, .slice p6 n6 c6, .slice p7 n7 c7, .slice p8 n8 c8, .slice p9 n9 c9, .slice p10 n10 c10⟩ w' (h.later hg) hfit)
  have HEQ := Lib.hid (fun (w' : World) (hg : Gr w w') (u : TbV) (hu : TbIn w' t u) => eqTables17 t ⟨.slice p0 n0 c0, .slice p1 n1 c1, .slice p2 n2 c2, .slice p3 n3 c3, vr, .slice p4 n4 c4, .slice p5 n5 c5, .slice p6 n6 c6, .slice p7 n7 c7, .slice p8 n8 c8, .slice p9 n9 c9, .slice p10 n10 c10⟩ u w' (h.later hg) hu)
  unfold tbV at HEB HEG HCK HEQ ⊢
  dsimp only at HEB HEG HCK HEQ ⊢
  rw [hco] at HEB HEG HCK HEQ ⊢
  have HCO := Lib.hid hco
  clear h hF hfit hco hn0 hn1 hn2 hn3 hn4 hn5 hn6 hn7 hn8 hn9 hn10
  by_cases h5 : (5000 : Int) < (n10 : Int)
  · go_enter Tryd.func5, Tryd.ntmps5
    go_wp2_with fail
    go_at_call 17
    refine name_calls (fun W0 hW0 => ?_)
    have hg : Gr w W0 := by rw [hW0]; exact Gr.alloc _ _
    clear hW0
    (with_reducible refine (HW.out W0 hg).mono ?_); rintro e w9 ⟨rfl, hb⟩
    go_wp2_with fail
    go_ret
    exact ⟨rfl, hg.trans hb⟩
  by_cases h2 : (2000 : Int) < (n6 : Int)
  · go_enter Tryd.func5, Tryd.ntmps5
    go_wp2_with fail
    go_at_call 17
    refine name_calls (fun W0 hW0 => ?_)
    have hg : Gr w W0 := by rw [hW0]; exact Gr.alloc _ _
    clear hW0
    (with_reducible refine (HW.out W0 hg).mono ?_); rintro e w9 ⟨rfl, hb⟩
    go_wp2_with fail
    go_ret
    exact ⟨rfl, hg.trans hb⟩
  go_enter Tryd.func5, Tryd.ntmps5
  go_wp2_with fail
  go_at_call 10
  refine name_calls (fun W0 hW0 => ?_)
  have hg : Gr w W0 := by rw [hW0]; exact Gr.alloc _ _
  have xt : boxAt W0 w.heap.size [.slice p0 n0 c0, .slice p1 n1 c1, .slice p2 n2 c2, .slice p3 n3 c3, .slice p4 n4 c4, .int .i64 co, .slice p5 n5 c5, .slice p6 n6 c6, .slice p7 n7 c7, .slice p8 n8 c8, .slice p9 n9 c9, .slice p10 n10 c10] := by rw [hW0]; exact boxAt.new_at [.slice p0 n0 c0, .slice p1 n1 c1, .slice p2 n2 c2, .slice p3 n3 c3, .slice p4 n4 c4, .int .i64 co, .slice p5 n5 c5, .slice p6 n6 c6, .slice p7 n7 c7, .slice p8 n8 c8, .slice p9 n9 c9, .slice p10 n10 c10] _ _ rfl rfl
  clear hW0
  cases hm : mayB t with
  | false =>
    (with_reducible refine (HEB.out hm W0 hg).mono ?_); rintro e w1 ⟨rfl, hb⟩
    replace xt := xt.later hb
    replace hg := hg.trans hb
    clear hb
    have c_e0 := xt.cell 0 _ rfl
    have c_e1 := xt.cell 1 _ rfl
    have c_e2 := xt.cell 2 _ rfl
    have c_e3 := xt.cell 3 _ rfl
    have c_e4 := xt.cell 4 _ rfl
    have c_e5 := xt.cell 5 _ rfl
    have c_e6 := xt.cell 6 _ rfl
    have c_e7 := xt.cell 7 _ rfl
    have c_e8 := xt.cell 8 _ rfl
    have c_e9 := xt.cell 9 _ rfl
    have c_e10 := xt.cell 10 _ rfl
    have c_e11 := xt.cell 11 _ rfl
    have m_e0 := xt.mark 0 _ rfl
    have m_e1 := xt.mark 1 _ rfl
    have m_e2 := xt.mark 2 _ rfl
    have m_e3 := xt.mark 3 _ rfl
    have m_e4 := xt.mark 4 _ rfl
    have m_e5 := xt.mark 5 _ rfl
    have m_e6 := xt.mark 6 _ rfl
    have m_e7 := xt.mark 7 _ rfl
    have m_e8 := xt.mark 8 _ rfl
    have m_e9 := xt.mark 9 _ rfl
    have m_e10 := xt.mark 10 _ rfl
    have m_e11 := xt.mark 11 _ rfl
    have l_e := xt.lt (Nat.succ_pos _)
    go_wp2_with fail
    clear c_e0 c_e1 c_e2 c_e3 c_e4 c_e5 c_e6 c_e7 c_e8 c_e9 c_e10 c_e11 m_e0 m_e1 m_e2 m_e3 m_e4 m_e5 m_e6 m_e7 m_e8 m_e9 m_e10 m_e11 l_e
    go_at_call 11
    (with_reducible refine (HCK.out w1 hg).mono ?_); rintro e w2 ⟨rfl, hb⟩
    replace hg := hg.trans hb
    rw [hm]
    clear hb
    go_wp2_with fail
    go_at_call 17
    (with_reducible refine (HW.out w2 hg).mono ?_); rintro e w9 ⟨rfl, hb⟩
    go_wp2_with fail
    go_ret
    exact ⟨rfl, hg.trans hb⟩
  | true =>
    (with_reducible refine (HEG.out hm W0 hg).mono ?_); rintro e w1 ⟨ub, rfl, hob, hb⟩
    have hbl := encT_len hm
    have hdec := dec_enc hm 2 3 255 (by omega) (by omega) (by omega)
    have hpart := dec_part hm
    have hmore := dec_more hm
    replace xt := xt.later hb
    replace hg := hg.trans hb
    obtain ⟨L, hL⟩ : ∃ L, encT t = L := ⟨_, rfl⟩
    have hpos : 4 ≤ L.length := by
      rw [← hL]; unfold encT headB; simp only [List.length_append, List.length_cons, List.length_nil]; omega
    rw [hL] at hbl hdec hpart hmore hob
    have HEN := Lib.hid hL
    have HM := Lib.hid hm
    have HDEC := Lib.hid hdec
    have HPART := Lib.hid hpart
    have HMORE := Lib.hid hmore
    have HOB := Lib.hid hob
    have hcap := hob.cap
    have hnil := hob.nily
    have hslb := Sl.of_owns hob
    obtain ⟨g, cb, rfl, hgB, hgl, _⟩ := owns_block hob (by omega)
    have hroom := hcap _ _ _ rfl
    have HSLB := Lib.hid hslb
    have HSLB0 := Lib.hid hslb
    have HCP := Lib.hid (fun (w' : World) (hg' : Gr w1 w') => copyB_any L _ w' (hslb.later hg') hnil (by omega))
    obtain ⟨N, hN⟩ : ∃ N, L.length = N := ⟨_, rfl⟩
    rw [hN] at hbl hpos hroom HSLB HCP ⊢
    have HN := Lib.hid hN
    have hNI : (N : Int) ≤ 2097152 := by omega
    clear hL hm hdec hpart hmore hob hcap hnil hslb hN hb
    go_wp2_with fail
    go_at_call 22
    (with_reducible refine (HCP.out w1 (Gr.refl _)).mono ?_); rintro e w2 ⟨uc, rfl, hoc, hb⟩
    have hg12 := hb
    replace xt := xt.later hb
    replace hg := hg.trans hb
    clear hb
    obtain ⟨pc, cc, rfl⟩ := (Sl.of_owns hoc).len
    have HDC := Lib.hid (decode_any w2 _ _ L s (HF.out.later hg) (Sl.of_owns hoc) (by have := HN.out; omega) (hoc.cap _ _ _ rfl))
    clear hoc
    go_wp2_with fail
    go_at_call 19
    (with_reducible refine HDC.out.mono ?_); rintro e w3 ⟨hb, hE⟩
    rw [HDEC.out] at hE
    obtain ⟨⟨u0, u1, u2, u3, ur, u4, u5, u6, u7, u8, u9, u10⟩, rfl, hTO⟩ := hE
    replace xt := xt.later hb
    replace hg := hg.trans hb
    replace hg12 := hg12.trans hb
    clear hb HDC
    have hU := hTO.tabs (HT.out.texts)
    obtain ⟨r0, m0, e0, rfl⟩ : ∃ p n c, u0 = .slice p n c := by obtain ⟨p, c, hv⟩ := hU.modes.len; exact ⟨p, _, c, hv⟩
    obtain ⟨r1, m1, e1, rfl⟩ : ∃ p n c, u1 = .slice p n c := by obtain ⟨p, c, hv⟩ := hU.labels.len; exact ⟨p, _, c, hv⟩
    obtain ⟨r2, m2, e2, rfl⟩ : ∃ p n c, u2 = .slice p n c := by obtain ⟨p, c, hv⟩ := hU.cuts.len; exact ⟨p, _, c, hv⟩
    obtain ⟨r3, m3, e3, rfl⟩ : ∃ p n c, u3 = .slice p n c := by obtain ⟨p, c, hv⟩ := hU.acts.len; exact ⟨p, _, c, hv⟩
    obtain ⟨r4, m4, e4, rfl⟩ : ∃ p n c, u4 = .slice p n c := by obtain ⟨p, c, hv⟩ := hU.classes.len; exact ⟨p, _, c, hv⟩
    obtain ⟨r5, m5, e5, rfl⟩ : ∃ p n c, u5 = .slice p n c := by obtain ⟨p, c, hv⟩ := hU.starts.len; exact ⟨p, _, c, hv⟩
    obtain ⟨r6, m6, e6, rfl⟩ : ∃ p n c, u6 = .slice p n c := by obtain ⟨p, c, hv⟩ := hU.label.len; exact ⟨p, _, c, hv⟩
    obtain ⟨r7, m7, e7, rfl⟩ : ∃ p n c, u7 = .slice p n c := by obtain ⟨p, c, hv⟩ := hU.base.len; exact ⟨p, _, c, hv⟩
    obtain ⟨r8, m8, e8, rfl⟩ : ∃ p n c, u8 = .slice p n c := by obtain ⟨p, c, hv⟩ := hU.dflt.len; exact ⟨p, _, c, hv⟩
    obtain ⟨r9, m9, e9, rfl⟩ : ∃ p n c, u9 = .slice p n c := by obtain ⟨p, c, hv⟩ := hU.next.len; exact ⟨p, _, c, hv⟩
    obtain ⟨r10, m10, e10, rfl⟩ : ∃ p n c, u10 = .slice p n c := by obtain ⟨p, c, hv⟩ := hU.check.len; exact ⟨p, _, c, hv⟩
    have HU := Lib.hid hU
    clear hU hTO
    unfold tbV
    dsimp only
    rw [HCO.out]
    go_wp2_with fail
    refine name_calls (fun W4 hW4 => ?_)
    have hb : Gr w3 W4 := by rw [hW4]; exact Gr.alloc _ _
    have xu : boxAt W4 w3.heap.size [.slice r0 m0 e0, .slice r1 m1 e1, .slice r2 m2 e2, .slice r3 m3 e3, .slice r4 m4 e4, .int .i64 co, .slice r5 m5 e5, .slice r6 m6 e6, .slice r7 m7 e7, .slice r8 m8 e8, .slice r9 m9 e9, .slice r10 m10 e10] := by rw [hW4]; exact boxAt.new_at [.slice r0 m0 e0, .slice r1 m1 e1, .slice r2 m2 e2, .slice r3 m3 e3, .slice r4 m4 e4, .int .i64 co, .slice r5 m5 e5, .slice r6 m6 e6, .slice r7 m7 e7, .slice r8 m8 e8, .slice r9 m9 e9, .slice r10 m10 e10] _ _ rfl rfl
    replace xt := xt.later hb
    replace hg := hg.trans hb
    replace hg12 := hg12.trans hb
    have hU4 := HU.out.later hb
    clear hW4 hb HU
    have HU4 := Lib.hid hU4
    have HEU := Lib.hid (encI_ok t ⟨.slice r0 m0 e0, .slice r1 m1 e1, .slice r2 m2 e2, .slice r3 m3 e3, ur, .slice r4 m4 e4, .slice r5 m5 e5, .slice r6 m6 e6, .slice r7 m7 e7, .slice r8 m8 e8, .slice r9 m9 e9, .slice r10 m10 e10⟩ W4 hU4 HFIT.out HM.out)
    have HCHU := Lib.hid (fun (w' : World) (hg' : Gr W4 w') => checkI_any t ⟨.slice r0 m0 e0, .slice r1 m1 e1, .slice r2 m2 e2, .slice r3 m3 e3, ur, .slice r4 m4 e4, .slice r5 m5 e5, .slice r6 m6 e6, .slice r7 m7 e7, .slice r8 m8 e8, .slice r9 m9 e9, .slice r10 m10 e10⟩ w' (hU4.later hg') HFIT.out)
    unfold tbV at HEU HCHU
    dsimp only at HEU HCHU
    rw [HCO.out] at HEU HCHU
    rw [HEN.out] at HEU
    go_at_call 10
    (with_reducible refine HEU.out.mono ?_); rintro e w5 ⟨uc2, rfl, hoc2, hb⟩
    have hg45 := hb
    replace xt := xt.later hb
    replace xu := xu.later hb
    replace hg := hg.trans hb
    replace hg12 := hg12.trans hb
    have HOC2 := Lib.hid hoc2
    obtain ⟨pd, cd, rfl⟩ := (Sl.of_owns hoc2).len
    rw [HN.out]
    clear hb hoc2 hU4 HEU
    go_wp2_with fail
    go_at_call 22
    (with_reducible refine (HCP.out w5 hg12).mono ?_); rintro e w6 ⟨uf, rfl, hof, hb⟩
    have hg56 := hb
    have HOF := Lib.hid hof
    obtain ⟨pf, cf, rfl⟩ := (Sl.of_owns hof).len
    rw [HN.out]
    have hbase : w5.heap.size ≤ w6.heap.size := hb.size
    clear hb hof
    obtain ⟨i0, hi, hz0, hz1, hz2⟩ := info_parts info_byte
    have hof6 : w6.ownsRow w5.heap.size 5 1 (.slice pf N cf) N (L.map vB) := by have := HOF.out; unfold OwnB at this; rw [HN.out] at this; exact this
    have HOF6 := Lib.hid hof6
    clear hof6
    go_wp2_with (at_builtin; refine wpList_append_own _ rfl (.tmp 55) (.tmp 56) 32 rfl w5.heap.size 5 i0 (.int .u8 0) 1 1 Tryd.underlying32 hi hz0 hz1 hz2 rfl (by decide) _ _ _ rfl (World.ownsRow.alloc HOF6.out _) ⟨w6.heap.size, 0, none⟩ 1 1 [.int .u8 0] rfl rfl ?c1 ?c2 ?c3 ?c4 ?c5 ?_)
    case c1 => exact new_cells _ [.int .u8 0] _
    case c2 => intro u hu; simp at hu; subst hu; rfl
    case c3 => unfold maxLen; omega
    case c4 => omega
    case c5 => first | omega | (simp; omega)
    intro v' w7 hown' hgrow _
    have hoz : OwnB w7 w5.heap.size v' (L ++ [0]) := OwnB.snoc (c := 0) (by have := hown'; exact this) (by rw [HN.out])
    have hb : Gr w5 w7 := (hg56.trans (Gr.alloc _ _)).grown hgrow (fun k hk => (World.ownsRow.lt HOF6.out k hk).1)
    replace xt := xt.later hb
    replace xu := xu.later hb
    have HOC := Lib.hid (Sl.later (Sl.of_owns HOC2.out) hb)
    have HU7 := Lib.hid (HU4.out.later (hg45.trans hb))
    replace hg := hg.trans hb
    replace hg12 := hg12.trans hb
    replace hg45 := hg45.trans hb
    have HOZ := Lib.hid hoz
    obtain ⟨pz, cz, rfl⟩ := (Sl.of_owns hoz).len
    have HDZ := Lib.hid (decode_any w7 _ _ (L ++ [0]) s (HF.out.later hg) (Sl.of_owns hoz) (by rw [List.length_append, HN.out]; show N + 1 ≤ _; omega) (hoz.cap _ _ _ rfl))
    rw [show List.length (L ++ [(0 : UInt8)]) = N + 1 by rw [List.length_append, HN.out]; rfl] at HDZ ⊢
    clear hb hoz hown' hgrow hg56 hbase HOF HOF6
    go_wp2_with fail
    go_at_call 19
    (with_reducible refine HDZ.out.mono ?_); rintro e w8 ⟨hb, hE⟩
    rw [HMORE.out] at hE
    obtain rfl := hE
    replace xt := xt.later hb
    replace xu := xu.later hb
    replace hg := hg.trans hb
    replace hg12 := hg12.trans hb
    replace hg45 := hg45.trans hb
    have HOC8 := Lib.hid (Sl.later HOC.out hb)
    unfold tbV tb0 v0
    dsimp only
    clear hb HDZ
    have c_e0 := xt.cell 0 _ rfl
    have c_e1 := xt.cell 1 _ rfl
    have c_e2 := xt.cell 2 _ rfl
    have c_e3 := xt.cell 3 _ rfl
    have c_e4 := xt.cell 4 _ rfl
    have c_e5 := xt.cell 5 _ rfl
    have c_e6 := xt.cell 6 _ rfl
    have c_e7 := xt.cell 7 _ rfl
    have c_e8 := xt.cell 8 _ rfl
    have c_e9 := xt.cell 9 _ rfl
    have c_e10 := xt.cell 10 _ rfl
    have c_e11 := xt.cell 11 _ rfl
    have m_e0 := xt.mark 0 _ rfl
    have m_e1 := xt.mark 1 _ rfl
    have m_e2 := xt.mark 2 _ rfl
    have m_e3 := xt.mark 3 _ rfl
    have m_e4 := xt.mark 4 _ rfl
    have m_e5 := xt.mark 5 _ rfl
    have m_e6 := xt.mark 6 _ rfl
    have m_e7 := xt.mark 7 _ rfl
    have m_e8 := xt.mark 8 _ rfl
    have m_e9 := xt.mark 9 _ rfl
    have m_e10 := xt.mark 10 _ rfl
    have m_e11 := xt.mark 11 _ rfl
    have l_e := xt.lt (Nat.succ_pos _)
    have c_f0 := xu.cell 0 _ rfl
    have c_f1 := xu.cell 1 _ rfl
    have c_f2 := xu.cell 2 _ rfl
    have c_f3 := xu.cell 3 _ rfl
    have c_f4 := xu.cell 4 _ rfl
    have c_f5 := xu.cell 5 _ rfl
    have c_f6 := xu.cell 6 _ rfl
    have c_f7 := xu.cell 7 _ rfl
    have c_f8 := xu.cell 8 _ rfl
    have c_f9 := xu.cell 9 _ rfl
    have c_f10 := xu.cell 10 _ rfl
    have c_f11 := xu.cell 11 _ rfl
    have m_f0 := xu.mark 0 _ rfl
    have m_f1 := xu.mark 1 _ rfl
    have m_f2 := xu.mark 2 _ rfl
    have m_f3 := xu.mark 3 _ rfl
    have m_f4 := xu.mark 4 _ rfl
    have m_f5 := xu.mark 5 _ rfl
    have m_f6 := xu.mark 6 _ rfl
    have m_f7 := xu.mark 7 _ rfl
    have m_f8 := xu.mark 8 _ rfl
    have m_f9 := xu.mark 9 _ rfl
    have m_f10 := xu.mark 10 _ rfl
    have m_f11 := xu.mark 11 _ rfl
    have l_f := xu.lt (Nat.succ_pos _)
    go_wp2_with fail
    refine name_calls (fun W9 hW9 => ?_)
    have hb : Gr w8 W9 := by rw [hW9]; exact Gr.alloc _ _
    clear c_e0 c_e1 c_e2 c_e3 c_e4 c_e5 c_e6 c_e7 c_e8 c_e9 c_e10 c_e11 m_e0 m_e1 m_e2 m_e3 m_e4 m_e5 m_e6 m_e7 m_e8 m_e9 m_e10 m_e11 l_e
    clear c_f0 c_f1 c_f2 c_f3 c_f4 c_f5 c_f6 c_f7 c_f8 c_f9 c_f10 c_f11 m_f0 m_f1 m_f2 m_f3 m_f4 m_f5 m_f6 m_f7 m_f8 m_f9 m_f10 m_f11 l_f
    replace xt := xt.later hb
    replace xu := xu.later hb
    replace hg := hg.trans hb
    replace hg12 := hg12.trans hb
    replace hg45 := hg45.trans hb
    have HOC9 := Lib.hid (Sl.later HOC8.out hb)
    clear hb hW9
    go_at_call 11
    (with_reducible refine (HCK.out W9 hg).mono ?_); rintro e w10 ⟨rfl, hb⟩
    rw [HM.out]
    replace xt := xt.later hb
    replace xu := xu.later hb
    replace hg := hg.trans hb
    replace hg12 := hg12.trans hb
    replace hg45 := hg45.trans hb
    have HOC10 := Lib.hid (Sl.later HOC9.out hb)
    clear hb
    have c_e0 := xt.cell 0 _ rfl
    have c_e1 := xt.cell 1 _ rfl
    have c_e2 := xt.cell 2 _ rfl
    have c_e3 := xt.cell 3 _ rfl
    have c_e4 := xt.cell 4 _ rfl
    have c_e5 := xt.cell 5 _ rfl
    have c_e6 := xt.cell 6 _ rfl
    have c_e7 := xt.cell 7 _ rfl
    have c_e8 := xt.cell 8 _ rfl
    have c_e9 := xt.cell 9 _ rfl
    have c_e10 := xt.cell 10 _ rfl
    have c_e11 := xt.cell 11 _ rfl
    have m_e0 := xt.mark 0 _ rfl
    have m_e1 := xt.mark 1 _ rfl
    have m_e2 := xt.mark 2 _ rfl
    have m_e3 := xt.mark 3 _ rfl
    have m_e4 := xt.mark 4 _ rfl
    have m_e5 := xt.mark 5 _ rfl
    have m_e6 := xt.mark 6 _ rfl
    have m_e7 := xt.mark 7 _ rfl
    have m_e8 := xt.mark 8 _ rfl
    have m_e9 := xt.mark 9 _ rfl
    have m_e10 := xt.mark 10 _ rfl
    have m_e11 := xt.mark 11 _ rfl
    have l_e := xt.lt (Nat.succ_pos _)
    have c_f0 := xu.cell 0 _ rfl
    have c_f1 := xu.cell 1 _ rfl
    have c_f2 := xu.cell 2 _ rfl
    have c_f3 := xu.cell 3 _ rfl
    have c_f4 := xu.cell 4 _ rfl
    have c_f5 := xu.cell 5 _ rfl
    have c_f6 := xu.cell 6 _ rfl
    have c_f7 := xu.cell 7 _ rfl
    have c_f8 := xu.cell 8 _ rfl
    have c_f9 := xu.cell 9 _ rfl
    have c_f10 := xu.cell 10 _ rfl
    have c_f11 := xu.cell 11 _ rfl
    have m_f0 := xu.mark 0 _ rfl
    have m_f1 := xu.mark 1 _ rfl
    have m_f2 := xu.mark 2 _ rfl
    have m_f3 := xu.mark 3 _ rfl
    have m_f4 := xu.mark 4 _ rfl
    have m_f5 := xu.mark 5 _ rfl
    have m_f6 := xu.mark 6 _ rfl
    have m_f7 := xu.mark 7 _ rfl
    have m_f8 := xu.mark 8 _ rfl
    have m_f9 := xu.mark 9 _ rfl
    have m_f10 := xu.mark 10 _ rfl
    have m_f11 := xu.mark 11 _ rfl
    have l_f := xu.lt (Nat.succ_pos _)
    go_wp2_with fail
    clear c_e0 c_e1 c_e2 c_e3 c_e4 c_e5 c_e6 c_e7 c_e8 c_e9 c_e10 c_e11 m_e0 m_e1 m_e2 m_e3 m_e4 m_e5 m_e6 m_e7 m_e8 m_e9 m_e10 m_e11 l_e
    clear c_f0 c_f1 c_f2 c_f3 c_f4 c_f5 c_f6 c_f7 c_f8 c_f9 c_f10 c_f11 m_f0 m_f1 m_f2 m_f3 m_f4 m_f5 m_f6 m_f7 m_f8 m_f9 m_f10 m_f11 l_f
    go_at_call 11
    (with_reducible refine (HCHU.out w10 hg45).mono ?_); rintro e w11 ⟨rfl, hb⟩
    rw [HM.out]
    replace xt := xt.later hb
    replace xu := xu.later hb
    replace hg := hg.trans hb
    replace hg12 := hg12.trans hb
    replace hg45 := hg45.trans hb
    have HOC11 := Lib.hid (Sl.later HOC10.out hb)
    clear hb
    have c_e0 := xt.cell 0 _ rfl
    have c_e1 := xt.cell 1 _ rfl
    have c_e2 := xt.cell 2 _ rfl
    have c_e3 := xt.cell 3 _ rfl
    have c_e4 := xt.cell 4 _ rfl
    have c_e5 := xt.cell 5 _ rfl
    have c_e6 := xt.cell 6 _ rfl
    have c_e7 := xt.cell 7 _ rfl
    have c_e8 := xt.cell 8 _ rfl
    have c_e9 := xt.cell 9 _ rfl
    have c_e10 := xt.cell 10 _ rfl
    have c_e11 := xt.cell 11 _ rfl
    have m_e0 := xt.mark 0 _ rfl
    have m_e1 := xt.mark 1 _ rfl
    have m_e2 := xt.mark 2 _ rfl
    have m_e3 := xt.mark 3 _ rfl
    have m_e4 := xt.mark 4 _ rfl
    have m_e5 := xt.mark 5 _ rfl
    have m_e6 := xt.mark 6 _ rfl
    have m_e7 := xt.mark 7 _ rfl
    have m_e8 := xt.mark 8 _ rfl
    have m_e9 := xt.mark 9 _ rfl
    have m_e10 := xt.mark 10 _ rfl
    have m_e11 := xt.mark 11 _ rfl
    have l_e := xt.lt (Nat.succ_pos _)
    have c_f0 := xu.cell 0 _ rfl
    have c_f1 := xu.cell 1 _ rfl
    have c_f2 := xu.cell 2 _ rfl
    have c_f3 := xu.cell 3 _ rfl
    have c_f4 := xu.cell 4 _ rfl
    have c_f5 := xu.cell 5 _ rfl
    have c_f6 := xu.cell 6 _ rfl
    have c_f7 := xu.cell 7 _ rfl
    have c_f8 := xu.cell 8 _ rfl
    have c_f9 := xu.cell 9 _ rfl
    have c_f10 := xu.cell 10 _ rfl
    have c_f11 := xu.cell 11 _ rfl
    have m_f0 := xu.mark 0 _ rfl
    have m_f1 := xu.mark 1 _ rfl
    have m_f2 := xu.mark 2 _ rfl
    have m_f3 := xu.mark 3 _ rfl
    have m_f4 := xu.mark 4 _ rfl
    have m_f5 := xu.mark 5 _ rfl
    have m_f6 := xu.mark 6 _ rfl
    have m_f7 := xu.mark 7 _ rfl
    have m_f8 := xu.mark 8 _ rfl
    have m_f9 := xu.mark 9 _ rfl
    have m_f10 := xu.mark 10 _ rfl
    have m_f11 := xu.mark 11 _ rfl
    have l_f := xu.lt (Nat.succ_pos _)
    go_wp2_with fail
    clear c_e0 c_e1 c_e2 c_e3 c_e4 c_e5 c_e6 c_e7 c_e8 c_e9 c_e10 c_e11 m_e0 m_e1 m_e2 m_e3 m_e4 m_e5 m_e6 m_e7 m_e8 m_e9 m_e10 m_e11 l_e
    clear c_f0 c_f1 c_f2 c_f3 c_f4 c_f5 c_f6 c_f7 c_f8 c_f9 c_f10 c_f11 m_f0 m_f1 m_f2 m_f3 m_f4 m_f5 m_f6 m_f7 m_f8 m_f9 m_f10 m_f11 l_f
    go_at_call 16
    (with_reducible refine (HEQ.out w11 hg ⟨.slice r0 m0 e0, .slice r1 m1 e1, .slice r2 m2 e2, .slice r3 m3 e3, ur, .slice r4 m4 e4, .slice r5 m5 e5, .slice r6 m6 e6, .slice r7 m7 e7, .slice r8 m8 e8, .slice r9 m9 e9, .slice r10 m10 e10⟩ (HU4.out.later hg45)).mono ?_); rintro e w12 ⟨rfl, hb⟩
    replace xt := xt.later hb
    replace xu := xu.later hb
    replace hg := hg.trans hb
    replace hg12 := hg12.trans hb
    replace hg45 := hg45.trans hb
    have HOC12 := Lib.hid (Sl.later HOC11.out hb)
    clear hb
    have c_e0 := xt.cell 0 _ rfl
    have c_e1 := xt.cell 1 _ rfl
    have c_e2 := xt.cell 2 _ rfl
    have c_e3 := xt.cell 3 _ rfl
    have c_e4 := xt.cell 4 _ rfl
    have c_e5 := xt.cell 5 _ rfl
    have c_e6 := xt.cell 6 _ rfl
    have c_e7 := xt.cell 7 _ rfl
    have c_e8 := xt.cell 8 _ rfl
    have c_e9 := xt.cell 9 _ rfl
    have c_e10 := xt.cell 10 _ rfl
    have c_e11 := xt.cell 11 _ rfl
    have m_e0 := xt.mark 0 _ rfl
    have m_e1 := xt.mark 1 _ rfl
    have m_e2 := xt.mark 2 _ rfl
    have m_e3 := xt.mark 3 _ rfl
    have m_e4 := xt.mark 4 _ rfl
    have m_e5 := xt.mark 5 _ rfl
    have m_e6 := xt.mark 6 _ rfl
    have m_e7 := xt.mark 7 _ rfl
    have m_e8 := xt.mark 8 _ rfl
    have m_e9 := xt.mark 9 _ rfl
    have m_e10 := xt.mark 10 _ rfl
    have m_e11 := xt.mark 11 _ rfl
    have l_e := xt.lt (Nat.succ_pos _)
    have c_f0 := xu.cell 0 _ rfl
    have c_f1 := xu.cell 1 _ rfl
    have c_f2 := xu.cell 2 _ rfl
    have c_f3 := xu.cell 3 _ rfl
    have c_f4 := xu.cell 4 _ rfl
    have c_f5 := xu.cell 5 _ rfl
    have c_f6 := xu.cell 6 _ rfl
    have c_f7 := xu.cell 7 _ rfl
    have c_f8 := xu.cell 8 _ rfl
    have c_f9 := xu.cell 9 _ rfl
    have c_f10 := xu.cell 10 _ rfl
    have c_f11 := xu.cell 11 _ rfl
    have m_f0 := xu.mark 0 _ rfl
    have m_f1 := xu.mark 1 _ rfl
    have m_f2 := xu.mark 2 _ rfl
    have m_f3 := xu.mark 3 _ rfl
    have m_f4 := xu.mark 4 _ rfl
    have m_f5 := xu.mark 5 _ rfl
    have m_f6 := xu.mark 6 _ rfl
    have m_f7 := xu.mark 7 _ rfl
    have m_f8 := xu.mark 8 _ rfl
    have m_f9 := xu.mark 9 _ rfl
    have m_f10 := xu.mark 10 _ rfl
    have m_f11 := xu.mark 11 _ rfl
    have l_f := xu.lt (Nat.succ_pos _)
    go_wp2_with fail
    clear c_e0 c_e1 c_e2 c_e3 c_e4 c_e5 c_e6 c_e7 c_e8 c_e9 c_e10 c_e11 m_e0 m_e1 m_e2 m_e3 m_e4 m_e5 m_e6 m_e7 m_e8 m_e9 m_e10 m_e11 l_e
    clear c_f0 c_f1 c_f2 c_f3 c_f4 c_f5 c_f6 c_f7 c_f8 c_f9 c_f10 c_f11 m_f0 m_f1 m_f2 m_f3 m_f4 m_f5 m_f6 m_f7 m_f8 m_f9 m_f10 m_f11 l_f
    go_at_call 14
    have HEQB := Lib.hid (eqB_any L L _ _ w12 (HSLB0.out.later hg12) HOC12.out)
    rw [HN.out, show (L == L) = true by simp] at HEQB
    (with_reducible refine HEQB.out.mono ?_); rintro e w13 ⟨rfl, hb⟩
    clear HEQB
    replace xt := xt.later hb
    replace xu := xu.later hb
    replace hg := hg.trans hb
    replace hg12 := hg12.trans hb
    replace hg45 := hg45.trans hb
    have HOC13 := Lib.hid (Sl.later HOC12.out hb)
    clear hb
    have c_e0 := xt.cell 0 _ rfl
    have c_e1 := xt.cell 1 _ rfl
    have c_e2 := xt.cell 2 _ rfl
    have c_e3 := xt.cell 3 _ rfl
    have c_e4 := xt.cell 4 _ rfl
    have c_e5 := xt.cell 5 _ rfl
    have c_e6 := xt.cell 6 _ rfl
    have c_e7 := xt.cell 7 _ rfl
    have c_e8 := xt.cell 8 _ rfl
    have c_e9 := xt.cell 9 _ rfl
    have c_e10 := xt.cell 10 _ rfl
    have c_e11 := xt.cell 11 _ rfl
    have m_e0 := xt.mark 0 _ rfl
    have m_e1 := xt.mark 1 _ rfl
    have m_e2 := xt.mark 2 _ rfl
    have m_e3 := xt.mark 3 _ rfl
    have m_e4 := xt.mark 4 _ rfl
    have m_e5 := xt.mark 5 _ rfl
    have m_e6 := xt.mark 6 _ rfl
    have m_e7 := xt.mark 7 _ rfl
    have m_e8 := xt.mark 8 _ rfl
    have m_e9 := xt.mark 9 _ rfl
    have m_e10 := xt.mark 10 _ rfl
    have m_e11 := xt.mark 11 _ rfl
    have l_e := xt.lt (Nat.succ_pos _)
    have c_f0 := xu.cell 0 _ rfl
    have c_f1 := xu.cell 1 _ rfl
    have c_f2 := xu.cell 2 _ rfl
    have c_f3 := xu.cell 3 _ rfl
    have c_f4 := xu.cell 4 _ rfl
    have c_f5 := xu.cell 5 _ rfl
    have c_f6 := xu.cell 6 _ rfl
    have c_f7 := xu.cell 7 _ rfl
    have c_f8 := xu.cell 8 _ rfl
    have c_f9 := xu.cell 9 _ rfl
    have c_f10 := xu.cell 10 _ rfl
    have c_f11 := xu.cell 11 _ rfl
    have m_f0 := xu.mark 0 _ rfl
    have m_f1 := xu.mark 1 _ rfl
    have m_f2 := xu.mark 2 _ rfl
    have m_f3 := xu.mark 3 _ rfl
    have m_f4 := xu.mark 4 _ rfl
    have m_f5 := xu.mark 5 _ rfl
    have m_f6 := xu.mark 6 _ rfl
    have m_f7 := xu.mark 7 _ rfl
    have m_f8 := xu.mark 8 _ rfl
    have m_f9 := xu.mark 9 _ rfl
    have m_f10 := xu.mark 10 _ rfl
    have m_f11 := xu.mark 11 _ rfl
    have l_f := xu.lt (Nat.succ_pos _)
    go_wp2_with fail
    clear c_e0 c_e1 c_e2 c_e3 c_e4 c_e5 c_e6 c_e7 c_e8 c_e9 c_e10 c_e11 m_e0 m_e1 m_e2 m_e3 m_e4 m_e5 m_e6 m_e7 m_e8 m_e9 m_e10 m_e11 l_e
    clear c_f0 c_f1 c_f2 c_f3 c_f4 c_f5 c_f6 c_f7 c_f8 c_f9 c_f10 c_f11 m_f0 m_f1 m_f2 m_f3 m_f4 m_f5 m_f6 m_f7 m_f8 m_f9 m_f10 m_f11 l_f
    have HCD := Lib.hid (fun (w' : World) (hg' : Gr w w') => leaf_code (HF.out.later hg') 12 (by omega) (by omega))
    unfold esI at HCD
    go_at_call 23
    (with_reducible refine (HCD.out w13 hg).mono ?_); rintro e w14 ⟨rfl, hb⟩
    replace hg := hg.trans hb
    replace hg12 := hg12.trans hb
    clear hb xt xu hg45
    go_wp2_with fail
    go_loopw [11, 6] (fun i _ wr => ∃ k : Nat, i = .int .i64 (k : Int) ∧ k ≤ 3000000 ∧ Gr w wr ∧ Gr w1 wr) (fun i _ _ => 3000000 - (intOf i).toNat)
    case atStart => exact ⟨0, rfl, by omega, hg, hg12⟩
    case round =>
      obtain ⟨k, rfl, hk3, hg, hg1⟩ := hrel
      by_cases hkn : k < N
      · have hkI : (k : Int) < (N : Int) := by omega
        have hkc : (k : Int) ≤ (cb : Int) := by omega
        have hlen : (L.take k).length = k := by rw [List.length_take, HN.out]; omega
        have hsk : Sl wr (.slice (some ⟨g, 0, none⟩) k cb) 1 (L.take k).length ((L.take k).map vB) := by
          obtain ⟨h1, h2, h3⟩ := HSLB0.out.later hg1
          refine ⟨by simp, by unfold maxLen; omega, .inr ⟨g, 0, cb, by rw [hlen], fun _ => Nat.lt_of_lt_of_le hgl hg1.size, fun j u hj => ?_⟩⟩
          rcases h3 with ⟨⟨_, _, h4⟩, _⟩ | ⟨b', off', cap', h4, _, h5⟩
          · have := HN.out
            injection h4 with _ h4 _
            omega
          · injection h4 with h4 _ _
            injection h4 with h4
            injection h4 with h6 h7 _
            subst h6 h7
            refine h5 j u ?_
            rw [List.getElem?_map] at hj ⊢
            obtain ⟨x, hx, hx2⟩ := Option.map_eq_some_iff.1 hj
            have hjk : j < k := by have := (List.getElem?_eq_some_iff.1 hx).1; omega
            rw [List.getElem?_take_of_lt hjk] at hx
            rw [hx]; exact congrArg some hx2
        have HCK2 := Lib.hid (copyB_any (L.take k) _ wr hsk (.inr ⟨_, _, _, rfl⟩) (by omega))
        have HP := Lib.hid (HPART.out k (by rw [HN.out]; exact hkn))
        have HLEN := Lib.hid hlen
        clear hsk hlen
        go_wp2_with fail
        go_at_call 22
        (with_reducible refine HCK2.out.mono ?_); rintro e w15 ⟨ux, rfl, hox, hb⟩
        replace hg := hg.trans hb
        replace hg1 := hg1.trans hb
        have HDX := Lib.hid (fun p c (hv : ux = .slice p (L.take k).length c) => decode_any w15 p c (L.take k) s (HF.out.later hg) (by rw [← hv]; exact Sl.of_owns hox) (by have := HLEN.out; omega) (hox.cap _ _ _ hv))
        obtain ⟨px, cx, rfl⟩ := (Sl.of_owns hox).len
        have HDY := Lib.hid (HDX.out px cx rfl)
        rw [HLEN.out] at HDY ⊢
        clear hox hb HDX
        go_wp2_with fail
        go_at_call 19
        (with_reducible refine HDY.out.mono ?_); rintro e w16 ⟨hb, hE⟩
        rw [HP.out] at hE
        obtain rfl := hE
        replace hg := hg.trans hb
        replace hg1 := hg1.trans hb
        unfold tbV tb0 v0
        dsimp only
        clear hb HDY
        go_wp2_with fail
        go_at_call 23
        (with_reducible refine (HCD.out w16 hg).mono ?_); rintro e w17 ⟨rfl, hb⟩
        replace hg := hg.trans hb
        replace hg1 := hg1.trans hb
        clear hb
        go_wp2_with fail
        go_roundw
        case rel => exact ⟨k + 1 + N / 60, by first | rfl | (congr 1; omega), by omega, hg, hg1⟩
        case measure => simp [intOf]; omega
      · have hkI : ¬ (k : Int) < (N : Int) := by omega
        go_wp2_with fail
        go_at_call 17
        (with_reducible refine (HW.out wr hg).mono ?_); rintro e w9 ⟨rfl, hb⟩
        go_wp2_with fail
        go_ret
        exact ⟨rfl, hg.trans hb⟩

end Go.Proofs.YtcbfmajojkcibaaDoor
