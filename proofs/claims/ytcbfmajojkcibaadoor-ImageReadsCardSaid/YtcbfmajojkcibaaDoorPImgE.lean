/- image.Check. No condition but bounds of lengths. -/
import Derived.Test.YtcbfmajojkcibaaDoorPImgD
import Derived.Test.YtcbfmajojkcibaaDoorPGb
namespace Go.Proofs.YtcbfmajojkcibaaDoor
open Go Go.RowKit

set_option maxRecDepth 100000 in
set_option maxHeartbeats 4000000 in
/-- The closure that looks at a label. -/
theorem lab_any (q : Nat) (x : Int) (r : Nat) (w : World) (pl : Option Addr) (cl : Nat) (h : w.cell? ⟨q, 1, none⟩ = some (.slice pl r cl)) : Calls Tryd.prog 41 #[.int .i64 x, .pointer (some ⟨q, 0, none⟩)] w fun e w' => e = .returned (.bool (!labB r x)) ∧ w' = w := by
  have hq : q < w.heap.size := World.block_lt_of_cell? w _ h
  obtain ⟨R, hR⟩ : ∃ R, (!labB r x) = R := ⟨_, rfl⟩
  rw [hR]
  have HR := Lib.hid hR
  clear hR
  by_cases h1 : x < -1
  · have HR2 := Lib.hid (show R = true by rw [← HR.out]; unfold labB; rw [decide_eq_false (by omega)]; rfl)
    go_enter Tryd.func41, Tryd.ntmps41
    go_wp2_with fail
    go_ret
    exact ⟨ret_bool HR2.out.symm, rfl⟩
  by_cases h2 : (r : Int) ≤ x
  · have HR2 := Lib.hid (show R = true by rw [← HR.out]; unfold labB; rw [decide_eq_false (by omega)]; rfl)
    go_enter Tryd.func41, Tryd.ntmps41
    go_wp2_with fail
    go_ret
    exact ⟨ret_bool (by rw [HR2.out]), rfl⟩
  · have HR2 := Lib.hid (show R = false by rw [← HR.out]; unfold labB; rw [decide_eq_true (by omega)]; rfl)
    go_enter Tryd.func41, Tryd.ntmps41
    go_wp2_with fail
    go_ret
    exact ⟨ret_bool (by rw [HR2.out]), rfl⟩

set_option maxRecDepth 100000 in
set_option maxHeartbeats 4000000 in
theorem indexF_any (l : List Int) (p : Option Addr) (c q r : Nat) (pl : Option Addr) (cl : Nat) (w : World) (h : Sl w (.slice p l.length c) 1 l.length (l.map vI)) (hq : w.cell? ⟨q, 1, none⟩ = some (.slice pl r cl)) :
    Calls Tryd.prog 59 #[.slice p l.length c, .func (.func 41) #[] #[.pointer (some ⟨q, 0, none⟩)]] w fun e w' => (∃ k : Int, e = .returned (.int .i64 k) ∧ decide (0 ≤ k) = !(l.all (labB r))) ∧ w' = w := by
  have hmx := h.2.1
  unfold maxLen at hmx
  have H := Lib.hid h
  have HQ := Lib.hid hq
  clear h hq
  go_enter Tryd.func59, Tryd.ntmps59
  go_wp2_with fail
  go_loopw [8] (fun i wr => ∃ k : Nat, k ≤ l.length ∧ i = .int .i64 (k : Int) ∧ w = wr ∧ Hid ((l.take k).all (labB r) = true)) (fun i _ => l.length - (intOf i).toNat)
  case atStart => exact ⟨0, Nat.zero_le _, rfl, rfl, Lib.hid rfl⟩
  case round =>
    obtain ⟨k, hk, rfl, rfl, HA⟩ := hrel
    cases hx : l[k]? with
    | none =>
      have hkl : k = l.length := by
        rcases Nat.lt_or_ge k l.length with h | h
        · rw [List.getElem?_eq_getElem h] at hx; cases hx
        · omega
      subst hkl
      have HA2 := Lib.hid (show l.all (labB r) = true by have := HA.out; rw [List.take_length] at this; exact this)
      clear hx hk HA
      go_wp2_with fail
      go_ret
      exact ⟨⟨-1, rfl, by rw [HA2.out]; rfl⟩, rfl⟩
    | some x =>
      have hkl : k < l.length := (List.getElem?_eq_some_iff.1 hx).1
      obtain ⟨b, off, rfl, hb, c0⟩ := int_at H.out hx
      have HX := Lib.hid hx
      have HKL := Lib.hid hkl
      have hkI : (k : Int) < (l.length : Int) := by omega
      have HL := Lib.hid (lab_any q x r w pl cl HQ.out)
      clear hx hk hkl
      cases hb2 : labB r x
      all_goals
        rw [hb2] at HL
        have YES := Lib.hid (fun h : labB r x = true => Lib.hid (show (l.take (k + 1)).all (labB r) = true by rw [all_take _ _ _ _ HX.out, HA.out, h]; rfl))
        have NO := Lib.hid (fun h : labB r x = false => Lib.hid (show l.all (labB r) = false from all_false HX.out h))
        have HB2 := Lib.hid hb2
        clear hb2
        go_wp2_with fail
        go_at_call 41
        refine HL.out.mono ?_; rintro e w1 ⟨rfl, rfl⟩
        go_wp2_with fail
      · go_ret
        exact ⟨⟨k, rfl, by rw [(NO.out HB2.out).out]; simp⟩, rfl⟩
      · go_roundw
        case rel => exact ⟨k + 1, by have := HKL.out; omega, by go_num, trivial, YES.out HB2.out⟩
        case measure => have := HKL.out; simp [intOf]; omega

set_option maxRecDepth 100000 in
theorem containsF_any (l : List Int) (p : Option Addr) (c q r : Nat) (pl : Option Addr) (cl : Nat) (w : World) (h : Sl w (.slice p l.length c) 1 l.length (l.map vI)) (hq : w.cell? ⟨q, 1, none⟩ = some (.slice pl r cl)) :
    Calls Tryd.prog 40 #[.slice p l.length c, .func (.func 41) #[] #[.pointer (some ⟨q, 0, none⟩)]] w fun e w' => e = .returned (.bool (!(l.all (labB r)))) ∧ w' = w := by
  have HI := Lib.hid (indexF_any l p c q r pl cl w h hq)
  clear h hq
  go_enter Tryd.func40, Tryd.ntmps40
  go_wp2_with fail
  go_at_call 59
  refine HI.out.mono ?_; rintro e w1 ⟨⟨k, rfl, hk⟩, rfl⟩
  have HK := Lib.hid hk
  clear hk
  go_wp2_with fail
  go_ret
  exact ⟨ret_bool HK.out, rfl⟩

theorem contains_is : ∀ (l : List (List UInt8)) (s : List UInt8), Lib.containsS (l.map st) (st s) = l.contains s := fun l s => by
  rw [Bool.eq_iff_iff, Lib.containsS_iff, List.contains_iff_mem, List.mem_map]
  exact ⟨fun ⟨a, h1, h2⟩ => by rw [← st_inj h2]; exact h1, fun h => ⟨s, h, rfl⟩⟩

set_option maxRecDepth 100000 in
set_option maxHeartbeats 16000000 in
theorem checkI_any (t : Tb) (v : TbV) (w : World) (h : TbIn w t v) (hfit : ∀ s, s ∈ t.base → -9223372036854775808 ≤ s ∧ s ≤ 9223372036854775807) : Calls Tryd.prog 11 #[tbV t v] w fun e w' => e = .returned (.bool (mayB t)) ∧ Gr w w' := by
  obtain ⟨R, hR⟩ : ∃ R, mayB t = R := ⟨_, rfl⟩
  rw [hR]
  have HR := Lib.hid hR
  clear hR
  have H := Lib.hid h
  have hRU := fun (w' : World) (hh : Gr w w') => ruledI_any t v w' (h.later hh)
  have hCL := fun (w' : World) (hh : Gr w w') => classesI_any t.classes v.classes t.count w' (h.classes.later hh)
  have hCO := fun (w' : World) (hh : Gr w w') => combI_any t v w' (h.later hh) hfit
  unfold tbV at hRU
  obtain ⟨pm, cm, em⟩ := h.modes.len
  obtain ⟨pl, cl, el⟩ := h.labels.len
  obtain ⟨pc, cc, ec⟩ := h.cuts.len
  obtain ⟨pa, ca, ea⟩ := h.acts.len
  obtain ⟨pk, ck, ek⟩ := h.classes.len
  obtain ⟨ps, cs, es⟩ := h.starts.len
  obtain ⟨pb, cb, eb⟩ := h.label.len
  obtain ⟨p1, c1, e1⟩ := h.base.len
  obtain ⟨p2, c2, e2⟩ := h.dflt.len
  obtain ⟨p3, c3, e3⟩ := h.next.len
  obtain ⟨p4, c4, e4⟩ := h.check.len
  have HM := Lib.hid (em ▸ h.modes)
  have HS := Lib.hid (es ▸ h.starts)
  have HB := Lib.hid (eb ▸ h.label)
  have hm1 := h.modes.2.1
  have hcap := h.cap pm t.modes.length cm em
  unfold maxLen at hm1
  unfold tbV
  rw [em, el, ec, ea, ek, es, eb, e1, e2, e3, e4] at hRU ⊢
  rw [ek] at hCL
  rw [e1, e2, e3, e4] at hCO
  clear h em el ec ea ek es eb e1 e2 e3 e4
  obtain ⟨r1, hr1⟩ : ∃ b, ruledB t = b := ⟨_, rfl⟩
  obtain ⟨r2, hr2⟩ : ∃ b, classesB t.classes t.count = b := ⟨_, rfl⟩
  obtain ⟨r3, hr3⟩ : ∃ b, combB t = b := ⟨_, rfl⟩
  rw [hr1] at hRU
  rw [hr2] at hCL
  rw [hr3] at hCO
  have HRU := Lib.hid hRU
  have HCL := Lib.hid hCL
  have HCO := Lib.hid hCO
  have HR1 := Lib.hid (show R = (decide (1 ≤ t.modes.length ∧ t.modes.length ≤ 16 ∧ t.starts.length = t.modes.length) && (r1 && (r2 && (r3 && (decide (t.label.length = t.base.length) &&
    (allI (modeB t.modes t.label.length) 0 (t.modes.zip t.starts) && t.label.all (labB t.labels.length))))))) by rw [← HR.out]; unfold mayB; rw [hr1, hr2, hr3])
  clear hRU hCL hCO hr1 hr2 hr3 hfit
  by_cases g : 1 ≤ t.modes.length ∧ t.modes.length ≤ 16 ∧ t.starts.length = t.modes.length
  · have HR2 := Lib.hid (show R = (r1 && (r2 && (r3 && (decide (t.label.length = t.base.length) && (allI (modeB t.modes t.label.length) 0 (t.modes.zip t.starts) && t.label.all (labB t.labels.length)))))) by rw [HR1.out, decide_eq_true g, Bool.true_and])
    obtain ⟨g1, g2, g3⟩ := g
    have HSL := Lib.hid g3
    rw [g3] at HS HRU ⊢
    obtain ⟨n, hn⟩ : ∃ n, t.modes.length = n := ⟨_, rfl⟩
    have HML := Lib.hid hn
    rw [hn] at HM HS HRU hm1 hcap g1 g2 ⊢
    clear g3 hn
    have g1I : ¬ (n : Int) < 1 := by omega
    have g2I : ¬ 16 < (n : Int) := by omega
    go_enter Tryd.func11, Tryd.ntmps11
    go_wp2_with fail
    go_at_call 35
    refine name_calls (fun W1 hW => ?_)
    have xe : boxAt W1 w.heap.size [.slice pm n cm, .slice pl t.labels.length cl, .slice pc t.cuts.length cc, .slice pa t.acts.length ca, .slice pk t.classes.length ck, .int .i64 t.count, .slice ps n cs, .slice pb t.label.length cb, .slice p1 t.base.length c1, .slice p2 t.dflt.length c2, .slice p3 t.next.length c3, .slice p4 t.check.length c4] := boxAt.new _ _ hW
    have hg : Gr w W1 := by rw [hW]; exact Gr.alloc _ _
    clear hW
    (with_reducible refine (HRU.out W1 hg).mono ?_); rintro r w2 ⟨rfl, hb⟩
    replace xe := xe.later hb
    replace hg := hg.trans hb
    clear hb
    have c_e0 := xe.cell 0 _ rfl
    have c_e1 := xe.cell 1 _ rfl
    have c_e2 := xe.cell 2 _ rfl
    have c_e3 := xe.cell 3 _ rfl
    have c_e4 := xe.cell 4 _ rfl
    have c_e5 := xe.cell 5 _ rfl
    have c_e6 := xe.cell 6 _ rfl
    have c_e7 := xe.cell 7 _ rfl
    have c_e8 := xe.cell 8 _ rfl
    have c_e9 := xe.cell 9 _ rfl
    have c_e10 := xe.cell 10 _ rfl
    have c_e11 := xe.cell 11 _ rfl
    have m_e0 := xe.mark 0 _ rfl
    have m_e1 := xe.mark 1 _ rfl
    have m_e2 := xe.mark 2 _ rfl
    have m_e3 := xe.mark 3 _ rfl
    have m_e4 := xe.mark 4 _ rfl
    have m_e5 := xe.mark 5 _ rfl
    have m_e6 := xe.mark 6 _ rfl
    have m_e7 := xe.mark 7 _ rfl
    have m_e8 := xe.mark 8 _ rfl
    have m_e9 := xe.mark 9 _ rfl
    have m_e10 := xe.mark 10 _ rfl
    have m_e11 := xe.mark 11 _ rfl
    have l_e := xe.lt (Nat.succ_pos _)
    cases r1 with
    | false =>
      have N := Lib.hid (show R = false by rw [HR2.out]; rfl)
      go_wp2_with fail
      go_ret
      exact ⟨ret_bool N.out.symm, hg⟩
    | true =>
      go_wp2_with fail
      clear c_e0 c_e1 c_e2 c_e3 c_e4 c_e5 c_e6 c_e7 c_e8 c_e9 c_e10 c_e11 m_e0 m_e1 m_e2 m_e3 m_e4 m_e5 m_e6 m_e7 m_e8 m_e9 m_e10 m_e11 l_e
      go_at_call 36
      (with_reducible refine (HCL.out w2 hg).mono ?_); rintro r w3 ⟨rfl, hb⟩
      replace xe := xe.later hb
      replace hg := hg.trans hb
      clear hb
      have c_e0 := xe.cell 0 _ rfl
      have c_e1 := xe.cell 1 _ rfl
      have c_e2 := xe.cell 2 _ rfl
      have c_e3 := xe.cell 3 _ rfl
      have c_e4 := xe.cell 4 _ rfl
      have c_e5 := xe.cell 5 _ rfl
      have c_e6 := xe.cell 6 _ rfl
      have c_e7 := xe.cell 7 _ rfl
      have c_e8 := xe.cell 8 _ rfl
      have c_e9 := xe.cell 9 _ rfl
      have c_e10 := xe.cell 10 _ rfl
      have c_e11 := xe.cell 11 _ rfl
      have m_e0 := xe.mark 0 _ rfl
      have m_e1 := xe.mark 1 _ rfl
      have m_e2 := xe.mark 2 _ rfl
      have m_e3 := xe.mark 3 _ rfl
      have m_e4 := xe.mark 4 _ rfl
      have m_e5 := xe.mark 5 _ rfl
      have m_e6 := xe.mark 6 _ rfl
      have m_e7 := xe.mark 7 _ rfl
      have m_e8 := xe.mark 8 _ rfl
      have m_e9 := xe.mark 9 _ rfl
      have m_e10 := xe.mark 10 _ rfl
      have m_e11 := xe.mark 11 _ rfl
      have l_e := xe.lt (Nat.succ_pos _)
      cases r2 with
      | false =>
        have N := Lib.hid (show R = false by rw [HR2.out]; rfl)
        go_wp2_with fail
        go_ret
        exact ⟨ret_bool N.out.symm, hg⟩
      | true =>
        go_wp2_with fail
        clear c_e0 c_e1 c_e2 c_e3 c_e4 c_e5 c_e6 c_e7 c_e8 c_e9 c_e10 c_e11 m_e0 m_e1 m_e2 m_e3 m_e4 m_e5 m_e6 m_e7 m_e8 m_e9 m_e10 m_e11 l_e
        go_at_call 37
        (with_reducible refine (HCO.out w3 hg).mono ?_); rintro r w4 ⟨rfl, hb⟩
        replace xe := xe.later hb
        replace hg := hg.trans hb
        clear hb
        have c_e0 := xe.cell 0 _ rfl
        have c_e1 := xe.cell 1 _ rfl
        have c_e2 := xe.cell 2 _ rfl
        have c_e3 := xe.cell 3 _ rfl
        have c_e4 := xe.cell 4 _ rfl
        have c_e5 := xe.cell 5 _ rfl
        have c_e6 := xe.cell 6 _ rfl
        have c_e7 := xe.cell 7 _ rfl
        have c_e8 := xe.cell 8 _ rfl
        have c_e9 := xe.cell 9 _ rfl
        have c_e10 := xe.cell 10 _ rfl
        have c_e11 := xe.cell 11 _ rfl
        have m_e0 := xe.mark 0 _ rfl
        have m_e1 := xe.mark 1 _ rfl
        have m_e2 := xe.mark 2 _ rfl
        have m_e3 := xe.mark 3 _ rfl
        have m_e4 := xe.mark 4 _ rfl
        have m_e5 := xe.mark 5 _ rfl
        have m_e6 := xe.mark 6 _ rfl
        have m_e7 := xe.mark 7 _ rfl
        have m_e8 := xe.mark 8 _ rfl
        have m_e9 := xe.mark 9 _ rfl
        have m_e10 := xe.mark 10 _ rfl
        have m_e11 := xe.mark 11 _ rfl
        have l_e := xe.lt (Nat.succ_pos _)
        cases r3 with
        | false =>
          have N := Lib.hid (show R = false by rw [HR2.out]; rfl)
          go_wp2_with fail
          go_ret
          exact ⟨ret_bool N.out.symm, hg⟩
        | true =>
          by_cases g4 : t.label.length = t.base.length
          · have HR3 := Lib.hid (show R = (allI (modeB t.modes t.label.length) 0 (t.modes.zip t.starts) && t.label.all (labB t.labels.length)) by rw [HR2.out, decide_eq_true g4]; rfl)
            have g4I : ((t.label.length : Int) != (t.base.length : Int)) = false := by rw [bne_eq_false_iff_eq, g4]
            clear g4
            go_wp2_with fail
            clear c_e0 c_e1 c_e2 c_e3 c_e4 c_e5 c_e6 c_e7 c_e8 c_e9 c_e10 c_e11 m_e0 m_e1 m_e2 m_e3 m_e4 m_e5 m_e6 m_e7 m_e8 m_e9 m_e10 m_e11 l_e
            go_loopw [56] (fun i wr => ∃ k : Nat, k ≤ n ∧ i = .int .i64 (k : Int) ∧ Gr w4 wr ∧ Hid (allI (modeB t.modes t.label.length) 0 ((t.modes.zip t.starts).take k) = true)) (fun i _ => n - (intOf i).toNat)
            case atStart => exact ⟨0, Nat.zero_le _, rfl, Gr.refl _, Lib.hid rfl⟩
            case round =>
              obtain ⟨k, hk, rfl, hgr, HA⟩ := hrel
              have xr := xe.later hgr
              have HG1 := Lib.hid hgr
              replace hgr := hg.trans hgr
              rcases Nat.lt_or_ge k n with hkl | hkl
              · obtain ⟨x, hx⟩ : ∃ x, t.modes[k]? = some x := ⟨_, List.getElem?_eq_getElem (by rw [HML.out]; exact hkl)⟩
                obtain ⟨y, hy⟩ : ∃ x, t.starts[k]? = some x := ⟨_, List.getElem?_eq_getElem (by rw [HSL.out, HML.out]; exact hkl)⟩
                have hz : (t.modes.zip t.starts)[k]? = some (x, y) := by rw [List.getElem?_zip_eq_some]; exact ⟨hx, hy⟩
                have hslm : Sl wr (.slice pm t.modes.length cm) 1 t.modes.length (t.modes.map vS) := HML.out ▸ HM.out.later hgr
                obtain ⟨b1, o1, hpm, hb1, a1⟩ := str_at hslm hx
                subst hpm
                obtain ⟨b2, o2, rfl, hb2, a2⟩ := int_at (w := wr) ((HSL.out.trans HML.out).symm ▸ HS.out.later hgr : Sl wr (.slice ps t.starts.length cs) 1 t.starts.length (t.starts.map vI)) hy
                have hcells : ∀ j, j < (t.modes.map st).length → wr.cell? ⟨b1, o1 + j, none⟩ = some (.string ((t.modes.map st).getD j ByteArray.empty)) := fun j hj => by
                  obtain ⟨z, hz⟩ : ∃ z, t.modes[j]? = some z := ⟨_, List.getElem?_eq_getElem (by simpa using hj)⟩
                  obtain ⟨b', o', hp', _, hc'⟩ := str_at hslm hz
                  injection hp' with hp'
                  injection hp' with hp1 hp2
                  subst hp1 hp2
                  rw [hc', List.getD_eq_getElem?_getD, List.getElem?_map, hz]; rfl
                have hCT : ∀ w', Gr wr w' → Calls Tryd.prog 39 #[.slice (some ⟨b1, o1, none⟩) k cm, .string (st x)] w' fun e w'' => e = .returned (.bool ((t.modes.take k).contains x)) ∧ w'' = w' := fun w' hh => by
                  have := Tryd.slices_Contains_string b1 o1 k cm (t.modes.map st) (st x) w' (by rw [List.length_map, HML.out]; omega) (by omega) (fun j hj => hh.cell (hcells j hj))
                  rw [← List.map_take, contains_is] at this
                  exact this
                have HN0 := fun w' => nameI_any x w' (H.out.texts x (.inl (List.mem_of_getElem? hx)))
                have YES := Lib.hid (fun (y1 : modeB t.modes t.label.length k (x, y) = true) => Lib.hid (show allI (modeB t.modes t.label.length) 0 ((t.modes.zip t.starts).take (k + 1)) = true by rw [allI_take _ _ _ _ hz, HA.out, y1]; rfl))
                have NO := Lib.hid (fun (y1 : modeB t.modes t.label.length k (x, y) = false) => Lib.hid (show R = false by rw [HR3.out, allI_false hz y1, Bool.false_and]))
                have hkI : (k : Int) < (n : Int) := by omega
                have hkc : (k : Int) ≤ (cm : Int) := by omega
                have hkc2 : k ≤ cm := by omega
                have HKL := Lib.hid hkl
                obtain ⟨f1, hf1⟩ : ∃ f, nameB x = f := ⟨_, rfl⟩
                obtain ⟨f2, hf2⟩ : ∃ f, (t.modes.take k).contains x = f := ⟨_, rfl⟩
                rw [hf1] at HN0
                rw [hf2] at hCT
                have HF1 := Lib.hid hf1
                have HF2 := Lib.hid hf2
                have HN := Lib.hid HN0
                have HCT := Lib.hid hCT
                clear hx hy hz hk hkl hslm hcells hCT HN0 hf1 hf2
                have c_e0 := xr.cell 0 _ rfl
                have c_e1 := xr.cell 1 _ rfl
                have c_e2 := xr.cell 2 _ rfl
                have c_e3 := xr.cell 3 _ rfl
                have c_e4 := xr.cell 4 _ rfl
                have c_e5 := xr.cell 5 _ rfl
                have c_e6 := xr.cell 6 _ rfl
                have c_e7 := xr.cell 7 _ rfl
                have c_e8 := xr.cell 8 _ rfl
                have c_e9 := xr.cell 9 _ rfl
                have c_e10 := xr.cell 10 _ rfl
                have c_e11 := xr.cell 11 _ rfl
                have m_e0 := xr.mark 0 _ rfl
                have m_e1 := xr.mark 1 _ rfl
                have m_e2 := xr.mark 2 _ rfl
                have m_e3 := xr.mark 3 _ rfl
                have m_e4 := xr.mark 4 _ rfl
                have m_e5 := xr.mark 5 _ rfl
                have m_e6 := xr.mark 6 _ rfl
                have m_e7 := xr.mark 7 _ rfl
                have m_e8 := xr.mark 8 _ rfl
                have m_e9 := xr.mark 9 _ rfl
                have m_e10 := xr.mark 10 _ rfl
                have m_e11 := xr.mark 11 _ rfl
                have l_e := xr.lt (Nat.succ_pos _)
                cases f1 with
                | false =>
                  have Z := NO.out (by unfold modeB; rw [HF1.out]; rfl)
                  go_wp2_with fail
                  refine wp_region_G (.take 0 (.run 1 false (.take 2 (.take 3 (.take 4 (.take 5 (.take 6 (.take 7 (.take 8 (.run 9 false (.take 10 (.take 11 (.take 12 (.take 13 (.take 14 (.take 15 (.take 16 (.take 17 (.take 18 (.take 19 (.take 20 (.take 21 (.take 22 (.take 23 (.take 24 (.take 25 (.take 26 (.take 27 (.take 28 (.take 29 .nil)))))))))))))))))))))))))))))) (by kernel_rfl) (by kernel_rfl) ?_
                  simp only [pickOps, nthOp]
                  intro wq hG
                  repeat (first | (refine wpG_skip_take ?_ ?_; (focus rfl); try simp only [Act.put, List.setIfInBounds_toArray, List.set_cons_zero, List.set_cons_succ]) | (refine wpG_skip_run ?_ ?_; (focus rfl); try simp only [Act.put, List.setIfInBounds_toArray, List.set_cons_zero, List.set_cons_succ]) | (refine wpG_take ?_ ?_; (focus rfl); apply Exists.intro; refine ⟨fun w' hw' => ?_, ?_⟩; (focus (have hc := Gr.cells hw'; go_simp; (try rfl); done)); try simp only [Act.put, List.setIfInBounds_toArray, List.set_cons_zero, List.set_cons_succ]) | (refine wpG_run ?_ (fun K hK => ?_); (focus rfl); go_simp; (first | (go_at_call 38; (with_reducible refine (HN.out _).mono ?_); rintro e w' ⟨rfl, hww⟩; have hb := Gr.refl w'; subst hww) | (go_at_call 39; (with_reducible refine (HCT.out _ hG).mono ?_); rintro e w' ⟨rfl, hww⟩; have hb := Gr.refl w'; subst hww)); (try dsimp only); replace hG := hG.trans hb; refine hK.out _ _ hG ?_; clear hK K hb; try simp only [Act.put, List.setIfInBounds_toArray, List.set_cons_zero, List.set_cons_succ]))
                  refine wpG_done ?_
                  go_wp2_with fail
                  go_ret
                  exact ⟨ret_bool Z.out.symm, hgr.trans hG⟩
                | true =>
                  cases f2 with
                  | true =>
                    have Z := NO.out (by unfold modeB; rw [HF1.out, HF2.out]; rfl)
                    go_wp2_with fail
                    refine wp_region_G (.take 0 (.run 1 false (.take 2 (.take 3 (.take 4 (.take 5 (.take 6 (.take 7 (.take 8 (.run 9 false (.take 10 (.take 11 (.take 12 (.take 13 (.take 14 (.take 15 (.take 16 (.take 17 (.take 18 (.take 19 (.take 20 (.take 21 (.take 22 (.take 23 (.take 24 (.take 25 (.take 26 (.take 27 (.take 28 (.take 29 .nil)))))))))))))))))))))))))))))) (by kernel_rfl) (by kernel_rfl) ?_
                    simp only [pickOps, nthOp]
                    intro wq hG
                    repeat (first | (refine wpG_skip_take ?_ ?_; (focus rfl); try simp only [Act.put, List.setIfInBounds_toArray, List.set_cons_zero, List.set_cons_succ]) | (refine wpG_skip_run ?_ ?_; (focus rfl); try simp only [Act.put, List.setIfInBounds_toArray, List.set_cons_zero, List.set_cons_succ]) | (refine wpG_take ?_ ?_; (focus rfl); apply Exists.intro; refine ⟨fun w' hw' => ?_, ?_⟩; (focus (have hc := Gr.cells hw'; go_simp; (try rfl); done)); try simp only [Act.put, List.setIfInBounds_toArray, List.set_cons_zero, List.set_cons_succ]) | (refine wpG_run ?_ (fun K hK => ?_); (focus rfl); go_simp; (first | (go_at_call 38; (with_reducible refine (HN.out _).mono ?_); rintro e w' ⟨rfl, hww⟩; have hb := Gr.refl w'; subst hww) | (go_at_call 39; (with_reducible refine (HCT.out _ hG).mono ?_); rintro e w' ⟨rfl, hww⟩; have hb := Gr.refl w'; subst hww)); (try dsimp only); replace hG := hG.trans hb; refine hK.out _ _ hG ?_; clear hK K hb; try simp only [Act.put, List.setIfInBounds_toArray, List.set_cons_zero, List.set_cons_succ]))
                    refine wpG_done ?_
                    go_wp2_with fail
                    go_ret
                    exact ⟨ret_bool Z.out.symm, hgr.trans hG⟩
                  | false =>
                    by_cases q1 : y < 0
                    · have Z := NO.out (by unfold modeB; rw [HF1.out, HF2.out, decide_eq_false (by omega)]; rfl)
                      go_wp2_with fail
                      refine wp_region_G (.take 0 (.run 1 false (.take 2 (.take 3 (.take 4 (.take 5 (.take 6 (.take 7 (.take 8 (.run 9 false (.take 10 (.take 11 (.take 12 (.take 13 (.take 14 (.take 15 (.take 16 (.take 17 (.take 18 (.take 19 (.take 20 (.take 21 (.take 22 (.take 23 (.take 24 (.take 25 (.take 26 (.take 27 (.take 28 (.take 29 .nil)))))))))))))))))))))))))))))) (by kernel_rfl) (by kernel_rfl) ?_
                      simp only [pickOps, nthOp]
                      intro wq hG
                      repeat (first | (refine wpG_skip_take ?_ ?_; (focus rfl); try simp only [Act.put, List.setIfInBounds_toArray, List.set_cons_zero, List.set_cons_succ]) | (refine wpG_skip_run ?_ ?_; (focus rfl); try simp only [Act.put, List.setIfInBounds_toArray, List.set_cons_zero, List.set_cons_succ]) | (refine wpG_take ?_ ?_; (focus rfl); apply Exists.intro; refine ⟨fun w' hw' => ?_, ?_⟩; (focus (have hc := Gr.cells hw'; go_simp; (try rfl); done)); try simp only [Act.put, List.setIfInBounds_toArray, List.set_cons_zero, List.set_cons_succ]) | (refine wpG_run ?_ (fun K hK => ?_); (focus rfl); go_simp; (first | (go_at_call 38; (with_reducible refine (HN.out _).mono ?_); rintro e w' ⟨rfl, hww⟩; have hb := Gr.refl w'; subst hww) | (go_at_call 39; (with_reducible refine (HCT.out _ hG).mono ?_); rintro e w' ⟨rfl, hww⟩; have hb := Gr.refl w'; subst hww)); (try dsimp only); replace hG := hG.trans hb; refine hK.out _ _ hG ?_; clear hK K hb; try simp only [Act.put, List.setIfInBounds_toArray, List.set_cons_zero, List.set_cons_succ]))
                      refine wpG_done ?_
                      go_wp2_with fail
                      go_ret
                      exact ⟨ret_bool Z.out.symm, hgr.trans hG⟩
                    have HQ1 := Lib.hid (show decide (y < 0) = false from decide_eq_false q1)
                    by_cases q2 : (t.label.length : Int) ≤ y
                    · have Z := NO.out (by unfold modeB; rw [HF1.out, HF2.out, decide_eq_false (by omega)]; rfl)
                      go_wp2_with fail
                      refine wp_region_G (.take 0 (.run 1 false (.take 2 (.take 3 (.take 4 (.take 5 (.take 6 (.take 7 (.take 8 (.run 9 false (.take 10 (.take 11 (.take 12 (.take 13 (.take 14 (.take 15 (.take 16 (.take 17 (.take 18 (.take 19 (.take 20 (.take 21 (.take 22 (.take 23 (.take 24 (.take 25 (.take 26 (.take 27 (.take 28 (.take 29 .nil)))))))))))))))))))))))))))))) (by kernel_rfl) (by kernel_rfl) ?_
                      simp only [pickOps, nthOp]
                      intro wq hG
                      repeat (first | (refine wpG_skip_take ?_ ?_; (focus rfl); try simp only [Act.put, List.setIfInBounds_toArray, List.set_cons_zero, List.set_cons_succ]) | (refine wpG_skip_run ?_ ?_; (focus rfl); try simp only [Act.put, List.setIfInBounds_toArray, List.set_cons_zero, List.set_cons_succ]) | (refine wpG_take ?_ ?_; (focus rfl); apply Exists.intro; refine ⟨fun w' hw' => ?_, ?_⟩; (focus (have hc := Gr.cells hw'; go_simp; (try rfl); done)); try simp only [Act.put, List.setIfInBounds_toArray, List.set_cons_zero, List.set_cons_succ]) | (refine wpG_run ?_ (fun K hK => ?_); (focus rfl); go_simp; (first | (go_at_call 38; (with_reducible refine (HN.out _).mono ?_); rintro e w' ⟨rfl, hww⟩; have hb := Gr.refl w'; subst hww) | (go_at_call 39; (with_reducible refine (HCT.out _ hG).mono ?_); rintro e w' ⟨rfl, hww⟩; have hb := Gr.refl w'; subst hww)); (try dsimp only); replace hG := hG.trans hb; refine hK.out _ _ hG ?_; clear hK K hb; try simp only [Act.put, List.setIfInBounds_toArray, List.set_cons_zero, List.set_cons_succ]))
                      rw [HQ1.out]
                      repeat (first | (refine wpG_skip_take ?_ ?_; (focus rfl); try simp only [Act.put, List.setIfInBounds_toArray, List.set_cons_zero, List.set_cons_succ]) | (refine wpG_skip_run ?_ ?_; (focus rfl); try simp only [Act.put, List.setIfInBounds_toArray, List.set_cons_zero, List.set_cons_succ]) | (refine wpG_take ?_ ?_; (focus rfl); apply Exists.intro; refine ⟨fun w' hw' => ?_, ?_⟩; (focus (have hc := Gr.cells hw'; go_simp; (try rfl); done)); try simp only [Act.put, List.setIfInBounds_toArray, List.set_cons_zero, List.set_cons_succ]))
                      refine wpG_done ?_
                      go_wp2_with fail
                      go_ret
                      exact ⟨ret_bool Z.out.symm, hgr.trans hG⟩
                    · have Y := YES.out (by unfold modeB; rw [HF1.out, HF2.out, decide_eq_true (by omega)]; rfl)
                      go_wp2_with fail
                      refine wp_region_G (.take 0 (.run 1 false (.take 2 (.take 3 (.take 4 (.take 5 (.take 6 (.take 7 (.take 8 (.run 9 false (.take 10 (.take 11 (.take 12 (.take 13 (.take 14 (.take 15 (.take 16 (.take 17 (.take 18 (.take 19 (.take 20 (.take 21 (.take 22 (.take 23 (.take 24 (.take 25 (.take 26 (.take 27 (.take 28 (.take 29 .nil)))))))))))))))))))))))))))))) (by kernel_rfl) (by kernel_rfl) ?_
                      simp only [pickOps, nthOp]
                      intro wq hG
                      repeat (first | (refine wpG_skip_take ?_ ?_; (focus rfl); try simp only [Act.put, List.setIfInBounds_toArray, List.set_cons_zero, List.set_cons_succ]) | (refine wpG_skip_run ?_ ?_; (focus rfl); try simp only [Act.put, List.setIfInBounds_toArray, List.set_cons_zero, List.set_cons_succ]) | (refine wpG_take ?_ ?_; (focus rfl); apply Exists.intro; refine ⟨fun w' hw' => ?_, ?_⟩; (focus (have hc := Gr.cells hw'; go_simp; (try rfl); done)); try simp only [Act.put, List.setIfInBounds_toArray, List.set_cons_zero, List.set_cons_succ]) | (refine wpG_run ?_ (fun K hK => ?_); (focus rfl); go_simp; (first | (go_at_call 38; (with_reducible refine (HN.out _).mono ?_); rintro e w' ⟨rfl, hww⟩; have hb := Gr.refl w'; subst hww) | (go_at_call 39; (with_reducible refine (HCT.out _ hG).mono ?_); rintro e w' ⟨rfl, hww⟩; have hb := Gr.refl w'; subst hww)); (try dsimp only); replace hG := hG.trans hb; refine hK.out _ _ hG ?_; clear hK K hb; try simp only [Act.put, List.setIfInBounds_toArray, List.set_cons_zero, List.set_cons_succ]))
                      rw [HQ1.out]
                      repeat (first | (refine wpG_skip_take ?_ ?_; (focus rfl); try simp only [Act.put, List.setIfInBounds_toArray, List.set_cons_zero, List.set_cons_succ]) | (refine wpG_skip_run ?_ ?_; (focus rfl); try simp only [Act.put, List.setIfInBounds_toArray, List.set_cons_zero, List.set_cons_succ]) | (refine wpG_take ?_ ?_; (focus rfl); apply Exists.intro; refine ⟨fun w' hw' => ?_, ?_⟩; (focus (have hc := Gr.cells hw'; go_simp; (try rfl); done)); try simp only [Act.put, List.setIfInBounds_toArray, List.set_cons_zero, List.set_cons_succ]))
                      refine wpG_done ?_
                      go_wp2_with fail
                      go_roundw
                      case rel => exact ⟨k + 1, by have := HKL.out; omega, by go_num, HG1.out.trans hG, Y⟩
                      case measure => have := HKL.out; simp [intOf]; omega
              · have hkn : k = n := by omega
                subst hkn
                have HR4 := Lib.hid (show R = t.label.all (labB t.labels.length) by
                  rw [HR3.out]
                  have := HA.out
                  rw [List.take_of_length_le (by rw [List.length_zip]; have := HML.out; omega)] at this
                  rw [this, Bool.true_and])
                have hmf : ∀ (fn : Fn) (first cap : Array Value) (w : World), (Instr.makeFunc fn first cap).run Tryd.prog w = .ok (.func fn first cap) w := fun _ _ _ _ => rfl
                have c_e0 := xr.cell 0 _ rfl
                have c_e1 := xr.cell 1 _ rfl
                have c_e2 := xr.cell 2 _ rfl
                have c_e3 := xr.cell 3 _ rfl
                have c_e4 := xr.cell 4 _ rfl
                have c_e5 := xr.cell 5 _ rfl
                have c_e6 := xr.cell 6 _ rfl
                have c_e7 := xr.cell 7 _ rfl
                have c_e8 := xr.cell 8 _ rfl
                have c_e9 := xr.cell 9 _ rfl
                have c_e10 := xr.cell 10 _ rfl
                have c_e11 := xr.cell 11 _ rfl
                have m_e0 := xr.mark 0 _ rfl
                have m_e1 := xr.mark 1 _ rfl
                have m_e2 := xr.mark 2 _ rfl
                have m_e3 := xr.mark 3 _ rfl
                have m_e4 := xr.mark 4 _ rfl
                have m_e5 := xr.mark 5 _ rfl
                have m_e6 := xr.mark 6 _ rfl
                have m_e7 := xr.mark 7 _ rfl
                have m_e8 := xr.mark 8 _ rfl
                have m_e9 := xr.mark 9 _ rfl
                have m_e10 := xr.mark 10 _ rfl
                have m_e11 := xr.mark 11 _ rfl
                have l_e := xr.lt (Nat.succ_pos _)
                go_wp2_with fail
                go_at_call 40
                (with_reducible refine (containsF_any t.label pb cb w.heap.size t.labels.length pl cl wr (HB.out.later hgr) c_e1).mono ?_); rintro r w5 ⟨rfl, rfl⟩
                go_wp2_with fail
                go_ret
                exact ⟨ret_bool (by rw [HR4.out] <;> simp), hgr⟩
          · have g4I : ((t.label.length : Int) != (t.base.length : Int)) = true := by rw [bne_iff_ne]; omega
            have N := Lib.hid (show R = false by rw [HR2.out, decide_eq_false g4]; rfl)
            go_wp2_with fail
            go_ret
            exact ⟨ret_bool N.out.symm, hg⟩
  · have N := Lib.hid (show R = false by rw [HR1.out, decide_eq_false g, Bool.false_and])
    have HG := Lib.hid g
    clear g
    by_cases g1 : (t.modes.length : Int) < 1
    · go_enter Tryd.func11, Tryd.ntmps11
      go_wp2_with fail
      go_ret
      exact ⟨ret_bool N.out.symm, Gr.alloc _ _⟩
    by_cases g2 : 16 < (t.modes.length : Int)
    · go_enter Tryd.func11, Tryd.ntmps11
      go_wp2_with fail
      go_ret
      exact ⟨ret_bool N.out.symm, Gr.alloc _ _⟩
    · have g3 : ((t.starts.length : Int) != (t.modes.length : Int)) = true := by rw [bne_iff_ne]; have := HG.out; omega
      go_enter Tryd.func11, Tryd.ntmps11
      go_wp2_with fail
      go_ret
      exact ⟨ret_bool N.out.symm, Gr.alloc _ _⟩

end Go.Proofs.YtcbfmajojkcibaaDoor
