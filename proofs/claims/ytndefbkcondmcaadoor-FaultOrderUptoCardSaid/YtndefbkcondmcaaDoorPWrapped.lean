/- bolterlaw2: wrapped, of an error and of none. No condition. -/
import Derived.Test.YtndefbkcondmcaaDoorPShort
namespace Go.Proofs.YtndefbkcondmcaaDoor
open Go Go.RowKit

theorem kind_of1 {k : Int} (h : k = 1) : kindOf k = some .placed := by unfold kindOf; rw [if_pos h]
theorem kind_of2 {k : Int} (h : k = 2) : kindOf k = some .named := by subst h; rfl
theorem kind_of3 {k : Int} (h : k = 3) : kindOf k = some .ruled := by subst h; rfl
theorem kind_of4 {k : Int} (h : k = 4) : kindOf k = some .staged := by subst h; rfl
theorem kind_of0 {k : Int} (h1 : ¬ k = 1) (h2 : ¬ k = 2) (h3 : ¬ k = 3) (h4 : ¬ k = 4) : kindOf k = none := by unfold kindOf; rw [if_neg h1, if_neg h2, if_neg h3, if_neg h4]
theorem vS_set (l : List (List UInt8)) (i : Nat) (t : List UInt8) : (l.map vS).set i (vS t) = (l.set i t).map vS := by rw [List.map_set]

set_option maxRecDepth 100000 in
set_option maxHeartbeats 8000000 in
theorem wrapped_any {W : World} {s : Addr} {t : List UInt8} {l : List WrP} (e : Er) (x : WrP × Value) (hch : Ch W s t l e) (hx : WrIn W x) :
    Calls Tryd.prog 19 #[e.val, .agg #[.int .i64 x.1.kind, .int .i64 x.1.n, x.2]] W fun r w' => ∃ e', r = .returned e'.val ∧ Ch w' s t (l ++ [x.1]) e' ∧ Gr W w' := by
  have H := Lib.hid hch
  have HX := Lib.hid hx
  obtain ⟨t0, p0, hv0⟩ := e.val_iface
  have HV := Lib.hid hv0
  obtain ⟨nv, hnv⟩ : ∃ nv, x.2 = nv := ⟨_, rfl⟩
  have HNV := Lib.hid hnv
  obtain ⟨q, d, hq⟩ := hx.names.len
  rw [hv0, hq]
  have HQ := Lib.hid hq
  obtain ⟨k, hk⟩ : ∃ k, x.1.kind = k := ⟨_, rfl⟩
  obtain ⟨n, hn⟩ : ∃ n, x.1.n = n := ⟨_, rfl⟩
  have HK := Lib.hid hk
  have HN := Lib.hid hn
  rw [hk, hn]
  clear hch hx hv0 hnv hq hk hn HNV nv
  go_enter Tryd.func19, Tryd.ntmps19
  by_cases h1 : k = 1
  · go_wp2_with fail
    go_at_call 29
    refine name_calls (fun W1 hW => ?_)
    have hg : Gr W W1 := by rw [hW]; exact Gr.alloc _ _
    clear hW
    refine (placeF_any t0 _ n W1).mono ?_; rintro r w2 ⟨rfl, hb, hg2⟩
    go_wp2_with fail
    go_ret
    refine ⟨.wrap .placed W1.heap.size (.int .i64 x.1.n) e, rfl, H.out.num (by decide) (by rw [HK.out]; exact kind_of1 h1) HX.out.fit (hg.trans hg2) ?_, hg.trans hg2⟩
    rw [HV.out, HN.out]; exact hb
  by_cases h2 : k = 2
  · go_wp2_with fail
    go_at_call 32
    refine name_calls (fun W1 hW => ?_)
    have hg : Gr W W1 := by rw [hW]; exact Gr.alloc _ _
    clear hW
    refine (copyTexts_any _ x.1.names W1 (HQ.out ▸ HX.out.names.later hg) (HQ.out ▸ HX.out.nily) HX.out.room).mono ?_
    rintro r w2 ⟨lv, rfl, hown, hg2⟩
    have hgW1 := hg
    replace hg := hg.trans hg2
    have hsl := Sl.of_owns hown
    obtain ⟨p1, c1, rfl⟩ := hsl.len
    go_wp2_with fail
    go_at_call 33
    refine (named_any t0 _ _ x.1.names w2 hsl HX.out.room).mono ?_
    rintro r w3 ⟨b, nv, rfl, hbs, hb, hnown, hg3⟩
    have hgl : ∀ g, p1 = some ⟨g, 0, none⟩ → W.heap.size ≤ g ∧ g < w2.heap.size := fun g h => by
      subst h
      have := World.ownsRow.lt hown g rfl
      exact ⟨Nat.le_trans hgW1.size this.1, this.2⟩
    replace hown := owns_later hown hg3
    replace hg := hg.trans hg3
    have hnl := hsl.2.1
    unfold maxLen at hnl
    have HGL := Lib.hid hgl
    clear hsl hg3 hgl
    go_wp2_with fail
    go_loopw [7] (fun i wr => ∃ j : Nat, j ≤ x.1.names.length ∧ i = .int .i64 (j : Int) ∧ Gr W wr ∧ boxAt wr b [.iface t0 (.pointer (some p0)), nv] ∧ wr.ownsRow w2.heap.size 9 1 nv x.1.names.length (x.1.names.map vS) ∧ ∃ ls : List (List UInt8), ls.length = x.1.names.length ∧ wr.ownsRow W1.heap.size 9 1 (.slice p1 x.1.names.length c1) x.1.names.length (ls.map vS)) (fun i _ => x.1.names.length - (intOf i).toNat)
    case atStart => exact ⟨0, Nat.zero_le _, rfl, hg, hb, hnown, x.1.names, rfl, hown⟩
    case round =>
      clear hg hb hnown hown
      obtain ⟨j, hj, rfl, hg, hb, hnown, ls, hls, hown⟩ := hrel
      rcases Nat.lt_or_ge j x.1.names.length with hjl | hjl
      · obtain ⟨g, cap, hgv, hB, hlt, _⟩ := owns_block hown (by omega)
        injection hgv with hp1 _ hc1
        subst hp1 hc1
        have hsl2 := Sl.of_owns hown
        obtain ⟨y, hy⟩ : ∃ y, ls[j]? = some y := ⟨_, List.getElem?_eq_getElem (by omega)⟩
        have hcell := owns_cell hown j (vS y) (by rw [List.getElem?_map, hy]; rfl)
        have hmark := owns_mark hown j
        have hjI : (j : Int) < (x.1.names.length : Int) := by omega
        obtain ⟨hgl1, hgl2⟩ := HGL.out g rfl
        have HALL := Lib.hid (show _ ∧ _ ∧ _ ∧ _ from ⟨hg, hb, hnown, hown⟩)
        have HLS := Lib.hid hls
        have HB := Lib.hid (show g ≠ b by omega)
        have HJ := Lib.hid hjl
        unfold vS at hcell
        clear hg hb hnown hown hls hsl2 hy hj hjl
        go_wp2_with fail
        go_roundw
        case rel =>
          obtain ⟨hg, hb, hnown, hown⟩ := HALL.out
          have hjl := HJ.out
          have hls := HLS.out
          refine ⟨j + 1, by omega, by go_num, hg.setCell (p := ⟨g, j, none⟩) hgl1 _, hb.far ⟨g, j, none⟩ _ HB.out, ?_, ls.set j [111, 118, 101, 114], by rw [List.length_set]; exact hls, ?_⟩
          · exact owns_heap hnown (fun g' h' => Below.heap_setCell wr ⟨g, j, none⟩ _ g' (by have := (World.ownsRow.lt hnown g' h').1; show g' ≠ g; omega))
          · have := owns_set hown j (by rw [List.length_map]; omega) (vS [111, 118, 101, 114])
            rw [vS_set] at this
            exact this
        case measure => have := HJ.out; simp [intOf]; omega
      · have hje : j = x.1.names.length := by omega
        subst hje
        clear hj hjl
        go_wp2_with fail
        go_ret
        refine ⟨.wrap .named b nv e, rfl, H.out.nam (by rw [HK.out]; exact kind_of2 h2) hg ?_ (Sl.of_owns hnown) HX.out.room, hg⟩
        rw [HV.out]; exact hb
  by_cases h3 : k = 3
  · go_wp2_with fail
    go_at_call 34
    refine name_calls (fun W1 hW => ?_)
    have hg : Gr W W1 := by rw [hW]; exact Gr.alloc _ _
    clear hW
    refine (inRule_any t0 _ n W1).mono ?_; rintro r w2 ⟨rfl, hb, hg2⟩
    go_wp2_with fail
    go_ret
    refine ⟨.wrap .ruled W1.heap.size (.int .i64 x.1.n) e, rfl, H.out.num (by decide) (by rw [HK.out]; exact kind_of3 h3) HX.out.fit (hg.trans hg2) ?_, hg.trans hg2⟩
    rw [HV.out, HN.out]; exact hb
  by_cases h4 : k = 4
  · go_wp2_with fail
    go_at_call 28
    refine name_calls (fun W1 hW => ?_)
    have hg : Gr W W1 := by rw [hW]; exact Gr.alloc _ _
    clear hW
    refine (inStage_any t0 _ n W1).mono ?_; rintro r w2 ⟨rfl, hb, hg2⟩
    go_wp2_with fail
    go_ret
    refine ⟨.wrap .staged W1.heap.size (.int .i64 x.1.n) e, rfl, H.out.num (by decide) (by rw [HK.out]; exact kind_of4 h4) HX.out.fit (hg.trans hg2) ?_, hg.trans hg2⟩
    rw [HV.out, HN.out]; exact hb
  · go_wp2_with fail
    go_ret
    have hg := Gr.alloc W (.cells #[.int .i64 k, .int .i64 n, .slice q x.1.names.length d] 45)
    exact ⟨e, by rw [HV.out]; rfl, (H.out.later hg).skip (by rw [HK.out]; exact kind_of0 h1 h2 h3 h4), hg⟩

end Go.Proofs.YtndefbkcondmcaaDoor
