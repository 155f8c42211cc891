/- image: classes, ruled. No condition but bounds of lengths. -/
import Derived.Test.YtcbfmajojkcibaaDoorPImgB
namespace Go.Proofs.YtcbfmajojkcibaaDoor
open Go Go.RowKit

theorem clsGo_take : ∀ (l : List Int) (n : Int) (k : Nat) (c : Int), l[k]? = some c → clsGo n (l.take (k + 1)) = (clsGo n (l.take k)).bind (fun m => if c < 0 ∨ m < c then none else some (max m (c + 1)))
  | [], _, _, _, h => by simp at h
  | a :: l, n, 0, c, h => by
    simp at h; subst h
    simp only [Nat.zero_add, List.take_succ_cons, List.take_zero, clsGo, Option.bind_some]
  | a :: l, n, k + 1, c, h => by
    rw [List.take_succ_cons, List.take_succ_cons, clsGo, clsGo]
    by_cases ha : a < 0 ∨ n < a
    · rw [if_pos ha, if_pos ha]; rfl
    · rw [if_neg ha, if_neg ha]; exact clsGo_take l _ k c (by simpa using h)
theorem clsGo_none : ∀ (l : List Int) (n : Int) (k : Nat), clsGo n (l.take k) = none → clsGo n l = none
  | [], _, k, h => by simp [clsGo] at h
  | a :: l, n, 0, h => by simp [clsGo] at h
  | a :: l, n, k + 1, h => by
    rw [List.take_succ_cons, clsGo] at h
    rw [clsGo]
    by_cases ha : a < 0 ∨ n < a
    · rw [if_pos ha]
    · rw [if_neg ha] at h ⊢; exact clsGo_none l _ k h

set_option maxRecDepth 100000 in
set_option maxHeartbeats 4000000 in
theorem classesI_any (l : List Int) (v : Value) (count : Int) (w : World) (h : Sl w v 1 l.length (l.map vI)) : Calls Tryd.prog 36 #[v, .int .i64 count] w fun e w' => e = .returned (.bool (classesB l count)) ∧ Gr w w' := by
  obtain ⟨R, hR⟩ : ∃ R, classesB l count = R := ⟨_, rfl⟩
  rw [hR]
  have HR := Lib.hid hR
  clear hR
  have hmx := h.2.1
  unfold maxLen at hmx
  obtain ⟨p, c, rfl⟩ := h.len
  have H := Lib.hid h
  clear h
  go_enter Tryd.func36, Tryd.ntmps36
  go_wp2_with fail
  go_loopw [5, 10] (fun n i wr => ∃ (k : Nat) (m : Int), k ≤ l.length ∧ (0 ≤ m ∧ m ≤ k) ∧ n = .int .i64 m ∧ i = .int .i64 (k : Int) ∧ w = wr ∧ Hid (clsGo 0 (l.take k) = some m)) (fun _ i _ => l.length - (intOf i).toNat)
  case atStart => exact ⟨0, 0, Nat.zero_le _, ⟨by omega, by omega⟩, rfl, rfl, rfl, Lib.hid rfl⟩
  case round =>
    obtain ⟨k, m, hk, hm, rfl, rfl, rfl, HA⟩ := hrel
    cases hx : l[k]? with
    | none =>
      have hkl : k = l.length := by
        rcases Nat.lt_or_ge k l.length with h | h
        · rw [List.getElem?_eq_getElem h] at hx; cases hx
        · omega
      subst hkl
      have HR2 := Lib.hid (show R = (decide (l.length = 256) && decide (m = count)) by
        rw [← HR.out]; unfold classesB
        have := HA.out
        rw [List.take_length] at this
        rw [this]
        congr 1
        exact decide_eq_decide.2 ⟨fun h => by injection h, fun h => by rw [h]⟩)
      clear hx hk HA
      by_cases h8 : (l.length : Int) = 256
      · by_cases h9 : m = count
        all_goals
          go_wp2_with fail
          go_ret
          exact ⟨ret_bool (by rw [HR2.out, decide_eq_true (by omega : l.length = 256)]; simp [h9]), Gr.refl _⟩
      · have h8b : ((l.length : Int) == 256) = false := by rw [beq_eq_false_iff_ne]; exact h8
        go_wp2_with fail
        go_ret
        exact ⟨ret_bool (by rw [HR2.out, decide_eq_false (by omega : ¬ l.length = 256)]; rfl), Gr.refl _⟩
    | some x =>
      have hkl : k < l.length := (List.getElem?_eq_some_iff.1 hx).1
      obtain ⟨b, off, rfl, hb, c0⟩ := int_at H.out hx
      have HX := Lib.hid hx
      have hkI : (k : Int) < (l.length : Int) := by omega
      have HKL := Lib.hid hkl
      by_cases h1 : x < 0
      · have N := Lib.hid (show R = false by
          rw [← HR.out]; unfold classesB
          rw [clsGo_none l 0 (k + 1) (by rw [clsGo_take l 0 k x HX.out, HA.out]; simp [h1])]; simp)
        clear hx hk hkl
        go_wp2_with fail
        go_ret
        exact ⟨ret_bool N.out.symm, Gr.refl _⟩
      by_cases h2 : m < x
      · have N := Lib.hid (show R = false by
          rw [← HR.out]; unfold classesB
          rw [clsGo_none l 0 (k + 1) (by rw [clsGo_take l 0 k x HX.out, HA.out]; simp [h2])]; simp)
        clear hx hk hkl
        go_wp2_with fail
        go_ret
        exact ⟨ret_bool N.out.symm, Gr.refl _⟩
      · have Y := Lib.hid (show clsGo 0 (l.take (k + 1)) = some (max m (x + 1)) by
          rw [clsGo_take l 0 k x HX.out, HA.out]; simp [h1, h2])
        have hw : IntKind.i64.wrap (x + 1) = x + 1 := by rw [IntWalk.i64_in _ (by omega)]
        clear hx hk hkl
        go_wp2_with fail
        go_roundw
        case rel => exact ⟨k + 1, max m (x + 1), by have := HKL.out; omega, ⟨by omega, by omega⟩, by first | (congr 1; rw [Int.max_def]; split <;> split <;> omega; done) | (congr 1; rw [Int.max_def]; done) | (congr 1; done), by go_num, trivial, Y⟩
        case measure => have := HKL.out; simp [intOf]; omega

/-! Tables in a world. -/
structure TbV where
  modes : Value
  labels : Value
  cuts : Value
  acts : Value
  rows : List Value
  classes : Value
  starts : Value
  label : Value
  base : Value
  dflt : Value
  next : Value
  check : Value
def tbV (t : Tb) (v : TbV) : Value := .agg #[v.modes, v.labels, v.cuts, v.acts, v.classes, .int .i64 t.count, v.starts, v.label, v.base, v.dflt, v.next, v.check]
/-- A slice is no longer than its room. -/
def CapOk (v : Value) : Prop := ∀ p n c, v = .slice p n c → n ≤ c
structure TbIn (w : World) (t : Tb) (v : TbV) : Prop where
  modes : Sl w v.modes 1 t.modes.length (t.modes.map vS)
  labels : Sl w v.labels 1 t.labels.length (t.labels.map vS)
  cuts : Sl w v.cuts 2 t.cuts.length (t.cuts.flatMap prC)
  acts : Sl w v.acts 1 t.acts.length v.rows
  rows : ∀ (k : Nat) (a : List (Int × Int)), t.acts[k]? = some a → ∃ u, v.rows[k]? = some u ∧ Sl w u 2 a.length (a.flatMap prC)
  classes : Sl w v.classes 1 t.classes.length (t.classes.map vI)
  starts : Sl w v.starts 1 t.starts.length (t.starts.map vI)
  label : Sl w v.label 1 t.label.length (t.label.map vI)
  base : Sl w v.base 1 t.base.length (t.base.map vI)
  dflt : Sl w v.dflt 1 t.dflt.length (t.dflt.map vI)
  next : Sl w v.next 1 t.next.length (t.next.map vI)
  check : Sl w v.check 1 t.check.length (t.check.map vI)
  cap : CapOk v.modes
  texts : ∀ s, s ∈ t.modes ∨ s ∈ t.labels → s.length ≤ 9223372036854775807
theorem TbIn.later {w w' : World} {t : Tb} {v : TbV} (h : TbIn w t v) (hG : Gr w w') : TbIn w' t v :=
  ⟨h.modes.later hG, h.labels.later hG, h.cuts.later hG, h.acts.later hG, fun k a hk => by obtain ⟨u, h1, h2⟩ := h.rows k a hk; exact ⟨u, h1, h2.later hG⟩, h.classes.later hG, h.starts.later hG, h.label.later hG, h.base.later hG, h.dflt.later hG, h.next.later hG, h.check.later hG, h.cap, h.texts⟩
/-- A slice of a slice of slices. -/
theorem row_at {w : World} {p : Option Addr} {c : Nat} {n : Nat} {rows : List Value} (h : Sl w (.slice p n c) 1 n rows) {k : Nat} {u : Value} (hk : rows[k]? = some u) :
    ∃ b off, p = some ⟨b, off, none⟩ ∧ b < w.heap.size ∧ w.cell? ⟨b, off + k, none⟩ = some u := by
  have hl : k < rows.length := (List.getElem?_eq_some_iff.1 hk).1
  obtain ⟨hlen, _, ⟨_, h0⟩ | ⟨b, off, cap, hv, hb, hc⟩⟩ := h
  · omega
  · injection hv with hp _ _
    exact ⟨b, off, hp, hb (by omega), hc k _ hk⟩

set_option maxRecDepth 100000 in
set_option maxHeartbeats 8000000 in
theorem ruledI_any (t : Tb) (v : TbV) (w : World) (h : TbIn w t v) : Calls Tryd.prog 35 #[tbV t v] w fun e w' => e = .returned (.bool (ruledB t)) ∧ Gr w w' := by
  obtain ⟨R, hR⟩ : ∃ R, ruledB t = R := ⟨_, rfl⟩
  rw [hR]
  have HR := Lib.hid hR
  clear hR
  have H := Lib.hid h
  obtain ⟨pm, cm, em⟩ := h.modes.len
  obtain ⟨pl, cl, el⟩ := h.labels.len
  obtain ⟨pc, cc, ec⟩ := h.cuts.len
  obtain ⟨pa, ca, ea⟩ := h.acts.len
  obtain ⟨pk, ck, ek⟩ := h.classes.len
  obtain ⟨ps, cs, es⟩ := h.starts.len
  obtain ⟨pb, cb, eb⟩ := h.label.len
  obtain ⟨p1, c1, e1⟩ := h.base.len
  obtain ⟨p2, c2, e2⟩ := h.dflt.len
  obtain ⟨p3, c3, e3⟩ := h.next.len
  obtain ⟨p4, c4, e4⟩ := h.check.len
  have HL := Lib.hid (el ▸ h.labels)
  have HC := Lib.hid (ec ▸ h.cuts)
  have HA := Lib.hid (ea ▸ h.acts)
  have hm1 := h.labels.2.1
  unfold maxLen at hm1
  unfold tbV
  rw [em, el, ec, ea, ek, es, eb, e1, e2, e3, e4]
  clear h em el ec ea ek es eb e1 e2 e3 e4
  go_enter Tryd.func35, Tryd.ntmps35
  by_cases g1 : (200 : Int) < t.labels.length
  · have N := Lib.hid (show R = false by rw [← HR.out]; unfold ruledB; rw [decide_eq_false (by omega), Bool.false_and])
    go_wp2_with fail
    go_ret
    exact ⟨ret_bool N.out.symm, Gr.alloc _ _⟩
  by_cases g2 : (t.cuts.length : Int) = t.labels.length
  · by_cases g3 : (t.acts.length : Int) = t.labels.length
    · have HZ := Lib.hid (show R = (t.labels.zip (t.cuts.zip t.acts)).all (ruleB t.modes.length) by
        rw [← HR.out]; unfold ruledB; rw [decide_eq_true (by omega), Bool.true_and])
      have hcl : t.cuts.length = t.labels.length := by omega
      have hal : t.acts.length = t.labels.length := by omega
      rw [hcl] at HC ⊢
      rw [hal] at HA ⊢
      have HCL := Lib.hid hcl
      have HAL := Lib.hid hal
      obtain ⟨N, hN⟩ : ∃ N, t.labels.length = N := ⟨_, rfl⟩
      have HNN := Lib.hid hN
      rw [hN] at HL HC HA hm1 g1 ⊢
      clear g2 g3 hcl hal hN
      go_wp2_with fail
      refine name_world (fun W1 hW => ?_)
      have xe : boxAt W1 w.heap.size [.slice pm t.modes.length cm, .slice pl N cl, .slice pc N cc, .slice pa N ca, .slice pk t.classes.length ck, .int .i64 t.count, .slice ps t.starts.length cs, .slice pb t.label.length cb, .slice p1 t.base.length c1, .slice p2 t.dflt.length c2, .slice p3 t.next.length c3, .slice p4 t.check.length c4] := boxAt.new _ _ hW
      have hg : Gr w W1 := by rw [hW]; exact Gr.alloc _ _
      clear hW
      have c_e0 := xe.cell 0 _ rfl
      have c_e1 := xe.cell 1 _ rfl
      have c_e2 := xe.cell 2 _ rfl
      have c_e3 := xe.cell 3 _ rfl
      have c_e4 := xe.cell 4 _ rfl
      have c_e5 := xe.cell 5 _ rfl
      have c_e6 := xe.cell 6 _ rfl
      have c_e7 := xe.cell 7 _ rfl
      have c_e8 := xe.cell 8 _ rfl
      have c_e9 := xe.cell 9 _ rfl
      have c_e10 := xe.cell 10 _ rfl
      have c_e11 := xe.cell 11 _ rfl
      have m_e0 := xe.mark 0 _ rfl
      have m_e1 := xe.mark 1 _ rfl
      have m_e2 := xe.mark 2 _ rfl
      have m_e3 := xe.mark 3 _ rfl
      have m_e4 := xe.mark 4 _ rfl
      have m_e5 := xe.mark 5 _ rfl
      have m_e6 := xe.mark 6 _ rfl
      have m_e7 := xe.mark 7 _ rfl
      have m_e8 := xe.mark 8 _ rfl
      have m_e9 := xe.mark 9 _ rfl
      have m_e10 := xe.mark 10 _ rfl
      have m_e11 := xe.mark 11 _ rfl
      have l_e := xe.lt (Nat.succ_pos _)
      go_wp2_with fail
      clear c_e0 c_e1 c_e2 c_e3 c_e4 c_e5 c_e6 c_e7 c_e8 c_e9 c_e10 c_e11 m_e0 m_e1 m_e2 m_e3 m_e4 m_e5 m_e6 m_e7 m_e8 m_e9 m_e10 m_e11 l_e
      go_loopw [28] (fun i wr => ∃ k : Nat, k ≤ N ∧ i = .int .i64 (k : Int) ∧ Gr W1 wr ∧ Hid (((t.labels.zip (t.cuts.zip t.acts)).take k).all (ruleB t.modes.length) = true)) (fun i _ => N - (intOf i).toNat)
      case atStart => exact ⟨0, Nat.zero_le _, rfl, Gr.refl _, Lib.hid rfl⟩
      case round =>
        obtain ⟨k, hk, rfl, hgr, HAL2⟩ := hrel
        have xr := xe.later hgr
        have HG1 := Lib.hid hgr
        replace hgr := hg.trans hgr
        rcases Nat.lt_or_ge k N with hkl | hkl
        · obtain ⟨x, hx⟩ : ∃ x, t.labels[k]? = some x := ⟨_, List.getElem?_eq_getElem (by rw [HNN.out]; exact hkl)⟩
          obtain ⟨cu, hcu⟩ : ∃ x, t.cuts[k]? = some x := ⟨_, List.getElem?_eq_getElem (by rw [HCL.out, HNN.out]; exact hkl)⟩
          obtain ⟨ac, hac⟩ : ∃ x, t.acts[k]? = some x := ⟨_, List.getElem?_eq_getElem (by rw [HAL.out, HNN.out]; exact hkl)⟩
          obtain ⟨u, hu1, hu2⟩ := H.out.rows k ac hac
          have hz : (t.labels.zip (t.cuts.zip t.acts))[k]? = some (x, (cu, ac)) := by
            rw [List.getElem?_zip_eq_some]; exact ⟨hx, by rw [List.getElem?_zip_eq_some]; exact ⟨hcu, hac⟩⟩
          obtain ⟨b1, o1, rfl, hb1, a1⟩ := str_at (w := wr) (HNN.out ▸ HL.out.later hgr : Sl wr (.slice pl t.labels.length cl) 1 t.labels.length (t.labels.map vS)) hx
          obtain ⟨b2, o2, rfl, hb2, a2, a3⟩ := pr_at (w := wr) ((HCL.out.trans HNN.out).symm ▸ HC.out.later hgr : Sl wr (.slice pc t.cuts.length cc) 2 t.cuts.length (t.cuts.flatMap prC)) hcu
          obtain ⟨b3, o3, rfl, hb3, a4⟩ := row_at (HA.out.later hgr) hu1
          obtain ⟨q, d, rfl⟩ := hu2.len
          have HN := Lib.hid (fun w' => nameI_any x w' (H.out.texts x (.inr (List.mem_of_getElem? hx))))
          have HCU := Lib.hid (fun w' => cutsI_any cu w')
          have HAC := Lib.hid (fun w' (hh : Gr wr w') => actsI_any ac _ t.modes.length w' (hu2.later (hgr.trans hh)))
          have YES := Lib.hid (fun (y1 : nameB x = true) (y2 : cutB cu = true) (y3 : actsB t.modes.length ac = true) => Lib.hid (show ((t.labels.zip (t.cuts.zip t.acts)).take (k + 1)).all (ruleB t.modes.length) = true by
            rw [all_take _ _ _ _ hz, HAL2.out]; unfold ruleB; rw [y1, y2, y3]; rfl))
          have NO := Lib.hid (fun (y : (nameB x && (cutB cu && actsB t.modes.length ac)) = false) => Lib.hid (show R = false by
            rw [HZ.out]; exact all_false hz (by unfold ruleB; exact y)))
          have hkI : (k : Int) < (N : Int) := by omega
          have HKL := Lib.hid hkl
          clear hx hcu hac hu1 hz hk hkl hu2
          have c_e0 := xr.cell 0 _ rfl
          have c_e1 := xr.cell 1 _ rfl
          have c_e2 := xr.cell 2 _ rfl
          have c_e3 := xr.cell 3 _ rfl
          have c_e4 := xr.cell 4 _ rfl
          have c_e5 := xr.cell 5 _ rfl
          have c_e6 := xr.cell 6 _ rfl
          have c_e7 := xr.cell 7 _ rfl
          have c_e8 := xr.cell 8 _ rfl
          have c_e9 := xr.cell 9 _ rfl
          have c_e10 := xr.cell 10 _ rfl
          have c_e11 := xr.cell 11 _ rfl
          have m_e0 := xr.mark 0 _ rfl
          have m_e1 := xr.mark 1 _ rfl
          have m_e2 := xr.mark 2 _ rfl
          have m_e3 := xr.mark 3 _ rfl
          have m_e4 := xr.mark 4 _ rfl
          have m_e5 := xr.mark 5 _ rfl
          have m_e6 := xr.mark 6 _ rfl
          have m_e7 := xr.mark 7 _ rfl
          have m_e8 := xr.mark 8 _ rfl
          have m_e9 := xr.mark 9 _ rfl
          have m_e10 := xr.mark 10 _ rfl
          have m_e11 := xr.mark 11 _ rfl
          have l_e := xr.lt (Nat.succ_pos _)
          cases h1 : nameB x <;> cases h2 : cutB cu <;> cases h3 : actsB t.modes.length ac
          all_goals
            rw [h1] at HN
            rw [h2] at HCU
            rw [h3] at HAC
            try have Y := YES.out h1 h2 h3
            try have Z := NO.out (by rw [h1, h2, h3]; rfl)
            clear h1 h2 h3
            go_wp2_with fail
            refine wp_region_G (.take 0 (.run 1 false (.take 2 (.take 3 (.take 4 (.take 5 (.take 6 (.take 7 (.take 8 (.run 9 false (.take 10 (.take 11 (.take 12 (.take 13 (.take 14 (.take 15 (.take 16 (.take 17 (.take 18 (.take 19 (.take 20 (.run 21 false (.take 22 (.take 23 .nil)))))))))))))))))))))))) (by kernel_rfl) (by kernel_rfl) ?_
            simp only [pickOps, nthOp]
            intro wq hG
            repeat (first | (refine wpG_skip_take ?_ ?_; (focus rfl); try simp only [Act.put, List.setIfInBounds_toArray, List.set_cons_zero, List.set_cons_succ]) | (refine wpG_skip_run ?_ ?_; (focus rfl); try simp only [Act.put, List.setIfInBounds_toArray, List.set_cons_zero, List.set_cons_succ]) | (refine wpG_take ?_ ?_; (focus rfl); apply Exists.intro; refine ⟨fun w' hw' => ?_, ?_⟩; (focus (have hc := Gr.cells hw'; go_simp; (try rfl); done)); try simp only [Act.put, List.setIfInBounds_toArray, List.set_cons_zero, List.set_cons_succ]) | (refine wpG_run ?_ (fun K hK => ?_); (focus rfl); go_simp; (first | (go_at_call 38; (with_reducible refine (HN.out _).mono ?_); rintro e w' ⟨rfl, hww⟩; have hb := Gr.refl w'; subst hww) | (go_at_call 56; (with_reducible refine (HCU.out _).mono ?_); rintro e w' ⟨rfl, hb⟩) | (go_at_call 57; (with_reducible refine (HAC.out _ hG).mono ?_); rintro e w' ⟨rfl, hb⟩)); (try dsimp only); replace hG := hG.trans hb; refine hK.out _ _ hG ?_; clear hK K hb; try simp only [Act.put, List.setIfInBounds_toArray, List.set_cons_zero, List.set_cons_succ]))
            refine wpG_done ?_
            go_wp2_with fail
            first
              | (go_ret
                 exact ⟨ret_bool Z.out.symm, hgr.trans hG⟩)
              | skip
          go_roundw
          case rel => exact ⟨k + 1, by have := HKL.out; omega, by go_num, HG1.out.trans hG, Y⟩
          case measure => have := HKL.out; simp [intOf]; omega
        · have hkl2 : k = N := by omega
          subst hkl2
          have HY := Lib.hid (show R = true by
            rw [HZ.out]
            have := HAL2.out
            rw [List.take_of_length_le (by rw [List.length_zip, List.length_zip]; have := HNN.out; omega)] at this
            exact this)
          have c_e0 := xr.cell 0 _ rfl
          have c_e1 := xr.cell 1 _ rfl
          have c_e2 := xr.cell 2 _ rfl
          have c_e3 := xr.cell 3 _ rfl
          have c_e4 := xr.cell 4 _ rfl
          have c_e5 := xr.cell 5 _ rfl
          have c_e6 := xr.cell 6 _ rfl
          have c_e7 := xr.cell 7 _ rfl
          have c_e8 := xr.cell 8 _ rfl
          have c_e9 := xr.cell 9 _ rfl
          have c_e10 := xr.cell 10 _ rfl
          have c_e11 := xr.cell 11 _ rfl
          have m_e0 := xr.mark 0 _ rfl
          have m_e1 := xr.mark 1 _ rfl
          have m_e2 := xr.mark 2 _ rfl
          have m_e3 := xr.mark 3 _ rfl
          have m_e4 := xr.mark 4 _ rfl
          have m_e5 := xr.mark 5 _ rfl
          have m_e6 := xr.mark 6 _ rfl
          have m_e7 := xr.mark 7 _ rfl
          have m_e8 := xr.mark 8 _ rfl
          have m_e9 := xr.mark 9 _ rfl
          have m_e10 := xr.mark 10 _ rfl
          have m_e11 := xr.mark 11 _ rfl
          have l_e := xr.lt (Nat.succ_pos _)
          go_wp2_with fail
          go_ret
          exact ⟨ret_bool HY.out.symm, hgr⟩
    · have g3b : ((t.acts.length : Int) == (t.labels.length : Int)) = false := by rw [beq_eq_false_iff_ne]; exact g3
      have N := Lib.hid (show R = false by rw [← HR.out]; unfold ruledB; rw [decide_eq_false (by omega), Bool.false_and])
      go_wp2_with fail
      go_ret
      exact ⟨ret_bool N.out.symm, Gr.alloc _ _⟩
  · have g2b : ((t.cuts.length : Int) == (t.labels.length : Int)) = false := by rw [beq_eq_false_iff_ne]; exact g2
    have N := Lib.hid (show R = false by rw [← HR.out]; unfold ruledB; rw [decide_eq_false (by omega), Bool.false_and])
    go_wp2_with fail
    go_ret
    exact ⟨ret_bool N.out.symm, Gr.alloc _ _⟩

end Go.Proofs.YtcbfmajojkcibaaDoor
