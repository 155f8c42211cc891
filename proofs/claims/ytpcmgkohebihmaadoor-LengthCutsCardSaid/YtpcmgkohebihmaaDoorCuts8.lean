/- Cuts of bolterref8, of any rules. No condition. -/
import Derived.Test.YtpcmgkohebihmaaDoorMay
import Derived.Test.YtpcmgkohebihmaaDoorCuts
import Derived.Test.YtpcmgkohebihmaaDoorExOwn
namespace Go.Proofs.YtpcmgkohebihmaaDoor
open Go Go.RowKit

/-- What Cuts tells. -/
inductive Cuts8Told (w' : World) (l : List Co) : Value → Int → Int → Prop
  | arg (h : mayAll l = false) : Cuts8Told w' l (.slice none 0 0) 15 0
  | trail (j : Nat) (a : Co) (h : mayAll l = true) (hj : l[j]? = some a) (ha : cutOf a = none) (hi : ∀ i x, i < j → l[i]? = some x → (cutOf x).isSome = true) : Cuts8Told w' l (.slice none 0 0) 10 ((j : Int) + 1)
  | cuts (M : List (Int × Int)) (v : Value) (h : mayAll l = true) (hM : l.map cutOf = M.map some) (ho : Sl w' v 2 M.length (M.flatMap cutCells)) : Cuts8Told w' l v 0 0

theorem bx1c {w W : World} {c0 : List Value} {e0 : TypeId} (hW : W = w.alloc (.cells c0.toArray e0)) : boxAt W w.heap.size c0 ∧ Gr w W := by
  subst hW; exact ⟨boxAt.new _ _ rfl, Gr.alloc _ _⟩

set_option maxRecDepth 100000 in
set_option maxHeartbeats 8000000 in
theorem cuts8_any (l : List (Co × List Value)) (v : Value) (w : World) (hs : Sl w v 21 l.length (l.flatMap (·.2))) (hl : ∀ p ∈ l, CoIn w p.1 p.2) :
    Calls Tryd.prog 17 #[v] w fun e' w' => ∃ v' fc fr, e' = .returned (.tuple #[v', .agg #[.int .i64 fc, .int .i64 0, .int .i64 fr, .int .i64 0, .slice none 0 0]]) ∧ Cuts8Told w' (l.map (·.1)) v' fc fr ∧ Gr w w' := by
  have HS := Lib.hid hs
  have HL := Lib.hid hl
  have HLN := Lib.hid (show (l.map (·.1)).length = l.length by simp)
  obtain ⟨pv, cv, rfl⟩ := hs.len
  have hll : l.length ≤ 9223372036854775807 := by have := hs.2.1; unfold maxLen at this; omega
  obtain ⟨i0, hi, hz0, hz1, hz2⟩ := info_parts info_cut
  clear hs hl
  go_enter Tryd.func17, Tryd.ntmps17
  by_cases hbig : (200 : Int) < (l.length : Int)
  · have HQ := Lib.hid (show mayAll (l.map (·.1)) = false by
      unfold mayAll; rw [HLN.out]; simp; intro h; omega)
    go_wp2_with fail
    go_at_call 24
    refine name_calls (fun W hW => ?_)
    obtain ⟨xr, hgW⟩ := bx1c hW
    clear hW
    refine (is_fault 15 _).mono ?_; rintro e' w2 ⟨rfl, hg⟩
    replace xr := xr.later hg
    replace hgW := hgW.trans hg
    have c_r0 := xr.cell 0 _ rfl
    have c_r1 := xr.cell 1 _ rfl
    have c_r2 := xr.cell 2 _ rfl
    have c_r3 := xr.cell 3 _ rfl
    have c_r4 := xr.cell 4 _ rfl
    have m_r0 := xr.mark 0 _ rfl
    have m_r1 := xr.mark 1 _ rfl
    have m_r2 := xr.mark 2 _ rfl
    have m_r3 := xr.mark 3 _ rfl
    have m_r4 := xr.mark 4 _ rfl
    have l_r := xr.lt (Nat.succ_pos _)
    go_wp2_with fail
    exact bodyPost_ret (v := .tuple #[.slice none 0 0, .agg #[.int .i64 15, .int .i64 0, .int .i64 0, .int .i64 0, .slice none 0 0]]) (by simp [results, Tryd.results17, go_sem, c_r0, c_r1, c_r2, c_r3, c_r4]) rfl ⟨_, _, _, rfl, .arg HQ.out, put5 hgW (by omega) _ _ _ _ _⟩
  have HL200 := Lib.hid (show l.length ≤ 200 by omega)
  go_wp2_with fail
  refine name_world (fun W hW => ?_)
  obtain ⟨xr, hgW⟩ := bx1c hW
  clear hW hbig
  go_loopw [4] (fun i wr => ∃ j : Nat, j ≤ l.length ∧ i = .int .i64 (j : Int) ∧ Gr W wr ∧ Hid (∀ a ∈ (l.map (·.1)).take j, okCo a = true)) (fun i _ => l.length - (intOf i).toNat)
  case atStart => exact ⟨0, by omega, rfl, Gr.refl _, Lib.hid (fun a h => by cases h)⟩
  case round =>
    obtain ⟨j, hj, rfl, hg, HOKS⟩ := hrel
    have yr := xr.later hg
    by_cases hlt : j < l.length
    · obtain ⟨b, off, cap, op, pos, s, text, mn, mx, p, n, c, op2, pos2, s2, text2, mn2, mx2, p2, n2, c2, e, hb, f, hv, hbW, ha, he, hf, hat⟩ := cores_at HS.out HL.out j hlt
      simp only [Value.slice.injEq, true_and] at hv
      obtain ⟨rfl, rfl⟩ := hv
      obtain ⟨hbr, hcell⟩ := hat wr (hgW.trans hg)
      have HCELL := Lib.hid (fun t u (h : ([.int .i64 op, .int .i64 pos, .int .u64 (wd s 0), .int .u64 (wd s 1), .int .u64 (wd s 2), .int .u64 (wd s 3), .string text, .int .i64 mn, .int .i64 mx, .slice p n c, .bool hb, .int .i64 op2, .int .i64 pos2, .int .u64 (wd s2 0), .int .u64 (wd s2 1), .int .u64 (wd s2 2), .int .u64 (wd s2 3), .string text2, .int .i64 mn2, .int .i64 mx2, .slice p2 n2 c2] : List Value)[t]? = some u) => hcell t u (by have := (List.getElem?_eq_some_iff.1 h).1; simpa using this) h)
      have hjI : (j : Int) < (l.length : Int) := by omega
      have hmj : (l.map (·.1))[j]? = some ⟨e, hb, f⟩ := by rw [List.getElem?_map, ha]; rfl
      have HTK := Lib.hid (show (l.map (·.1)).take (j + 1) = (l.map (·.1)).take j ++ [⟨e, hb, f⟩] by
        obtain ⟨g1, g2⟩ := List.getElem?_eq_some_iff.1 hmj
        rw [List.take_succ_eq_append_getElem g1, g2])
      have HMEM := Lib.hid (show (⟨e, hb, f⟩ : Co) ∈ l.map (·.1) from List.mem_of_getElem? hmj)
      have HLT := Lib.hid hlt
      have HC := Lib.hid (may7_any ⟨e, hb, f⟩ _ wr (.mk e hb f _ _ (he.later (hgW.trans hg)) (hf.later (hgW.trans hg))))
      unfold exCells at HC
      dsimp only [List.cons_append, List.nil_append] at HC
      obtain ⟨q, hq⟩ : ∃ q, okCo ⟨e, hb, f⟩ = q := ⟨_, rfl⟩
      rw [hq] at HC
      have HQ := Lib.hid hq
      clear hlt hcell hat ha hj hbW hmj he hf hq
      go_wp2_with (first | ((with_reducible refine wpList_plain ?_ (fun _ hK => ?_)); (focus rfl); refine wp_load_at 52 (.tmp 21) rfl b (off + j * 21) rfl [.int .i64 op, .int .i64 pos, .int .u64 (wd s 0), .int .u64 (wd s 1), .int .u64 (wd s 2), .int .u64 (wd s 3), .string text, .int .i64 mn, .int .i64 mx, .slice p n c, .bool hb, .int .i64 op2, .int .i64 pos2, .int .u64 (wd s2 0), .int .u64 (wd s2 1), .int .u64 (wd s2 2), .int .u64 (wd s2 3), .string text2, .int .i64 mn2, .int .i64 mx2, .slice p2 n2 c2] _ HCELL.out Tryd.underlying52 rfl (by kernel_rfl) (hK _ _ ?_)))
      go_at_call 31
      refine HC.out.mono ?_; rintro e' w1 ⟨rfl, hb1⟩
      replace yr := yr.later hb1
      replace hg := hg.trans hb1
      clear hb1 hbr
      cases q
      · have HNO := Lib.hid (show mayAll (l.map (·.1)) = false by
          cases h : mayAll (l.map (·.1))
          · rfl
          · have := may_mem h HMEM.out; rw [HQ.out] at this; cases this)
        go_wp2_with fail
        go_at_call 24
        refine (is_fault 15 _).mono ?_; rintro e' w2 ⟨rfl, hb1⟩
        replace yr := yr.later hb1
        replace hg := hg.trans hb1
        have c_r0 := yr.cell 0 _ rfl
        have c_r1 := yr.cell 1 _ rfl
        have c_r2 := yr.cell 2 _ rfl
        have c_r3 := yr.cell 3 _ rfl
        have c_r4 := yr.cell 4 _ rfl
        have m_r0 := yr.mark 0 _ rfl
        have m_r1 := yr.mark 1 _ rfl
        have m_r2 := yr.mark 2 _ rfl
        have m_r3 := yr.mark 3 _ rfl
        have m_r4 := yr.mark 4 _ rfl
        have l_r := yr.lt (Nat.succ_pos _)
        go_wp2_with fail
        exact bodyPost_ret (v := .tuple #[.slice none 0 0, .agg #[.int .i64 15, .int .i64 0, .int .i64 0, .int .i64 0, .slice none 0 0]]) (by simp [results, Tryd.results17, go_sem, c_r0, c_r1, c_r2, c_r3, c_r4]) rfl ⟨_, _, _, rfl, .arg HNO.out, put5 (hgW.trans hg) (by omega) _ _ _ _ _⟩
      · go_wp2_with fail
        go_roundw
        case rel =>
          refine ⟨j + 1, by have := HLT.out; omega, by go_num, hg, Lib.hid ?_⟩
          rw [HTK.out]
          intro a ha
          rcases List.mem_append.1 ha with ha | ha
          · exact HOKS.out a ha
          · rw [List.mem_singleton.1 ha]; exact HQ.out
        case measure => have := HLT.out; simp [intOf]; omega
    · have hjE : j = l.length := by omega
      have HQ := Lib.hid (show mayAll (l.map (·.1)) = true by
        unfold mayAll
        rw [HLN.out, Bool.and_eq_true]
        refine ⟨by simp; exact HL200.out, List.all_eq_true.2 fun a ha => HOKS.out a ?_⟩
        rw [hjE, ← HLN.out, List.take_length]; exact ha)
      clear hlt hj HOKS
      subst hjE
      clear xr
      go_wp2_with fail
      go_loopw [5, 6] (fun v i wq => ∃ (j : Nat) (M : List (Int × Int)), j ≤ l.length ∧ i = .int .i64 (j : Int) ∧ Hid (M.length = j) ∧ Hid (((l.map (·.1)).take j).map cutOf = M.map some) ∧ wq.ownsRow (w.heap.size + 1) 64 2 v j (M.flatMap cutCells) ∧ Gr w wq ∧ boxAt wq w.heap.size [.int .i64 0, .int .i64 0, .int .i64 0, .int .i64 0, .slice none 0 0] ∧ w.heap.size + 1 ≤ wq.heap.size) (fun _ i _ => l.length - (intOf i).toNat)
      case atStart => exact ⟨0, [], by omega, rfl, Lib.hid rfl, Lib.hid rfl, World.ownsRow_nil _ _ _ _, hgW.trans hg, yr, by have := yr.lt (by simp); omega⟩
      case round =>
        obtain ⟨j, M, hj, rfl, HMJ, HM, hown, hgr, xr, hszr⟩ := hrel
        clear hg yr hgW
        by_cases hlt : j < l.length
        · -- ROUND
          obtain ⟨b, off, cap, op, pos, s, text, mn, mx, p, n, c, op2, pos2, s2, text2, mn2, mx2, p2, n2, c2, e, hb, f, hv, hbW, ha, he, hf, hat⟩ := cores_at HS.out HL.out j hlt
          simp only [Value.slice.injEq, true_and] at hv
          obtain ⟨rfl, rfl⟩ := hv
          obtain ⟨hbr, hcell⟩ := hat wr hgr
          unfold exCells at hcell
          have d0 := hcell 0 _ (by omega) rfl
          have d1 := hcell 1 _ (by omega) rfl
          have d2 := hcell 2 _ (by omega) rfl
          have d3 := hcell 3 _ (by omega) rfl
          have d4 := hcell 4 _ (by omega) rfl
          have d5 := hcell 5 _ (by omega) rfl
          have d6 := hcell 6 _ (by omega) rfl
          have d7 := hcell 7 _ (by omega) rfl
          have d8 := hcell 8 _ (by omega) rfl
          have d9 := hcell 9 _ (by omega) rfl
          have d10 := hcell 10 _ (by omega) rfl
          have d11 := hcell 11 _ (by omega) rfl
          have d12 := hcell 12 _ (by omega) rfl
          have d13 := hcell 13 _ (by omega) rfl
          have d14 := hcell 14 _ (by omega) rfl
          have d15 := hcell 15 _ (by omega) rfl
          have d16 := hcell 16 _ (by omega) rfl
          have d17 := hcell 17 _ (by omega) rfl
          have d18 := hcell 18 _ (by omega) rfl
          have d19 := hcell 19 _ (by omega) rfl
          have d20 := hcell 20 _ (by omega) rfl
          simp only [Nat.add_zero] at d0
          have HAT := Lib.hid hat
          have hjI : (j : Int) < (l.length : Int) := by omega
          have hmj : (l.map (·.1))[j]? = some ⟨e, hb, f⟩ := by rw [List.getElem?_map, ha]; rfl
          have HMJ2 := Lib.hid hmj
          have HLT := Lib.hid hlt
          have HOK := Lib.hid (may_mem HQ.out (List.mem_of_getElem? hmj))
          have HE := Lib.hid he
          have HF := Lib.hid hf
          clear hlt hcell hat ha hj hbW hmj he hf
          cases hb
          · -- no trail
            have HRC := Lib.hid (show cutOf ⟨e, false, f⟩ = some (0, 0) by rfl)
            go_wp2_with (at_builtin; refine name_wpList (fun W9 hW9 => ?_); have xk : boxAt W9 wr.heap.size [.int .i64 0, .int .i64 0] := boxAt.new _ _ hW9; have hgW9 : Gr wr W9 := (by rw [hW9]; exact Gr.alloc _ _); clear hW9; replace hown := owns_later hown hgW9; refine wpList_append_own _ rfl (.tmp 38) (.tmp 40) 54 rfl (w.heap.size + 1) 64 i0 (.agg #[.int .i64 0, .int .i64 0]) 2 16 Tryd.underlying54 hi hz0 hz1 hz2 rfl (by decide) _ _ _ rfl hown ⟨wr.heap.size, 0, none⟩ 1 1 (cutCells (0, 0)) rfl rfl ?c1 ?c2 ?c3 ?c4 ?c5 ?_)
            case c1 => exact fun t u h => by rw [addr_add]; exact xk.row t u h
            case c2 => exact cutCells_ones _
            case c3 => have := HL200.out; have := HLT.out; unfold maxLen; omega
            case c4 => have := HL200.out; have := HLT.out; omega
            case c5 => exact Nat.le_trans hszr hgW9.size
            intro v6 w6 hown6 hgrow _
            have hg6 : Gr w w6 := Gr.grown (hgr.trans hgW9) hgrow (fun k hk => Nat.le_of_succ_le (World.ownsRow.lt hown k hk).1)
            have xr6 := (xr.later hgW9).grown hgrow (by simp) (fun e => by have := (World.ownsRow.lt hown _ e).1; omega)
            have hown7 : w6.ownsRow (w.heap.size + 1) 64 2 v6 (j + 1) ((M ++ [(0, 0)]).flatMap cutCells) := by
              rw [List.flatMap_append]; simpa using hown6
            have hsz6 : w.heap.size + 1 ≤ w6.heap.size := Nat.le_trans hszr (Nat.le_trans hgW9.size hgrow.size)
            clear hown6 hgrow hown hgr hgW9 xk
            go_wp2_with fail
            go_roundw
            case rel => exact ⟨j + 1, M ++ [(0, 0)], by have := HLT.out; omega, by go_num, Lib.hid (by rw [List.length_append, HMJ.out]; rfl), Lib.hid (cuts_next HM.out HMJ2.out HRC.out), hown7, hg6, xr6, hsz6⟩
            case measure => have := HLT.out; simp [intOf]; omega
          · have hcore := HOK.out
            unfold okCo at hcore
            rw [Bool.and_eq_true] at hcore
            have hg1 := core_good hcore.1
            have hg2 := core_good (show isCore f = true from hcore.2)
            have HC1 := Lib.hid (fun (cur : World) (h : Gr w cur) => of8_any _ e (Nat.le_refl _) _ cur (HE.out.later h) hg1.1 (Nat.le_trans hg1.2 (by omega)))
            have HC2 := Lib.hid (fun (cur : World) (h : Gr w cur) => of8_any _ f (Nat.le_refl _) _ cur (HF.out.later h) hg2.1 (Nat.le_trans hg2.2 (by omega)))
            unfold exCells at HC1 HC2
            have HSM := Lib.hid ((of_within _ e (Nat.le_refl _)).mono hg1.2)
            have HSM2 := Lib.hid ((of_within _ f (Nat.le_refl _)).mono hg2.2)
            have HRV := Lib.hid (show cutOf ⟨e, true, f⟩ = cutRes (ofE e) (ofE f) from rfl)
            obtain ⟨z, hz⟩ : ∃ z, ofE e = z := ⟨_, rfl⟩
            obtain ⟨y, hy⟩ : ∃ y, ofE f = y := ⟨_, rfl⟩
            rw [hz] at HC1 HSM HRV
            rw [hy] at HC2 HSM2 HRV
            obtain ⟨zn, zl, zm⟩ := z
            obtain ⟨yn, yl, ym⟩ := y
            clear hz hy hg1 hg2 hcore
            go_wp2_with fail
            go_at_call 25
            refine (HC1.out wr hgr).mono ?_; rintro e' w1 ⟨rfl, hb1⟩
            replace xr := xr.later hb1
            replace hown := owns_later hown hb1
            replace hgr := hgr.trans hb1
            have hsz1 : w.heap.size + 1 ≤ w1.heap.size := Nat.le_trans hszr hb1.size
            clear hb1 hszr d0 d1 d2 d3 d4 d5 d6 d7 d8 d9 d10 d11 d12 d13 d14 d15 d16 d17 d18 d19 d20 hbr
            obtain ⟨hbr, hcell⟩ := HAT.out w1 hgr
            unfold exCells at hcell
            have d0 := hcell 0 _ (by omega) rfl
            have d1 := hcell 1 _ (by omega) rfl
            have d2 := hcell 2 _ (by omega) rfl
            have d3 := hcell 3 _ (by omega) rfl
            have d4 := hcell 4 _ (by omega) rfl
            have d5 := hcell 5 _ (by omega) rfl
            have d6 := hcell 6 _ (by omega) rfl
            have d7 := hcell 7 _ (by omega) rfl
            have d8 := hcell 8 _ (by omega) rfl
            have d9 := hcell 9 _ (by omega) rfl
            have d10 := hcell 10 _ (by omega) rfl
            have d11 := hcell 11 _ (by omega) rfl
            have d12 := hcell 12 _ (by omega) rfl
            have d13 := hcell 13 _ (by omega) rfl
            have d14 := hcell 14 _ (by omega) rfl
            have d15 := hcell 15 _ (by omega) rfl
            have d16 := hcell 16 _ (by omega) rfl
            have d17 := hcell 17 _ (by omega) rfl
            have d18 := hcell 18 _ (by omega) rfl
            have d19 := hcell 19 _ (by omega) rfl
            have d20 := hcell 20 _ (by omega) rfl
            simp only [Nat.add_zero] at d0
            clear hcell
            go_wp2_with fail
            go_at_call 25
            refine name_calls (fun W7 hW => ?_)
            obtain ⟨x7, hb1⟩ := bx1c hW
            clear hW d0 d1 d2 d3 d4 d5 d6 d7 d8 d9 d10 d11 d12 d13 d14 d15 d16 d17 d18 d19 d20 hbr
            replace xr := xr.later hb1
            replace hown := owns_later hown hb1
            replace hgr := hgr.trans hb1
            replace hsz1 : w.heap.size + 1 ≤ W7.heap.size := Nat.le_trans hsz1 hb1.size
            clear hb1
            refine (HC2.out W7 hgr).mono ?_; rintro e' w2 ⟨rfl, hb1⟩
            replace xr := xr.later hb1
            replace x7 := x7.later hb1
            replace hown := owns_later hown hb1
            replace hgr := hgr.trans hb1
            replace hsz1 : w.heap.size + 1 ≤ w2.heap.size := Nat.le_trans hsz1 hb1.size
            clear hb1
            obtain ⟨b2, hb2⟩ : ∃ q, (zl == 0) = q := ⟨_, rfl⟩
            obtain ⟨b3, hb3⟩ : ∃ q, oneL ⟨yn, yl, ym⟩ = q := ⟨_, rfl⟩
            obtain ⟨b4, hb4⟩ : ∃ q, oneL ⟨zn, zl, zm⟩ = q := ⟨_, rfl⟩
            have HO1 := Lib.hid (fun (cur : World) => one8_any ⟨zn, zl, zm⟩ cur)
            have HO2 := Lib.hid (fun (cur : World) => one8_any ⟨yn, yl, ym⟩ cur)
            rw [hb4] at HO1
            rw [hb3] at HO2
            have HRW := Lib.hid (HRV.out.trans (cutRes_of (z := ⟨zn, zl, zm⟩) (y := ⟨yn, yl, ym⟩) rfl hb2 hb3 hb4))
            clear hb3 hb4
            obtain ⟨zr1, zr2, zr3, zr4⟩ := HSM.out
            obtain ⟨yr1, yr2, yr3, yr4⟩ := HSM2.out
            simp only at zr1 zr2 zr3 zr4 yr1 yr2 yr3 yr4
            have c_h0 := x7.cell 0 _ rfl
            have c_h1 := x7.cell 1 _ rfl
            have c_h2 := x7.cell 2 _ rfl
            have m_h0 := x7.mark 0 _ rfl
            have m_h1 := x7.mark 1 _ rfl
            have m_h2 := x7.mark 2 _ rfl
            have l_h := x7.lt (Nat.succ_pos _)
            cases zn
            · cases b2
              · go_wp2_with fail
                go_at_call 32
                refine name_calls (fun W8 hW => ?_)
                obtain ⟨x8, hb1⟩ := bx1c hW
                clear hW
                clear c_h0 c_h1 c_h2 m_h0 m_h1 m_h2 l_h
                replace xr := xr.later hb1
                replace x7 := x7.later hb1
                replace hown := owns_later hown hb1
                replace hgr := hgr.trans hb1
                replace hsz1 : w.heap.size + 1 ≤ W8.heap.size := Nat.le_trans hsz1 hb1.size
                clear hb1
                refine (HO1.out W8).mono ?_; rintro e' w3 ⟨rfl, hb1⟩
                replace xr := xr.later hb1
                replace x7 := x7.later hb1
                replace x8 := x8.later hb1
                replace hown := owns_later hown hb1
                replace hgr := hgr.trans hb1
                replace hsz1 : w.heap.size + 1 ≤ w3.heap.size := Nat.le_trans hsz1 hb1.size
                clear hb1
                cases b4
                · have c_k0 := x8.cell 0 _ rfl
                  have c_k1 := x8.cell 1 _ rfl
                  have c_k2 := x8.cell 2 _ rfl
                  have m_k0 := x8.mark 0 _ rfl
                  have m_k1 := x8.mark 1 _ rfl
                  have m_k2 := x8.mark 2 _ rfl
                  have l_k := x8.lt (Nat.succ_pos _)
                  go_wp2_with fail
                  clear c_k0 c_k1 c_k2 m_k0 m_k1 m_k2 l_k
                  go_at_call 32
                  refine (HO2.out w3).mono ?_; rintro e' w4 ⟨rfl, hb1⟩
                  replace xr := xr.later hb1
                  replace x7 := x7.later hb1
                  replace x8 := x8.later hb1
                  replace hown := owns_later hown hb1
                  replace hgr := hgr.trans hb1
                  replace hsz1 : w.heap.size + 1 ≤ w4.heap.size := Nat.le_trans hsz1 hb1.size
                  clear hb1
                  cases b3
                  · skip
                    have HRC := Lib.hid (show cutOf ⟨e, true, f⟩ = none by rw [HRW.out]; first | rfl | simp)
                    have c_r0 := xr.cell 0 _ rfl
                    have c_r1 := xr.cell 1 _ rfl
                    have c_r2 := xr.cell 2 _ rfl
                    have c_r3 := xr.cell 3 _ rfl
                    have c_r4 := xr.cell 4 _ rfl
                    have m_r0 := xr.mark 0 _ rfl
                    have m_r1 := xr.mark 1 _ rfl
                    have m_r2 := xr.mark 2 _ rfl
                    have m_r3 := xr.mark 3 _ rfl
                    have m_r4 := xr.mark 4 _ rfl
                    have l_r := xr.lt (Nat.succ_pos _)
                    go_wp2_with fail
                    exact bodyPost_ret (v := .tuple #[.slice none 0 0, .agg #[.int .i64 10, .int .i64 0, .int .i64 ((j : Int) + 1), .int .i64 0, .slice none 0 0]]) (by simp [results, Tryd.results17, go_sem, c_r0, c_r1, c_r2, c_r3, c_r4]) rfl ⟨_, _, _, rfl, .trail j ⟨e, true, f⟩ HQ.out HMJ2.out HRC.out (cuts_before HM.out HMJ.out), put5 hgr (by omega) _ _ _ _ _⟩
                  · have c_k0 := x8.cell 0 _ rfl
                    have c_k1 := x8.cell 1 _ rfl
                    have c_k2 := x8.cell 2 _ rfl
                    have m_k0 := x8.mark 0 _ rfl
                    have m_k1 := x8.mark 1 _ rfl
                    have m_k2 := x8.mark 2 _ rfl
                    have l_k := x8.lt (Nat.succ_pos _)
                    go_wp2_with fail
                    clear c_k0 c_k1 c_k2 m_k0 m_k1 m_k2 l_k
                    go_at_call 32
                    refine (HO2.out w4).mono ?_; rintro e' w5 ⟨rfl, hb1⟩
                    replace xr := xr.later hb1
                    replace x7 := x7.later hb1
                    replace x8 := x8.later hb1
                    replace hown := owns_later hown hb1
                    replace hgr := hgr.trans hb1
                    replace hsz1 : w.heap.size + 1 ≤ w5.heap.size := Nat.le_trans hsz1 hb1.size
                    clear hb1
                    have c_k0 := x8.cell 0 _ rfl
                    have c_k1 := x8.cell 1 _ rfl
                    have c_k2 := x8.cell 2 _ rfl
                    have m_k0 := x8.mark 0 _ rfl
                    have m_k1 := x8.mark 1 _ rfl
                    have m_k2 := x8.mark 2 _ rfl
                    have l_k := x8.lt (Nat.succ_pos _)
                    have hszr := hsz1
                    have HRC := Lib.hid (show cutOf ⟨e, true, f⟩ = some (1, yl) by (rw [HRW.out]; first | rfl | simp))
                    go_wp2_with (at_builtin; refine name_wpList (fun W9 hW9 => ?_); have xk : boxAt W9 w5.heap.size [.int .i64 1, .int .i64 yl] := boxAt.new _ _ hW9; have hgW9 : Gr w5 W9 := (by rw [hW9]; exact Gr.alloc _ _); clear hW9; replace hown := owns_later hown hgW9; refine wpList_append_own _ rfl (.tmp 85) (.tmp 89) 54 rfl (w.heap.size + 1) 64 i0 (.agg #[.int .i64 0, .int .i64 0]) 2 16 Tryd.underlying54 hi hz0 hz1 hz2 rfl (by decide) _ _ _ rfl hown ⟨w5.heap.size, 0, none⟩ 1 1 (cutCells (1, yl)) rfl rfl ?c1 ?c2 ?c3 ?c4 ?c5 ?_)
                    case c1 => exact fun t u h => by rw [addr_add]; exact xk.row t u h
                    case c2 => exact cutCells_ones _
                    case c3 => have := HL200.out; have := HLT.out; unfold maxLen; omega
                    case c4 => have := HL200.out; have := HLT.out; omega
                    case c5 => exact Nat.le_trans hszr hgW9.size
                    intro v6 w6 hown6 hgrow _
                    have hg6 : Gr w w6 := Gr.grown (hgr.trans hgW9) hgrow (fun k hk => Nat.le_of_succ_le (World.ownsRow.lt hown k hk).1)
                    have xr6 := (xr.later hgW9).grown hgrow (by simp) (fun e => by have := (World.ownsRow.lt hown _ e).1; omega)
                    have hown7 : w6.ownsRow (w.heap.size + 1) 64 2 v6 (j + 1) ((M ++ [(1, yl)]).flatMap cutCells) := by
                      rw [List.flatMap_append]; simpa using hown6
                    have hsz6 : w.heap.size + 1 ≤ w6.heap.size := Nat.le_trans hszr (Nat.le_trans hgW9.size hgrow.size)
                    clear hown6 hgrow hown hgr hgW9 xk
                    go_wp2_with fail
                    go_roundw
                    case rel => exact ⟨j + 1, M ++ [(1, yl)], by have := HLT.out; omega, by go_num, Lib.hid (by rw [List.length_append, HMJ.out]; rfl), Lib.hid (cuts_next HM.out HMJ2.out HRC.out), hown7, hg6, xr6, hsz6⟩
                    case measure => have := HLT.out; simp [intOf]; omega
                · have c_k0 := x8.cell 0 _ rfl
                  have c_k1 := x8.cell 1 _ rfl
                  have c_k2 := x8.cell 2 _ rfl
                  have m_k0 := x8.mark 0 _ rfl
                  have m_k1 := x8.mark 1 _ rfl
                  have m_k2 := x8.mark 2 _ rfl
                  have l_k := x8.lt (Nat.succ_pos _)
                  go_wp2_with fail
                  clear c_k0 c_k1 c_k2 m_k0 m_k1 m_k2 l_k
                  go_at_call 32
                  refine (HO2.out w3).mono ?_; rintro e' w4 ⟨rfl, hb1⟩
                  replace xr := xr.later hb1
                  replace x7 := x7.later hb1
                  replace x8 := x8.later hb1
                  replace hown := owns_later hown hb1
                  replace hgr := hgr.trans hb1
                  replace hsz1 : w.heap.size + 1 ≤ w4.heap.size := Nat.le_trans hsz1 hb1.size
                  clear hb1
                  cases b3
                  · have c_h0 := x7.cell 0 _ rfl
                    have c_h1 := x7.cell 1 _ rfl
                    have c_h2 := x7.cell 2 _ rfl
                    have m_h0 := x7.mark 0 _ rfl
                    have m_h1 := x7.mark 1 _ rfl
                    have m_h2 := x7.mark 2 _ rfl
                    have l_h := x7.lt (Nat.succ_pos _)
                    have hszr := hsz1
                    have HRC := Lib.hid (show cutOf ⟨e, true, f⟩ = some (2, zl) by (rw [HRW.out]; first | rfl | simp))
                    go_wp2_with (at_builtin; refine name_wpList (fun W9 hW9 => ?_); have xk : boxAt W9 w4.heap.size [.int .i64 2, .int .i64 zl] := boxAt.new _ _ hW9; have hgW9 : Gr w4 W9 := (by rw [hW9]; exact Gr.alloc _ _); clear hW9; replace hown := owns_later hown hgW9; refine wpList_append_own _ rfl (.tmp 54) (.tmp 58) 54 rfl (w.heap.size + 1) 64 i0 (.agg #[.int .i64 0, .int .i64 0]) 2 16 Tryd.underlying54 hi hz0 hz1 hz2 rfl (by decide) _ _ _ rfl hown ⟨w4.heap.size, 0, none⟩ 1 1 (cutCells (2, zl)) rfl rfl ?c1 ?c2 ?c3 ?c4 ?c5 ?_)
                    case c1 => exact fun t u h => by rw [addr_add]; exact xk.row t u h
                    case c2 => exact cutCells_ones _
                    case c3 => have := HL200.out; have := HLT.out; unfold maxLen; omega
                    case c4 => have := HL200.out; have := HLT.out; omega
                    case c5 => exact Nat.le_trans hszr hgW9.size
                    intro v6 w6 hown6 hgrow _
                    have hg6 : Gr w w6 := Gr.grown (hgr.trans hgW9) hgrow (fun k hk => Nat.le_of_succ_le (World.ownsRow.lt hown k hk).1)
                    have xr6 := (xr.later hgW9).grown hgrow (by simp) (fun e => by have := (World.ownsRow.lt hown _ e).1; omega)
                    have hown7 : w6.ownsRow (w.heap.size + 1) 64 2 v6 (j + 1) ((M ++ [(2, zl)]).flatMap cutCells) := by
                      rw [List.flatMap_append]; simpa using hown6
                    have hsz6 : w.heap.size + 1 ≤ w6.heap.size := Nat.le_trans hszr (Nat.le_trans hgW9.size hgrow.size)
                    clear hown6 hgrow hown hgr hgW9 xk
                    go_wp2_with fail
                    go_roundw
                    case rel => exact ⟨j + 1, M ++ [(2, zl)], by have := HLT.out; omega, by go_num, Lib.hid (by rw [List.length_append, HMJ.out]; rfl), Lib.hid (cuts_next HM.out HMJ2.out HRC.out), hown7, hg6, xr6, hsz6⟩
                    case measure => have := HLT.out; simp [intOf]; omega
                  · have c_k0 := x8.cell 0 _ rfl
                    have c_k1 := x8.cell 1 _ rfl
                    have c_k2 := x8.cell 2 _ rfl
                    have m_k0 := x8.mark 0 _ rfl
                    have m_k1 := x8.mark 1 _ rfl
                    have m_k2 := x8.mark 2 _ rfl
                    have l_k := x8.lt (Nat.succ_pos _)
                    have hszr := hsz1
                    have HRC := Lib.hid (show cutOf ⟨e, true, f⟩ = some (1, yl) by (rw [HRW.out]; first | rfl | simp))
                    go_wp2_with (at_builtin; refine name_wpList (fun W9 hW9 => ?_); have xk : boxAt W9 w4.heap.size [.int .i64 1, .int .i64 yl] := boxAt.new _ _ hW9; have hgW9 : Gr w4 W9 := (by rw [hW9]; exact Gr.alloc _ _); clear hW9; replace hown := owns_later hown hgW9; refine wpList_append_own _ rfl (.tmp 85) (.tmp 89) 54 rfl (w.heap.size + 1) 64 i0 (.agg #[.int .i64 0, .int .i64 0]) 2 16 Tryd.underlying54 hi hz0 hz1 hz2 rfl (by decide) _ _ _ rfl hown ⟨w4.heap.size, 0, none⟩ 1 1 (cutCells (1, yl)) rfl rfl ?c1 ?c2 ?c3 ?c4 ?c5 ?_)
                    case c1 => exact fun t u h => by rw [addr_add]; exact xk.row t u h
                    case c2 => exact cutCells_ones _
                    case c3 => have := HL200.out; have := HLT.out; unfold maxLen; omega
                    case c4 => have := HL200.out; have := HLT.out; omega
                    case c5 => exact Nat.le_trans hszr hgW9.size
                    intro v6 w6 hown6 hgrow _
                    have hg6 : Gr w w6 := Gr.grown (hgr.trans hgW9) hgrow (fun k hk => Nat.le_of_succ_le (World.ownsRow.lt hown k hk).1)
                    have xr6 := (xr.later hgW9).grown hgrow (by simp) (fun e => by have := (World.ownsRow.lt hown _ e).1; omega)
                    have hown7 : w6.ownsRow (w.heap.size + 1) 64 2 v6 (j + 1) ((M ++ [(1, yl)]).flatMap cutCells) := by
                      rw [List.flatMap_append]; simpa using hown6
                    have hsz6 : w.heap.size + 1 ≤ w6.heap.size := Nat.le_trans hszr (Nat.le_trans hgW9.size hgrow.size)
                    clear hown6 hgrow hown hgr hgW9 xk
                    go_wp2_with fail
                    go_roundw
                    case rel => exact ⟨j + 1, M ++ [(1, yl)], by have := HLT.out; omega, by go_num, Lib.hid (by rw [List.length_append, HMJ.out]; rfl), Lib.hid (cuts_next HM.out HMJ2.out HRC.out), hown7, hg6, xr6, hsz6⟩
                    case measure => have := HLT.out; simp [intOf]; omega
              · have HRC := Lib.hid (show cutOf ⟨e, true, f⟩ = none by (rw [HRW.out]; first | rfl | simp))
                have c_r0 := xr.cell 0 _ rfl
                have c_r1 := xr.cell 1 _ rfl
                have c_r2 := xr.cell 2 _ rfl
                have c_r3 := xr.cell 3 _ rfl
                have c_r4 := xr.cell 4 _ rfl
                have m_r0 := xr.mark 0 _ rfl
                have m_r1 := xr.mark 1 _ rfl
                have m_r2 := xr.mark 2 _ rfl
                have m_r3 := xr.mark 3 _ rfl
                have m_r4 := xr.mark 4 _ rfl
                have l_r := xr.lt (Nat.succ_pos _)
                go_wp2_with fail
                refine name_body (fun W9 hW9 => ?_)
                have xr9 : boxAt W9 w.heap.size [.int .i64 10, .int .i64 0, .int .i64 ((j : Int) + 1), .int .i64 0, .slice none 0 0] := by
                  rw [hW9]; exact (((((xr.put 0 (.int .i64 10) (by simp)).put 1 (.int .i64 0) (by simp)).put 2 (.int .i64 ((j : Int) + 1)) (by simp)).put 3 (.int .i64 0) (by simp)).put 4 (.slice none 0 0) (by simp)).later (Gr.alloc _ _)
                have hg9 : Gr w W9 := by rw [hW9]; exact Gr.trans (put5 hgr (b := w.heap.size) (by omega) _ _ _ _ _) (Gr.alloc _ _)
                clear hW9
                exact bodyPost_ret (v := .tuple #[.slice none 0 0, .agg #[.int .i64 10, .int .i64 0, .int .i64 ((j : Int) + 1), .int .i64 0, .slice none 0 0]]) (by simp [results, Tryd.results17, go_sem, xr9.cell 0 _ rfl, xr9.cell 1 _ rfl, xr9.cell 2 _ rfl, xr9.cell 3 _ rfl, xr9.cell 4 _ rfl]) rfl ⟨_, _, _, rfl, .trail j ⟨e, true, f⟩ HQ.out HMJ2.out HRC.out (cuts_before HM.out HMJ.out), hg9⟩
            · go_wp2_with fail
              go_at_call 32
              refine name_calls (fun W8 hW => ?_)
              obtain ⟨x8, hb1⟩ := bx1c hW
              clear hW
              clear c_h0 c_h1 c_h2 m_h0 m_h1 m_h2 l_h
              replace xr := xr.later hb1
              replace x7 := x7.later hb1
              replace hown := owns_later hown hb1
              replace hgr := hgr.trans hb1
              replace hsz1 : w.heap.size + 1 ≤ W8.heap.size := Nat.le_trans hsz1 hb1.size
              clear hb1
              refine (HO1.out W8).mono ?_; rintro e' w3 ⟨rfl, hb1⟩
              replace xr := xr.later hb1
              replace x7 := x7.later hb1
              replace x8 := x8.later hb1
              replace hown := owns_later hown hb1
              replace hgr := hgr.trans hb1
              replace hsz1 : w.heap.size + 1 ≤ w3.heap.size := Nat.le_trans hsz1 hb1.size
              clear hb1
              cases b4
              · have c_k0 := x8.cell 0 _ rfl
                have c_k1 := x8.cell 1 _ rfl
                have c_k2 := x8.cell 2 _ rfl
                have m_k0 := x8.mark 0 _ rfl
                have m_k1 := x8.mark 1 _ rfl
                have m_k2 := x8.mark 2 _ rfl
                have l_k := x8.lt (Nat.succ_pos _)
                go_wp2_with fail
                clear c_k0 c_k1 c_k2 m_k0 m_k1 m_k2 l_k
                go_at_call 32
                refine (HO2.out w3).mono ?_; rintro e' w4 ⟨rfl, hb1⟩
                replace xr := xr.later hb1
                replace x7 := x7.later hb1
                replace x8 := x8.later hb1
                replace hown := owns_later hown hb1
                replace hgr := hgr.trans hb1
                replace hsz1 : w.heap.size + 1 ≤ w4.heap.size := Nat.le_trans hsz1 hb1.size
                clear hb1
                cases b3
                · skip
                  have HRC := Lib.hid (show cutOf ⟨e, true, f⟩ = none by rw [HRW.out]; first | rfl | simp)
                  have c_r0 := xr.cell 0 _ rfl
                  have c_r1 := xr.cell 1 _ rfl
                  have c_r2 := xr.cell 2 _ rfl
                  have c_r3 := xr.cell 3 _ rfl
                  have c_r4 := xr.cell 4 _ rfl
                  have m_r0 := xr.mark 0 _ rfl
                  have m_r1 := xr.mark 1 _ rfl
                  have m_r2 := xr.mark 2 _ rfl
                  have m_r3 := xr.mark 3 _ rfl
                  have m_r4 := xr.mark 4 _ rfl
                  have l_r := xr.lt (Nat.succ_pos _)
                  go_wp2_with fail
                  exact bodyPost_ret (v := .tuple #[.slice none 0 0, .agg #[.int .i64 10, .int .i64 0, .int .i64 ((j : Int) + 1), .int .i64 0, .slice none 0 0]]) (by simp [results, Tryd.results17, go_sem, c_r0, c_r1, c_r2, c_r3, c_r4]) rfl ⟨_, _, _, rfl, .trail j ⟨e, true, f⟩ HQ.out HMJ2.out HRC.out (cuts_before HM.out HMJ.out), put5 hgr (by omega) _ _ _ _ _⟩
                · have c_k0 := x8.cell 0 _ rfl
                  have c_k1 := x8.cell 1 _ rfl
                  have c_k2 := x8.cell 2 _ rfl
                  have m_k0 := x8.mark 0 _ rfl
                  have m_k1 := x8.mark 1 _ rfl
                  have m_k2 := x8.mark 2 _ rfl
                  have l_k := x8.lt (Nat.succ_pos _)
                  go_wp2_with fail
                  clear c_k0 c_k1 c_k2 m_k0 m_k1 m_k2 l_k
                  go_at_call 32
                  refine (HO2.out w4).mono ?_; rintro e' w5 ⟨rfl, hb1⟩
                  replace xr := xr.later hb1
                  replace x7 := x7.later hb1
                  replace x8 := x8.later hb1
                  replace hown := owns_later hown hb1
                  replace hgr := hgr.trans hb1
                  replace hsz1 : w.heap.size + 1 ≤ w5.heap.size := Nat.le_trans hsz1 hb1.size
                  clear hb1
                  have c_k0 := x8.cell 0 _ rfl
                  have c_k1 := x8.cell 1 _ rfl
                  have c_k2 := x8.cell 2 _ rfl
                  have m_k0 := x8.mark 0 _ rfl
                  have m_k1 := x8.mark 1 _ rfl
                  have m_k2 := x8.mark 2 _ rfl
                  have l_k := x8.lt (Nat.succ_pos _)
                  have hszr := hsz1
                  have HRC := Lib.hid (show cutOf ⟨e, true, f⟩ = some (1, yl) by (rw [HRW.out]; first | rfl | simp))
                  go_wp2_with (at_builtin; refine name_wpList (fun W9 hW9 => ?_); have xk : boxAt W9 w5.heap.size [.int .i64 1, .int .i64 yl] := boxAt.new _ _ hW9; have hgW9 : Gr w5 W9 := (by rw [hW9]; exact Gr.alloc _ _); clear hW9; replace hown := owns_later hown hgW9; refine wpList_append_own _ rfl (.tmp 85) (.tmp 89) 54 rfl (w.heap.size + 1) 64 i0 (.agg #[.int .i64 0, .int .i64 0]) 2 16 Tryd.underlying54 hi hz0 hz1 hz2 rfl (by decide) _ _ _ rfl hown ⟨w5.heap.size, 0, none⟩ 1 1 (cutCells (1, yl)) rfl rfl ?c1 ?c2 ?c3 ?c4 ?c5 ?_)
                  case c1 => exact fun t u h => by rw [addr_add]; exact xk.row t u h
                  case c2 => exact cutCells_ones _
                  case c3 => have := HL200.out; have := HLT.out; unfold maxLen; omega
                  case c4 => have := HL200.out; have := HLT.out; omega
                  case c5 => exact Nat.le_trans hszr hgW9.size
                  intro v6 w6 hown6 hgrow _
                  have hg6 : Gr w w6 := Gr.grown (hgr.trans hgW9) hgrow (fun k hk => Nat.le_of_succ_le (World.ownsRow.lt hown k hk).1)
                  have xr6 := (xr.later hgW9).grown hgrow (by simp) (fun e => by have := (World.ownsRow.lt hown _ e).1; omega)
                  have hown7 : w6.ownsRow (w.heap.size + 1) 64 2 v6 (j + 1) ((M ++ [(1, yl)]).flatMap cutCells) := by
                    rw [List.flatMap_append]; simpa using hown6
                  have hsz6 : w.heap.size + 1 ≤ w6.heap.size := Nat.le_trans hszr (Nat.le_trans hgW9.size hgrow.size)
                  clear hown6 hgrow hown hgr hgW9 xk
                  go_wp2_with fail
                  go_roundw
                  case rel => exact ⟨j + 1, M ++ [(1, yl)], by have := HLT.out; omega, by go_num, Lib.hid (by rw [List.length_append, HMJ.out]; rfl), Lib.hid (cuts_next HM.out HMJ2.out HRC.out), hown7, hg6, xr6, hsz6⟩
                  case measure => have := HLT.out; simp [intOf]; omega
              · have c_k0 := x8.cell 0 _ rfl
                have c_k1 := x8.cell 1 _ rfl
                have c_k2 := x8.cell 2 _ rfl
                have m_k0 := x8.mark 0 _ rfl
                have m_k1 := x8.mark 1 _ rfl
                have m_k2 := x8.mark 2 _ rfl
                have l_k := x8.lt (Nat.succ_pos _)
                go_wp2_with fail
                clear c_k0 c_k1 c_k2 m_k0 m_k1 m_k2 l_k
                go_at_call 32
                refine (HO2.out w3).mono ?_; rintro e' w4 ⟨rfl, hb1⟩
                replace xr := xr.later hb1
                replace x7 := x7.later hb1
                replace x8 := x8.later hb1
                replace hown := owns_later hown hb1
                replace hgr := hgr.trans hb1
                replace hsz1 : w.heap.size + 1 ≤ w4.heap.size := Nat.le_trans hsz1 hb1.size
                clear hb1
                cases b3
                · have c_h0 := x7.cell 0 _ rfl
                  have c_h1 := x7.cell 1 _ rfl
                  have c_h2 := x7.cell 2 _ rfl
                  have m_h0 := x7.mark 0 _ rfl
                  have m_h1 := x7.mark 1 _ rfl
                  have m_h2 := x7.mark 2 _ rfl
                  have l_h := x7.lt (Nat.succ_pos _)
                  have hszr := hsz1
                  have HRC := Lib.hid (show cutOf ⟨e, true, f⟩ = some (2, 1) by (rw [HRW.out]; first | rfl | simp))
                  go_wp2_with (at_builtin; refine name_wpList (fun W9 hW9 => ?_); have xk : boxAt W9 w4.heap.size [.int .i64 2, .int .i64 1] := boxAt.new _ _ hW9; have hgW9 : Gr w4 W9 := (by rw [hW9]; exact Gr.alloc _ _); clear hW9; replace hown := owns_later hown hgW9; refine wpList_append_own _ rfl (.tmp 94) (.tmp 96) 54 rfl (w.heap.size + 1) 64 i0 (.agg #[.int .i64 0, .int .i64 0]) 2 16 Tryd.underlying54 hi hz0 hz1 hz2 rfl (by decide) _ _ _ rfl hown ⟨w4.heap.size, 0, none⟩ 1 1 (cutCells (2, 1)) rfl rfl ?c1 ?c2 ?c3 ?c4 ?c5 ?_)
                  case c1 => exact fun t u h => by rw [addr_add]; exact xk.row t u h
                  case c2 => exact cutCells_ones _
                  case c3 => have := HL200.out; have := HLT.out; unfold maxLen; omega
                  case c4 => have := HL200.out; have := HLT.out; omega
                  case c5 => exact Nat.le_trans hszr hgW9.size
                  intro v6 w6 hown6 hgrow _
                  have hg6 : Gr w w6 := Gr.grown (hgr.trans hgW9) hgrow (fun k hk => Nat.le_of_succ_le (World.ownsRow.lt hown k hk).1)
                  have xr6 := (xr.later hgW9).grown hgrow (by simp) (fun e => by have := (World.ownsRow.lt hown _ e).1; omega)
                  have hown7 : w6.ownsRow (w.heap.size + 1) 64 2 v6 (j + 1) ((M ++ [(2, 1)]).flatMap cutCells) := by
                    rw [List.flatMap_append]; simpa using hown6
                  have hsz6 : w.heap.size + 1 ≤ w6.heap.size := Nat.le_trans hszr (Nat.le_trans hgW9.size hgrow.size)
                  clear hown6 hgrow hown hgr hgW9 xk
                  go_wp2_with fail
                  go_roundw
                  case rel => exact ⟨j + 1, M ++ [(2, 1)], by have := HLT.out; omega, by go_num, Lib.hid (by rw [List.length_append, HMJ.out]; rfl), Lib.hid (cuts_next HM.out HMJ2.out HRC.out), hown7, hg6, xr6, hsz6⟩
                  case measure => have := HLT.out; simp [intOf]; omega
                · have c_k0 := x8.cell 0 _ rfl
                  have c_k1 := x8.cell 1 _ rfl
                  have c_k2 := x8.cell 2 _ rfl
                  have m_k0 := x8.mark 0 _ rfl
                  have m_k1 := x8.mark 1 _ rfl
                  have m_k2 := x8.mark 2 _ rfl
                  have l_k := x8.lt (Nat.succ_pos _)
                  have hszr := hsz1
                  have HRC := Lib.hid (show cutOf ⟨e, true, f⟩ = some (1, yl) by (rw [HRW.out]; first | rfl | simp))
                  go_wp2_with (at_builtin; refine name_wpList (fun W9 hW9 => ?_); have xk : boxAt W9 w4.heap.size [.int .i64 1, .int .i64 yl] := boxAt.new _ _ hW9; have hgW9 : Gr w4 W9 := (by rw [hW9]; exact Gr.alloc _ _); clear hW9; replace hown := owns_later hown hgW9; refine wpList_append_own _ rfl (.tmp 85) (.tmp 89) 54 rfl (w.heap.size + 1) 64 i0 (.agg #[.int .i64 0, .int .i64 0]) 2 16 Tryd.underlying54 hi hz0 hz1 hz2 rfl (by decide) _ _ _ rfl hown ⟨w4.heap.size, 0, none⟩ 1 1 (cutCells (1, yl)) rfl rfl ?c1 ?c2 ?c3 ?c4 ?c5 ?_)
                  case c1 => exact fun t u h => by rw [addr_add]; exact xk.row t u h
                  case c2 => exact cutCells_ones _
                  case c3 => have := HL200.out; have := HLT.out; unfold maxLen; omega
                  case c4 => have := HL200.out; have := HLT.out; omega
                  case c5 => exact Nat.le_trans hszr hgW9.size
                  intro v6 w6 hown6 hgrow _
                  have hg6 : Gr w w6 := Gr.grown (hgr.trans hgW9) hgrow (fun k hk => Nat.le_of_succ_le (World.ownsRow.lt hown k hk).1)
                  have xr6 := (xr.later hgW9).grown hgrow (by simp) (fun e => by have := (World.ownsRow.lt hown _ e).1; omega)
                  have hown7 : w6.ownsRow (w.heap.size + 1) 64 2 v6 (j + 1) ((M ++ [(1, yl)]).flatMap cutCells) := by
                    rw [List.flatMap_append]; simpa using hown6
                  have hsz6 : w.heap.size + 1 ≤ w6.heap.size := Nat.le_trans hszr (Nat.le_trans hgW9.size hgrow.size)
                  clear hown6 hgrow hown hgr hgW9 xk
                  go_wp2_with fail
                  go_roundw
                  case rel => exact ⟨j + 1, M ++ [(1, yl)], by have := HLT.out; omega, by go_num, Lib.hid (by rw [List.length_append, HMJ.out]; rfl), Lib.hid (cuts_next HM.out HMJ2.out HRC.out), hown7, hg6, xr6, hsz6⟩
                  case measure => have := HLT.out; simp [intOf]; omega
        · have hjE : j = l.length := by omega
          clear hlt hj
          subst hjE
          obtain ⟨pw, cw, rfl⟩ := (Sl.of_owns hown).len
          have c_r0 := xr.cell 0 _ rfl
          have c_r1 := xr.cell 1 _ rfl
          have c_r2 := xr.cell 2 _ rfl
          have c_r3 := xr.cell 3 _ rfl
          have c_r4 := xr.cell 4 _ rfl
          have m_r0 := xr.mark 0 _ rfl
          have m_r1 := xr.mark 1 _ rfl
          have m_r2 := xr.mark 2 _ rfl
          have m_r3 := xr.mark 3 _ rfl
          have m_r4 := xr.mark 4 _ rfl
          have l_r := xr.lt (Nat.succ_pos _)
          have HSL := Lib.hid (show Sl wr (.slice pw l.length cw) 2 M.length (M.flatMap cutCells) by rw [HMJ.out]; exact Sl.of_owns hown)
          have HOB := Lib.hid (fun a n c (e : Value.slice pw l.length cw = .slice (some a) n c) => (World.ownsRow.lt hown a.block (by rw [e]; rfl)).1)
          clear hown
          go_wp2_with fail
          exact bodyPost_ret (v := .tuple #[.slice pw l.length cw, .agg #[.int .i64 0, .int .i64 0, .int .i64 0, .int .i64 0, .slice none 0 0]]) (by simp [results, Tryd.results17, go_sem, c_r0, c_r1, c_r2, c_r3, c_r4]) rfl ⟨_, _, _, rfl, .cuts M _ HQ.out (by rw [← HM.out, ← HLN.out, List.take_length]) (HSL.out.keep (fun a n c e => put5_block _ _ _ _ _ _ _ _ (by have := HOB.out a n c e; omega))), put5 hgr (by omega) _ _ _ _ _⟩

end Go.Proofs.YtpcmgkohebihmaaDoor
