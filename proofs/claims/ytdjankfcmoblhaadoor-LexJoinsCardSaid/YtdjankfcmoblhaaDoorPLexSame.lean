/- LexSame of bolterlaw4 answers true. No condition but the errors' variables. -/
import Derived.Test.YtdjankfcmoblhaaDoorPLexErr
namespace Go.Proofs.YtdjankfcmoblhaaDoor
open Go Go.RowKit

def aheadP : List UInt8 := [32, 9, 35, 32, 120]
theorem same_lex (t : List UInt8) : lexF (aheadP ++ [10] ++ t) 0 = (lfTok 5 :: (lexF t 0).1.map (shift 6), (lexF t 0).2.map (fun x => (x.1, x.2 + 6))) := by
  rw [show aheadP ++ [10] ++ t = aheadP ++ (10 :: t) by simp, gap_lex aheadP (10 :: t) 0 (by decide) (.inr ⟨t, rfl⟩), lexF_lf]
  have := lex_shift t 0 6
  rw [Nat.zero_add] at this
  rw [show 0 + aheadP.length + 1 = 6 from rfl, this]
  rfl
theorem lfC (a : Nat) : tokC (lfTok a) = [.int .i64 6, .int .i64 a, .int .i64 ((a + 1 : Nat) : Int), .string { data := #[] }, .int .i64 0, .int .u64 0, .int .u64 0, .int .u64 0, .int .u64 0] := by
  show lxC 6 a ((a + 1 : Nat) : Int) (st []) ((0 : Nat) : Int) emptyS = _
  unfold lxC; simp only [wd_zero]; rfl

theorem oneP_bad_le {l : List UInt8} {d : Bool} {k : Nat} (h : oneP l = .bad d k) : k ≤ l.length := by
  match l with
  | [] => cases h
  | c :: l =>
    rcases byte_cases c with hc | rfl | rfl | hc | hc | rfl | rfl | rfl | hc
    · rw [oneP_blank _ hc] at h; cases h
    · rw [oneP_cons, if_neg (by decide), if_pos rfl] at h; cases h
    · cases h
    · rw [oneP_let l hc] at h; split at h
      · injection h with _ h; omega
      · cases h
    · rw [oneP_dig l hc] at h; cases h
    · rw [oneP_text] at h; unfold textP at h; split at h
      · cases h
      · injection h with _ h; omega
    · rw [oneP_set] at h; unfold setP at h; split at h
      · cases h
      · injection h with _ h; omega
    · cases h
    · rw [oneP_mark l hc] at h; split at h
      · injection h with _ h; omega
      · cases h
theorem lexF_place (l : List UInt8) (a : Nat) : ∀ d k, (lexF l a).2 = some (d, k) → k ≤ a + l.length := by
  refine lex_cases (M := fun l a _ e => ∀ d k, e = some (d, k) → k ≤ a + l.length) ?_ ?_ ?_ ?_ ?_ l a
  · intro a d k h; cases h
  · intro c y a L e _ _ h d k he; have := h d k he; rw [List.length_cons]; omega
  · intro p y a L e _ _ _ h d k he; have := h d k he; simp; omega
  · intro p y kd tx n s a L e _ _ _ h d k he; have := h d k he; simp; omega
  · intro l a d k h d' k' he
    injection he with he; injection he with h1 h2
    have := oneP_bad_le h; omega

set_option maxRecDepth 100000 in
set_option maxHeartbeats 8000000 in
theorem lexSame_any (t : List UInt8) (s : Nat → Addr) (w : World) (hT : (t.length : Int) ≤ 9223372036854775807) (hF : FaultsIn w s) (hm : ∃ m, w.cell? ⟨17, 0, none⟩ = some (.int .i64 m)) : Calls Tryd.prog 6 #[.string (st t)] w fun e w' => e = .returned (.bool true) ∧ Gr w w' := by
  have hsz := st_size t
  have HS := Lib.hid (hF.sy0 hm)
  have HF := Lib.hid hF
  clear hF hm
  by_cases hlong : (t.length : Int) > 6000
  · have h1 : 6000 < t.length := by omega
    go_enter Tryd.func6, Tryd.ntmps6
    go_wp2_with (go_at_call 8; (with_reducible refine (wakes4_any _ _ _ HS.out).mono ?_); rintro e w1 ⟨rfl, hg⟩)
    go_ret
    exact ⟨rfl, hg⟩
  · have h1 : ¬ 6000 < t.length := by omega
    have hle : t.length ≤ 6000 := by omega
    have HL := Lib.hid (lex_any t _ _ w (by omega) HS.out)
    have HLen := Lib.hid (lexF_len t 0)
    have HT2 := Lib.hid (fun (W : World) (hW : Gr w W) => same_lex t ▸ lex_any (aheadP ++ [10] ++ t) _ _ W (by simp [aheadP]; omega) (HS.out.later hW))
    have HEnd := Lib.hid (lexF_place t 0)
    have HGood := Lib.hid (cov_good t _ t 0 _ (cov_lex t 0) rfl (Nat.zero_le _))
    have cc1 := fun w' => run_cat (P := Tryd.prog) w' aheadP [10] (by simp [aheadP])
    have cc2 := fun w' => run_cat (P := Tryd.prog) w' (aheadP ++ [10]) t (by simp [aheadP]; omega)
    obtain ⟨T2, hT2⟩ : ∃ x, aheadP ++ [10] ++ t = x := ⟨_, rfl⟩
    obtain ⟨X, hX⟩ : ∃ X, lexF t 0 = X := ⟨_, rfl⟩
    rw [hX] at HL HLen HEnd HGood
    rw [hT2, hX] at HT2
    rw [hT2] at cc2
    have ea : st aheadP = { data := #[32, 9, 35, 32, 120] } := rfl
    have e10 : st [10] = { data := #[10] } := rfl
    have ea6 : st (aheadP ++ [10]) = { data := #[32, 9, 35, 32, 120, 10] } := rfl
    rw [ea, e10, ea6] at cc1
    rw [ea6] at cc2
    clear hX hT2 hlong hT ea e10 ea6
    obtain ⟨L, er⟩ := X
    simp only at HT2 HLen HEnd HGood
    go_enter Tryd.func6, Tryd.ntmps6
    go_wp2_with fail
    go_at_call 9
    refine HL.out.mono ?_
    rintro e w1 hans
    obtain ⟨hg1, p0, cap, err, rfl, hown, herr⟩ := hans.parts
    simp only at hown herr
    have HOWN := Lib.hid hown
    have HERR := Lib.hid herr
    clear hans hown herr HL
    go_wp2_with fail
    go_at_call 9
    refine (HT2.out _ hg1).mono ?_
    rintro e w2 hans
    obtain ⟨hg2, p2, cap2, err2, rfl, hown2, herr2⟩ := hans.parts
    simp only at hown2 herr2
    have HOWN2 := Lib.hid hown2
    have HERR2 := Lib.hid herr2
    have hg12 := hg1.trans hg2
    clear hans hown2 herr2 HT2
    have hLl : L.length ≤ 6000 := by have := HLen.out; omega
    have hlen2 : (lfTok 5 :: List.map (shift 6) L).length = L.length + 1 := by simp
    obtain ⟨c, hc⟩ : ∃ c, codeO er = c := ⟨_, rfl⟩
    obtain ⟨pl, hpl⟩ : ∃ c, placeO er = c := ⟨_, rfl⟩
    obtain ⟨pl2, hpl2⟩ : ∃ c, placeO (er.map (fun x => (x.1, x.2 + 6))) = c := ⟨_, rfl⟩
    have hc2 : codeO (er.map (fun x => (x.1, x.2 + 6))) = c := by rw [← hc]; cases er <;> rfl
    have hcase : c = 0 ∨ (1 ≤ c ∧ pl2 = pl + 6 ∧ pl ≤ 6000) := by
      cases er with
      | none => exact .inl hc.symm
      | some dk =>
        obtain ⟨d, k⟩ := dk
        refine .inr ⟨by rw [← hc]; have := (codeB_is d).1; show 1 ≤ codeB d; omega, by rw [← hpl2, ← hpl]; rfl, ?_⟩
        have := HEnd.out d k rfl
        rw [← hpl]; show k ≤ 6000; omega
    have HT1 := Lib.hid (tell_lex (HF.out.later hg12) er err (HERR.out.later hg2))
    have HT2 := Lib.hid (fun (W : World) (hW : Gr w2 W) => tell_lex (HF.out.later (hg12.trans hW)) _ err2 (HERR2.out.later hW))
    rw [hc, hpl] at HT1
    rw [hc2, hpl2] at HT2
    rw [hlen2] at HOWN2
    obtain ⟨b2, capb, hv2, _, hb2, _⟩ := owns_block HOWN2.out (Nat.succ_pos _)
    injection hv2 with hp2 _ _
    subst hp2
    have hrow := (lex_row HOWN.out)
    obtain ⟨_, _, hv0, hrow⟩ := hrow
    injection hv0 with hp0 _ hc0
    subst hp0
    have HROW := Lib.hid hrow
    have HROW2 := Lib.hid (fun (i : Nat) (x : Tok) (hx : (lfTok 5 :: List.map (shift 6) L)[i]? = some x) (j : Nat) (u : Value) (hj : (tokC x)[j]? = some u) => owns_cell HOWN2.out (i * 9 + j) u (by
      rw [flatMap_get tokC 9 tokC_len _ i j x hx (by rcases Nat.lt_or_ge j 9 with h | h; · exact h
                                                     rw [List.getElem?_eq_none (by rw [tokC_len]; exact h)] at hj; cases hj)]; exact hj))
    rw [hlen2]
    clear hc hpl hpl2 hc2 hrow hc0 hlen2
    go_wp2_with fail
    go_at_call 12
    refine HT1.out.mono ?_; rintro e w3 ⟨rfl, hg3⟩
    go_wp2_with fail
    go_at_call 12
    refine name_calls (fun W4 hW => ?_)
    have xf : boxAt W4 w3.heap.size [.int .i64 (c : Int), .int .i64 0, .int .i64 0, .int .i64 (pl : Int), .slice none 0 0] := boxAt.new _ _ hW
    have hg4 : Gr w2 W4 := hg3.trans (Gr.of_alloc hW)
    clear hW
    refine (HT2.out W4 hg4).mono ?_; rintro e w5 ⟨rfl, hg5⟩
    replace xf := xf.later hg5
    have hg25 := hg4.trans hg5
    have hl0 := HROW2.out 0 _ rfl
    rw [lfC] at hl0
    have g0 := hg25.cell (hl0 0 _ rfl)
    have g1 := hg25.cell (hl0 1 _ rfl)
    have g2 := hg25.cell (hl0 2 _ rfl)
    have g3 := hg25.cell (hl0 3 _ rfl)
    have g4 := hg25.cell (hl0 4 _ rfl)
    have g5 := hg25.cell (hl0 5 _ rfl)
    have g6 := hg25.cell (hl0 6 _ rfl)
    have g7 := hg25.cell (hl0 7 _ rfl)
    have g8 := hg25.cell (hl0 8 _ rfl)
    simp only [Nat.zero_mul, Nat.zero_add, Nat.add_zero] at g0 g1 g2 g3 g4 g5 g6 g7 g8
    have hb2z : b2 < w5.heap.size := Nat.lt_of_lt_of_le hb2 hg25.size
    have hwl : IntKind.i64.wrap ((L.length : Int) + 1) = (L.length : Int) + 1 := IntWalk.i64_in _ (by omega)
    clear hl0
    have hgW := hg12.trans hg25
    have hcode : c = 0 ∨ (((c : Int) == 0) = false ∧ ((c : Int) != 0) = true ∧ IntKind.i64.wrap ((pl : Int) + 6) = (pl2 : Int)) := by
      rcases hcase with h | ⟨h1, h2, h3⟩
      · exact .inl h
      · refine .inr ⟨by rw [beq_eq_false_iff_ne]; omega, by rw [bne_iff_ne]; omega, ?_⟩
        rw [IntWalk.i64_in _ (by omega)]; omega
    clear hcase
    rcases hcode with rfl | ⟨h1c, h2c, h3c⟩
    all_goals
      have c_f0 := xf.cell 0 _ rfl
      have c_f1 := xf.cell 1 _ rfl
      have c_f2 := xf.cell 2 _ rfl
      have c_f3 := xf.cell 3 _ rfl
      have c_f4 := xf.cell 4 _ rfl
      have m_f0 := xf.mark 0 _ rfl
      have m_f1 := xf.mark 1 _ rfl
      have m_f2 := xf.mark 2 _ rfl
      have m_f3 := xf.mark 3 _ rfl
      have m_f4 := xf.mark 4 _ rfl
      have l_f := xf.lt (Nat.succ_pos _)
      go_wp2_with fail
      refine name_loop (fun WL hWL => ?_)
      have hgL : Gr w5 WL := Gr.of_alloc hWL
      clear hWL
      clear c_f0 c_f1 c_f2 c_f3 c_f4 m_f0 m_f1 m_f2 m_f3 m_f4 l_f
      clear g0 g1 g2 g3 g4 g5 g6 g7 g8
      go_loopw [11] (fun iv wz => ∃ (i : Nat), iv = .int .i64 (i : Int) ∧ i ≤ L.length ∧ Gr WL wz) (fun iv _ => L.length - (intOf iv).toNat)
      case atStart => exact ⟨0, rfl, Nat.zero_le _, Gr.refl _⟩
      case round =>
        obtain ⟨i, rfl, hi, hz⟩ := hrel
        have hgw := hgW.trans (hgL.trans hz)
        cases hx : L[i]? with
        | none =>
          have hil : i = L.length := by
            rcases Nat.lt_or_ge i L.length with h | h
            · rw [List.getElem?_eq_getElem h] at hx; cases hx
            · omega
          subst hil
          clear hx hi
          go_wp2_with (go_at_call 8; (with_reducible refine (wakes4_any _ _ _ (HS.out.later hgw)).mono ?_); rintro e w8 ⟨rfl, hg8⟩)
          go_ret
          exact ⟨rfl, hgw.trans hg8⟩
        | some x =>
          obtain ⟨b, rfl, hb, hcell⟩ := HROW.out i x hx
          have hcell2 := HROW2.out (i + 1) (shift 6 x) (by rw [List.getElem?_cons_succ, List.getElem?_map, hx]; rfl)
          have hgx := (HGood.out x (List.mem_of_getElem? hx)).1
          have hil : i < L.length := (List.getElem?_eq_some_iff.1 hx).1
          have hgx1 := (hg2.trans (hg25.trans (hgL.trans hz)))
          have hgx2 := hg25.trans (hgL.trans hz)
          have hbz : b < wr.heap.size := Nat.lt_of_lt_of_le hb hgx1.size
          have hb2y : b2 < wr.heap.size := Nat.lt_of_lt_of_le hb2 hgx2.size
          have hk0 := hgx1.cell (hcell 0 _ rfl)
          have hk1 := hgx1.cell (hcell 1 _ rfl)
          have hk2 := hgx1.cell (hcell 2 _ rfl)
          have hk3 := hgx1.cell (hcell 3 _ rfl)
          have hk4 := hgx1.cell (hcell 4 _ rfl)
          have hk5 := hgx1.cell (hcell 5 _ rfl)
          have hk6 := hgx1.cell (hcell 6 _ rfl)
          have hk7 := hgx1.cell (hcell 7 _ rfl)
          have hk8 := hgx1.cell (hcell 8 _ rfl)
          have hj0 := hgx2.cell (hcell2 0 _ rfl)
          have hj1 := hgx2.cell (hcell2 1 _ rfl)
          have hj2 := hgx2.cell (hcell2 2 _ rfl)
          have hj3 := hgx2.cell (hcell2 3 _ rfl)
          have hj4 := hgx2.cell (hcell2 4 _ rfl)
          have hj5 := hgx2.cell (hcell2 5 _ rfl)
          have hj6 := hgx2.cell (hcell2 6 _ rfl)
          have hj7 := hgx2.cell (hcell2 7 _ rfl)
          have hj8 := hgx2.cell (hcell2 8 _ rfl)
          rw [Nat.add_zero] at hk0 hj0
          have hx1 := hgx.lt
          have hx2 := hgx.le
          have hA : IntKind.i64.wrap ((x.at' : Int) + 6) = ((shift 6 x).at' : Int) := by
            show _ = ((x.at' + 6 : Nat) : Int)
            rw [IntWalk.i64_in _ (by omega)]; omega
          have hE : IntKind.i64.wrap ((x.fin : Int) + 6) = ((shift 6 x).fin : Int) := by
            show _ = ((x.fin + 6 : Nat) : Int)
            rw [IntWalk.i64_in _ (by omega)]; omega
          have e0 : (shift 6 x).kd = x.kd := rfl
          have e3 : (shift 6 x).tx = x.tx := rfl
          have e4 : (shift 6 x).n = x.n := rfl
          have e5 : (shift 6 x).s = x.s := rfl
          rw [e0] at hj0
          rw [e3] at hj3
          rw [e4] at hj4
          rw [e5] at hj5 hj6 hj7 hj8
          obtain ⟨A6, hA6⟩ : ∃ A, (shift 6 x).at' = A := ⟨_, rfl⟩
          obtain ⟨E6, hE6⟩ : ∃ A, (shift 6 x).fin = A := ⟨_, rfl⟩
          rw [hA6] at hA hj1
          rw [hE6] at hE hj2
          have hiI : (i : Int) < (L.length : Int) := by omega
          have hiw : IntKind.i64.wrap ((i : Int) + 1) = ((i + 1 : Nat) : Int) := by rw [IntWalk.i64_in _ (by omega)]; omega
          have hi1I : ((i + 1 : Nat) : Int) < ((L.length + 1 : Nat) : Int) := by omega
          have hi1N : i + 1 < L.length + 1 := by omega
          obtain ⟨i1, hi1⟩ : ∃ x, i + 1 = x := ⟨_, rfl⟩
          rw [hi1] at hiw hi1I hi1N hj0 hj1 hj2 hj3 hj4 hj5 hj6 hj7 hj8
          have hi1K : (i1 : Int) ≤ (L.length : Int) := by omega
          have hi1J : (i1 : Int) < (L.length : Int) + 1 := by omega
          have hi1M : i1 ≤ L.length := by omega
          have HLT := Lib.hid (show i < L.length ∧ i + 1 = i1 from ⟨hil, hi1⟩)
          have HZ := Lib.hid hz
          have HGX := Lib.hid hgx2
          clear hx hcell hcell2 hgx hil hgx1 hgx2 hx1 hx2 e0 e3 e4 e5 hA6 hE6 hi hz hgw hi1
          go_wp2_with fail
          refine name_loop (fun WX hWX => ?_)
          have xx : boxAt WX wr.heap.size [.int .i64 x.kd, .int .i64 A6, .int .i64 E6, .string (st x.tx), .int .i64 x.n, .int .u64 (wd x.s 0), .int .u64 (wd x.s 1), .int .u64 (wd x.s 2), .int .u64 (wd x.s 3)] := boxAt.new _ _ hWX
          have hgX : Gr wr WX := Gr.of_alloc hWX
          clear hWX
          replace hj0 := hgX.cell hj0
          replace hj1 := hgX.cell hj1
          replace hj2 := hgX.cell hj2
          replace hj3 := hgX.cell hj3
          replace hj4 := hgX.cell hj4
          replace hj5 := hgX.cell hj5
          replace hj6 := hgX.cell hj6
          replace hj7 := hgX.cell hj7
          replace hj8 := hgX.cell hj8
          replace hb2y : b2 < WX.heap.size := Nat.lt_of_lt_of_le hb2y hgX.size
          have c_x0 := xx.cell 0 _ rfl
          have c_x1 := xx.cell 1 _ rfl
          have c_x2 := xx.cell 2 _ rfl
          have c_x3 := xx.cell 3 _ rfl
          have c_x4 := xx.cell 4 _ rfl
          have c_x5 := xx.cell 5 _ rfl
          have c_x6 := xx.cell 6 _ rfl
          have c_x7 := xx.cell 7 _ rfl
          have c_x8 := xx.cell 8 _ rfl
          have m_x0 := xx.mark 0 _ rfl
          have m_x1 := xx.mark 1 _ rfl
          have m_x2 := xx.mark 2 _ rfl
          have m_x3 := xx.mark 3 _ rfl
          have m_x4 := xx.mark 4 _ rfl
          have m_x5 := xx.mark 5 _ rfl
          have m_x6 := xx.mark 6 _ rfl
          have m_x7 := xx.mark 7 _ rfl
          have m_x8 := xx.mark 8 _ rfl
          have l_x := xx.lt (Nat.succ_pos _)
          clear hk0 hk1 hk2 hk3 hk4 hk5 hk6 hk7 hk8
          refine wp_region_G (.take 0 (.take 1 (.take 2 (.take 3 (.take 4 (.take 5 (.take 6 .nil))))))) (by kernel_rfl) (by kernel_rfl) ?_
          simp only [pickOps, nthOp]
          intro wq hG
          repeat (first | (refine wpG_skip_take ?_ ?_; (focus rfl); try simp only [Act.put, List.setIfInBounds_toArray, List.set_cons_zero, List.set_cons_succ]) | (refine wpG_skip_run ?_ ?_; (focus rfl); try simp only [Act.put, List.setIfInBounds_toArray, List.set_cons_zero, List.set_cons_succ]) | (refine wpG_take ?_ ?_; (focus rfl); apply Exists.intro; refine ⟨fun w' hw' => ?_, ?_⟩; (focus (have hc := Gr.cells hw'; go_simp; (try rfl); done)); try simp only [Act.put, List.setIfInBounds_toArray, List.set_cons_zero, List.set_cons_succ]))
          refine wpG_done ?_
          go_wp2_with fail
          go_roundw
          case rel => exact ⟨i1, rfl, by have := HLT.out; omega, (HZ.out.trans hgX).trans hG⟩
          case measure => have := HLT.out; simp [intOf]; omega

end Go.Proofs.YtdjankfcmoblhaaDoor
