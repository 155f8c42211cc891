/- LexBlanks of bolterlaw4 answers true. No condition but the errors' variables. -/
import Derived.Test.YtdjankfcmoblhaaDoorPLexCovers
namespace Go.Proofs.YtdjankfcmoblhaaDoor
open Go Go.RowKit

theorem spell_app (t : List UInt8) : ∀ (A B : List Tok) (i : Nat), spell t (A ++ B) i = spell t A i ++ spell t B (i + A.length)
  | [], B, i => by simp [spell]
  | x :: A, B, i => by
    show spellOne t x i ++ spell t (A ++ B) (i + 1) = (spellOne t x i ++ spell t A (i + 1)) ++ _
    rw [spell_app t A B (i + 1), List.append_assoc, List.length_cons, show i + (A.length + 1) = i + 1 + A.length by omega]
theorem spell_snoc (t : List UInt8) (A : List Tok) (x : Tok) : spell t (A ++ [x]) 0 = spell t A 0 ++ ((if x.kd = 6 then remarkP else []) ++ sl t x ++ betweenP A.length) := by
  rw [spell_app, Nat.zero_add]
  show _ ++ (spellOne t x _ ++ []) = _
  rw [List.append_nil]; rfl
theorem between_len (i : Nat) : (betweenP i).length ≤ 3 := by unfold betweenP; split; · decide
                                                              split; · decide
                                                              split <;> decide
theorem spell_len (t : List UInt8) : ∀ (L : List Tok) (l : List UInt8) (a : Nat) (e : Option (Bool × Nat)), Cov l a L e → ∀ i, l = t.drop a → (spell t L i).length ≤ 14 * L.length + l.length
  | [], l, a, e, _, i, _ => by simp [spell]
  | x :: L, l, a, e, h, i, hl => by
    obtain ⟨g, p, y, h0, h1, h2, _, _, h5, _, h7⟩ := h
    have hdrop : t.drop x.at' = p ++ y := by rw [h1, ← List.drop_drop, ← hl, h0, List.drop_left]
    have hsl : sl t x = p := by unfold sl; rw [hdrop, h2, h1, show a + g.length + p.length - (a + g.length) = p.length by omega, List.take_left]
    have := spell_len t L y x.fin e h7 (i + 1) (by rw [show x.fin = x.at' + p.length by omega, ← List.drop_drop, hdrop, List.drop_left])
    show (spellOne t x i ++ spell t L (i + 1)).length ≤ _
    unfold spellOne
    rw [hsl, h0]
    simp only [List.length_append, List.length_cons]
    have hb := between_len i
    have hr : (if x.kd = 6 then remarkP else []).length ≤ 11 := by split <;> decide
    omega
theorem spell_take (t : List UInt8) (L : List Tok) (i : Nat) : (spell t (L.take i) 0).length ≤ (spell t L 0).length := by
  rw [show spell t L 0 = spell t (L.take i ++ L.drop i) 0 by rw [List.take_append_drop], spell_app, List.length_append]; omega
theorem between_at (i : Nat) : [Value.string (st [32]), .string (st [9, 32]), .string (st [32, 13, 32]), .string (st [32, 32])][i % 4]? = some (.string (st (betweenP i))) := by
  have h : i % 4 < 4 := Nat.mod_lt _ (by omega)
  unfold betweenP
  rcases (show i % 4 = 0 ∨ i % 4 = 1 ∨ i % 4 = 2 ∨ i % 4 = 3 by omega) with h | h | h | h <;> simp [h]
theorem dat_at {M L : List Tok} (h : M.map dat = L.map dat) (i : Nat) (x : Tok) (hx : L[i]? = some x) : ∃ y, M[i]? = some y ∧ y.fin - y.at' = x.fin - x.at' ∧ y.kd = x.kd ∧ y.tx = x.tx ∧ y.n = x.n ∧ y.s = x.s := by
  have h1 : (M.map dat)[i]? = (L.map dat)[i]? := by rw [h]
  rw [List.getElem?_map, List.getElem?_map, hx] at h1
  cases hy : M[i]? with
  | none => rw [hy] at h1; cases h1
  | some y =>
    rw [hy] at h1
    simp only [Option.map_some, Option.some.injEq, dat, Prod.mk.injEq] at h1
    exact ⟨y, rfl, h1.1, h1.2.1, h1.2.2.1, h1.2.2.2.1, h1.2.2.2.2⟩

theorem name_loop {P : Program} {c : Code} {Q : Exit → Act → World → Prop} {a : Act} {w0 : World} (h : ∀ W, W = w0 → c.wp P Q a W) : c.wp P Q a w0 := h _ rfl
set_option maxRecDepth 100000 in
set_option maxHeartbeats 8000000 in
theorem lexBlanks_any (t : List UInt8) (es ed : Value) (w : World) (hT : (t.length : Int) ≤ 9223372036854775807) (hS : Sy0 w es ed) : Calls Tryd.prog 4 #[.string (st t)] w fun e w' => e = .returned (.bool true) ∧ Gr w w' := by
  have hsz := st_size t
  have HS := Lib.hid hS
  clear hS
  by_cases hlong : (t.length : Int) > 1500
  · have h1 : 1500 < t.length := by omega
    go_enter Tryd.func4, Tryd.ntmps4
    go_wp2_with (go_at_call 8; (with_reducible refine (wakes4_any es ed _ HS.out).mono ?_); rintro e w1 ⟨rfl, hg⟩)
    go_ret
    exact ⟨rfl, hg⟩
  · have h1 : ¬ 1500 < t.length := by omega
    have hle : t.length ≤ 1500 := by omega
    have HL := Lib.hid (lex_any t es ed w (by omega) HS.out)
    have HGood := Lib.hid (cov_good t _ t 0 _ (cov_lex t 0) rfl (Nat.zero_le _))
    have HBl := Lib.hid (blanks_lex t)
    have HSp := Lib.hid (spell_len t _ t 0 _ (cov_lex t 0) 0 rfl)
    have HLen := Lib.hid (lexF_len t 0)
    obtain ⟨X, hX⟩ : ∃ X, lexF t 0 = X := ⟨_, rfl⟩
    rw [hX] at HL HGood HBl HSp HLen
    clear hX hlong hT
    go_enter Tryd.func4, Tryd.ntmps4
    go_wp2_with fail
    go_at_call 9
    refine HL.out.mono ?_
    rintro e w1 ⟨hg, v, hown, hend⟩
    obtain ⟨L, er⟩ := X
    obtain ⟨p0, cap, rfl, hrow⟩ := lex_row hown
    obtain ⟨err, rfl⟩ : ∃ err, e = .returned (.tuple #[.slice p0 L.length cap, err]) := by
      cases er with
      | none => exact ⟨_, hend⟩
      | some dk => obtain ⟨er, he, _⟩ := hend; exact ⟨_, he⟩
    clear hend
    simp only at hown hrow HGood HBl HSp HLen
    have HROW := Lib.hid hrow
    have hLl : L.length ≤ 1500 := by have := HLen.out; omega
    have HLL : ∀ i, (13 :: spell t (L.take i) 0).length ≤ 30000 := fun i => by
      have := HSp.out; have := spell_take t L i; rw [List.length_cons]; omega
    have HLL := Lib.hid HLL
    clear hown hrow HL
    go_wp2_with fail
    refine name_loop (fun wB hB => ?_)
    have xb0 : boxAt wB w1.heap.size [Value.string (st [32]), .string (st [9, 32]), .string (st [32, 13, 32]), .string (st [32, 32])] := boxAt.new _ _ hB
    have hgB : Gr w wB := hg.trans (by rw [hB]; exact Gr.alloc _ _)
    have hg1B : Gr w1 wB := by rw [hB]; exact Gr.alloc _ _
    have XB := Lib.hid xb0
    clear hB xb0 hg
    go_loopw [5, 7] (fun tv iv wr => ∃ (i : Nat) (T : List UInt8), tv = .string (st T) ∧ iv = .int .i64 (i : Int) ∧ i ≤ L.length ∧ Hid (T = 13 :: spell t (L.take i) 0) ∧ Gr wB wr) (fun _ iv _ => L.length - (intOf iv).toNat)
    case atStart => exact ⟨0, [13], rfl, rfl, Nat.zero_le _, Lib.hid (by rw [List.take_zero]; rfl), Gr.refl _⟩
    case round =>
      obtain ⟨i, T, rfl, rfl, hi, hTT, hr⟩ := hrel
      cases hx : L[i]? with
      | none =>
        have hil : i = L.length := by
          rcases Nat.lt_or_ge i L.length with h | h
          · rw [List.getElem?_eq_getElem h] at hx; cases hx
          · omega
        subst hil
        have hT2 := hTT.out
        rw [List.take_length] at hT2
        obtain ⟨M, hM, hdat⟩ := HBl.out
        rw [← hT2] at hM
        have hML : M.length = L.length := by have := congrArg List.length hdat; simpa using this
        have hTl : T.length ≤ 30000 := by have := HLL.out L.length; rw [List.take_length, ← hT2] at this; exact this
        have hgM := cov_good T _ T 0 _ (cov_lex T 0) rfl (Nat.zero_le _)
        rw [hM] at hgM
        have HGM := Lib.hid hgM
        have HD := Lib.hid hdat
        have hL2 := lex_any T es ed wr (by omega) (HS.out.later (hgB.trans hr))
        rw [hM] at hL2
        have HL2 := Lib.hid hL2
        have HR := Lib.hid hr
        clear hx hi hTT hT2 hM hdat hgM hL2 hr
        go_wp2_with fail
        go_at_call 9
        refine HL2.out.mono ?_
        rintro e w2 ⟨hg2, v2, hown2, rfl⟩
        simp only at hown2
        obtain ⟨p2, cap2, rfl, hrow2⟩ := lex_row hown2
        have HROW2 := Lib.hid hrow2
        clear hrow2 hown2 HL2
        rw [hML]
        have HML := Lib.hid hML
        clear hML
        go_wp2_with fail
        go_loopw [10] (fun iv wz => ∃ (i : Nat), iv = .int .i64 (i : Int) ∧ i ≤ L.length ∧ Gr w2 wz) (fun iv _ => L.length - (intOf iv).toNat)
        case atStart => exact ⟨0, rfl, Nat.zero_le _, Gr.refl _⟩
        case round =>
          obtain ⟨i, rfl, hi, hz⟩ := hrel
          cases hx : L[i]? with
          | none =>
            have hil : i = L.length := by
              rcases Nat.lt_or_ge i L.length with h | h
              · rw [List.getElem?_eq_getElem h] at hx; cases hx
              · omega
            subst hil
            have hgw := (hgB.trans HR.out).trans (hg2.trans hz)
            clear hx hi
            go_wp2_with (go_at_call 8; (with_reducible refine (wakes4_any es ed _ (HS.out.later hgw)).mono ?_); rintro e w8 ⟨rfl, hg8⟩)
            go_ret
            exact ⟨rfl, hgw.trans hg8⟩
          | some x =>
            obtain ⟨y, hy, hyd, hyk, hyt, hyn, hys⟩ := dat_at HD.out i x hx
            obtain ⟨b, rfl, hb, hcell⟩ := HROW.out i x hx
            obtain ⟨b2, rfl, hb2, hcell2⟩ := HROW2.out i y hy
            have hgx := (HGood.out x (List.mem_of_getElem? hx)).1
            have hgy := (HGM.out y (List.mem_of_getElem? hy)).1
            have hil : i < L.length := (List.getElem?_eq_some_iff.1 hx).1
            have hgz := (hg1B.trans HR.out).trans (hg2.trans hz)
            have hbz : b < wr.heap.size := Nat.lt_of_lt_of_le hb hgz.size
            have hb2z : b2 < wr.heap.size := Nat.lt_of_lt_of_le hb2 hz.size
            have hk0 := hgz.cell (hcell 0 _ rfl)
            have hk1 := hgz.cell (hcell 1 _ rfl)
            have hk2 := hgz.cell (hcell 2 _ rfl)
            have hk3 := hgz.cell (hcell 3 _ rfl)
            have hk4 := hgz.cell (hcell 4 _ rfl)
            have hk5 := hgz.cell (hcell 5 _ rfl)
            have hk6 := hgz.cell (hcell 6 _ rfl)
            have hk7 := hgz.cell (hcell 7 _ rfl)
            have hk8 := hgz.cell (hcell 8 _ rfl)
            have hj0 := hz.cell (hcell2 0 _ rfl)
            have hj1 := hz.cell (hcell2 1 _ rfl)
            have hj2 := hz.cell (hcell2 2 _ rfl)
            have hj3 := hz.cell (hcell2 3 _ rfl)
            have hj4 := hz.cell (hcell2 4 _ rfl)
            have hj5 := hz.cell (hcell2 5 _ rfl)
            have hj6 := hz.cell (hcell2 6 _ rfl)
            have hj7 := hz.cell (hcell2 7 _ rfl)
            have hj8 := hz.cell (hcell2 8 _ rfl)
            rw [hyk, Nat.add_zero] at hj0
            rw [hyt] at hj3
            rw [hyn] at hj4
            rw [hys] at hj5 hj6 hj7 hj8
            rw [Nat.add_zero] at hk0
            obtain ⟨d, hd⟩ : ∃ d, x.fin - x.at' = d := ⟨_, rfl⟩
            have hx1 := hgx.lt
            have hx2 := hgx.le
            have hy1 := hgy.lt
            have hy2 := hgy.le
            have hwx : IntKind.i64.wrap ((x.fin : Int) - (x.at' : Int)) = (d : Int) := by rw [IntWalk.i64_in _ (by omega)]; omega
            have hwy : IntKind.i64.wrap ((y.fin : Int) - (y.at' : Int)) = (d : Int) := by rw [IntWalk.i64_in _ (by omega)]; omega
            have hiI : (i : Int) < (L.length : Int) := by omega
            have hiw : IntKind.i64.wrap ((i : Int) + 1) = ((i + 1 : Nat) : Int) := by rw [IntWalk.i64_in _ (by omega)]; omega
            have HLT := Lib.hid hil
            have HZ := Lib.hid hz
            clear hx hy hyd hyk hyt hyn hys hcell hcell2 hgx hgy hil hgz hd hx1 hx2 hy1 hy2 hi hz
            go_wp2_with fail
            go_roundw
            case rel => exact ⟨i + 1, by go_num, by have := HLT.out; omega, (HZ.out.trans (Gr.alloc _ _)).trans (Gr.alloc _ _)⟩
            case measure => have := HLT.out; simp [intOf]; omega
      | some x =>
        obtain ⟨b, rfl, hb, hcell⟩ := HROW.out i x hx
        have hil : i < L.length := (List.getElem?_eq_some_iff.1 hx).1
        have hgood := (HGood.out x (List.mem_of_getElem? hx)).1
        have hlt := hgood.lt
        have hfe := hgood.le
        have htake : L.take (i + 1) = L.take i ++ [x] := by rw [List.take_succ_eq_append_getElem hil]; congr 2; exact (List.getElem?_eq_some_iff.1 hx).2
        have hlen1 := HLL.out (i + 1)
        rw [htake, spell_snoc, List.length_take, Nat.min_eq_left (by omega), ← List.cons_append, ← hTT.out] at hlen1
        have HNew : Hid (13 :: spell t (L.take (i + 1)) 0 = T ++ ((if x.kd = 6 then remarkP else []) ++ sl t x ++ betweenP i)) := Lib.hid (by rw [htake, spell_snoc, List.length_take, Nat.min_eq_left (by omega), ← List.cons_append, ← hTT.out])
        have hslX := fun w' => run_sub (P := Tryd.prog) w' 9 t x.at' x.fin Tryd.underlying9 (by omega) (by omega)
        have esl : (t.drop x.at').take (x.fin - x.at') = sl t x := rfl
        rw [esl] at hslX
        obtain ⟨p, hp⟩ : ∃ p, sl t x = p := ⟨_, rfl⟩
        obtain ⟨q, hq⟩ : ∃ q, betweenP i = q := ⟨_, rfl⟩
        rw [hp] at hslX
        rw [hp, hq] at HNew hlen1
        simp only [List.length_append] at hlen1
        have hbt := between_at i
        rw [hq] at hbt
        obtain ⟨r, hrr⟩ : ∃ r, i % 4 = r := ⟨_, rfl⟩
        have hr4 : (r : Int) < 4 := by omega
        have hr4N : r < 4 := by omega
        have hrem : (i : Int).tmod 4 = (r : Int) := by rw [Int.tmod_eq_emod_of_nonneg (by omega)]; omega
        rw [hrr] at hbt
        have cq := (XB.out.later hr).cell r _ hbt
        have lq := (XB.out.later hr).lt (Nat.succ_pos _)
        have hk0 := hr.cell (hg1B.cell (hcell 0 _ rfl))
        have hk1 := hr.cell (hg1B.cell (hcell 1 _ rfl))
        have hk2 := hr.cell (hg1B.cell (hcell 2 _ rfl))
        rw [Nat.add_zero] at hk0
        obtain ⟨A, hAA⟩ : ∃ A, x.at' = A := ⟨_, rfl⟩
        obtain ⟨E, hEE⟩ : ∃ E, x.fin = E := ⟨_, rfl⟩
        rw [hAA] at hslX hk1
        rw [hEE] at hslX hk2
        have hbr : b < wr.heap.size := Nat.lt_of_lt_of_le hb (hg1B.trans hr).size
        have hiI : (i : Int) < (L.length : Int) := by omega
        have hiw : IntKind.i64.wrap ((i : Int) + 1) = ((i + 1 : Nat) : Int) := by rw [IntWalk.i64_in _ (by omega)]; omega
        have HLT := Lib.hid hil
        have HR := Lib.hid hr
        by_cases hk6 : x.kd = 6
        · rw [hk6] at hk0
          rw [if_pos hk6] at HNew hlen1
          have cc1 := fun w' => run_cat (P := Tryd.prog) w' T remarkP (by have := hlen1; omega)
          have cc2 := fun w' => run_cat (P := Tryd.prog) w' (T ++ remarkP) p (by rw [List.length_append]; omega)
          have cc3 := fun w' => run_cat (P := Tryd.prog) w' (T ++ remarkP ++ p) q (by rw [List.length_append, List.length_append]; omega)
          have erm : st remarkP = { data := #[35, 32, 91, 34, 32, 114, 101, 109, 97, 114, 107] } := rfl
          rw [erm] at cc1
          obtain ⟨T1, hT1⟩ : ∃ x, T ++ remarkP = x := ⟨_, rfl⟩
          rw [hT1] at cc1 cc2 cc3
          obtain ⟨T2, hT2⟩ : ∃ x, T1 ++ p = x := ⟨_, rfl⟩
          rw [hT2] at cc2 cc3
          obtain ⟨T3, hT3⟩ : ∃ x, T2 ++ q = x := ⟨_, rfl⟩
          rw [hT3] at cc3
          have HT3 : Hid (T3 = 13 :: spell t (L.take (i + 1)) 0) := Lib.hid (by rw [HNew.out, ← hT3, ← hT2, ← hT1]; simp only [List.append_assoc])
          clear hx hil hgood hlt hfe htake hlen1 HNew esl hp hq hbt hrr hcell hAA hEE hb hi hr hTT erm hT1 hT2 hT3 hk6
          go_wp2_with fail
          refine wp_region_G (.take 0 (.take 1 (.take 2 (.take 3 (.take 4 (.take 5 (.take 6 (.take 7 (.take 8 (.take 9 (.take 10 (.take 11 (.take 12 (.take 13 (.take 14 (.take 15 (.take 16 (.take 17 (.take 18 (.take 19 (.run 20 true .nil))))))))))))))))))))) (by kernel_rfl) (by kernel_rfl) ?_
          simp only [pickOps, nthOp]
          intro wq hG
          repeat (first | (refine wpG_skip_take ?_ ?_; (focus rfl); try simp only [Act.put, List.setIfInBounds_toArray, List.set_cons_zero, List.set_cons_succ]) | (refine wpG_skip_run ?_ ?_; (focus rfl); try simp only [Act.put, List.setIfInBounds_toArray, List.set_cons_zero, List.set_cons_succ]) | (refine wpG_take ?_ ?_; (focus rfl); apply Exists.intro; refine ⟨fun w' hw' => ?_, ?_⟩; (focus (have hc := Gr.cells hw'; go_simp; (try rfl); done)); try simp only [Act.put, List.setIfInBounds_toArray, List.set_cons_zero, List.set_cons_succ]))
          refine wpG_last ?_ (fun K hK => ?_); (focus rfl)
          have hc := hG.cells
          have hm := hG.marks
          go_simp
          refine hK.out _ _ ?_
          try simp only [Act.put, List.setIfInBounds_toArray, List.set_cons_zero, List.set_cons_succ]
          clear hK K hc hm
          refine wpG_done ?_
          go_wp2_with fail
          go_roundw
          case rel => exact ⟨i + 1, T3, rfl, by go_num, by have := HLT.out; omega, HT3, HR.out.trans hG⟩
          case measure => have := HLT.out; simp [intOf]; omega
        · rw [if_neg hk6] at HNew hlen1
          have e6 : ((x.kd : Int) == 6) = false := by rw [beq_eq_false_iff_ne]; omega
          have cc2 := fun w' => run_cat (P := Tryd.prog) w' T p (by omega)
          have cc3 := fun w' => run_cat (P := Tryd.prog) w' (T ++ p) q (by rw [List.length_append]; omega)
          obtain ⟨T2, hT2⟩ : ∃ x, T ++ p = x := ⟨_, rfl⟩
          rw [hT2] at cc2 cc3
          obtain ⟨T3, hT3⟩ : ∃ x, T2 ++ q = x := ⟨_, rfl⟩
          rw [hT3] at cc3
          have HT3 : Hid (T3 = 13 :: spell t (L.take (i + 1)) 0) := Lib.hid (by rw [HNew.out, ← hT3, ← hT2, List.nil_append, List.append_assoc])
          clear hx hil hgood hlt hfe htake hlen1 HNew esl hp hq hbt hrr hcell hAA hEE hb hi hr hTT hT2 hT3 hk6
          go_wp2_with fail
          refine wp_region_G (.take 0 (.take 1 (.take 2 (.take 3 (.take 4 (.take 5 (.take 6 (.take 7 (.take 8 (.take 9 (.take 10 (.take 11 (.take 12 (.take 13 (.take 14 (.take 15 (.take 16 (.take 17 (.take 18 (.take 19 (.run 20 true .nil))))))))))))))))))))) (by kernel_rfl) (by kernel_rfl) ?_
          simp only [pickOps, nthOp]
          intro wq hG
          repeat (first | (refine wpG_skip_take ?_ ?_; (focus rfl); try simp only [Act.put, List.setIfInBounds_toArray, List.set_cons_zero, List.set_cons_succ]) | (refine wpG_skip_run ?_ ?_; (focus rfl); try simp only [Act.put, List.setIfInBounds_toArray, List.set_cons_zero, List.set_cons_succ]) | (refine wpG_take ?_ ?_; (focus rfl); apply Exists.intro; refine ⟨fun w' hw' => ?_, ?_⟩; (focus (have hc := Gr.cells hw'; go_simp; (try rfl); done)); try simp only [Act.put, List.setIfInBounds_toArray, List.set_cons_zero, List.set_cons_succ]))
          refine wpG_last ?_ (fun K hK => ?_); (focus rfl)
          have hc := hG.cells
          have hm := hG.marks
          go_simp
          refine hK.out _ _ ?_
          try simp only [Act.put, List.setIfInBounds_toArray, List.set_cons_zero, List.set_cons_succ]
          clear hK K hc hm
          refine wpG_done ?_
          go_wp2_with fail
          go_roundw
          case rel => exact ⟨i + 1, T3, rfl, by go_num, by have := HLT.out; omega, HT3, HR.out.trans hG⟩
          case measure => have := HLT.out; simp [intOf]; omega

end Go.Proofs.YtdjankfcmoblhaaDoor
