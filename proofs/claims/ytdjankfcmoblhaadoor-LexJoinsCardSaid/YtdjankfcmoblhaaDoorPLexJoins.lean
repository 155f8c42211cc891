/- LexJoins of bolterlaw4 answers true. No condition but the errors' variables, and that what is read takes no more than the platform's reach. -/
import Derived.Test.YtdjankfcmoblhaaDoorPLexSame
import Derived.Test.YtdjankfcmoblhaaDoorPAppend
namespace Go.Proofs.YtdjankfcmoblhaaDoor
open Go Go.RowKit

theorem rows_form {w : World} {B : Nat} {v : Value} {L : List Tok} (h : w.ownsRow B 32 9 v L.length (L.flatMap tokC)) : (v = .slice none 0 0 ∧ L = []) ∨ ∃ g cap, v = .slice (some ⟨g, 0, none⟩) L.length cap ∧ L.length ≤ cap ∧ cap ≤ maxLen := by
  obtain ⟨h1, ⟨hv, hn⟩ | ⟨g, cap, cur, hv, hb, hh, h3, h4, _⟩⟩ := h
  · exact .inl ⟨hv, List.eq_nil_of_length_eq_zero hn⟩
  · exact .inr ⟨g, cap, hv, h3, h4⟩
set_option maxRecDepth 100000 in
set_option maxHeartbeats 4000000 in
theorem cutShort_any (A : List UInt8) (hA : 0 < A.length) (hAl : A.length ≤ 6000) (La M : List Tok) (va vl : Value) (c B B' : Nat) (hc : 1 ≤ c) (w : World) (hl6 : (La ++ M).length ≤ 70000)
    (ha : w.ownsRow B 32 9 va La.length (La.flatMap tokC)) (hl : w.ownsRow B' 32 9 vl (La ++ M).length ((La ++ M).flatMap tokC)) :
    Calls Tryd.prog 13 #[.string (st A), va, vl, .int .i64 (c : Int)] w fun e w' => e = .returned (.bool true) ∧ Gr w w' := by
  have hsz := st_size A
  have hA1 : (0 : Int) < (A.length : Int) := by omega
  have hcb : ((c : Int) != 0) = true := by rw [bne_iff_ne]; omega
  have HA := Lib.hid (Sl.of_owns ha)
  have HLL := Lib.hid (Sl.of_owns hl)
  obtain ⟨pa, ca, rfl⟩ := (Sl.of_owns ha).len
  rcases rows_form hl with ⟨rfl, hnil⟩ | ⟨g, cap, rfl, hcap, hcm⟩
  · obtain ⟨rfl, rfl⟩ := List.append_eq_nil_iff.1 hnil
    clear ha hl hnil
    have HS := Lib.hid (fun w' (h : Gr w w') => eqLexemes_same [] (.slice none 0 0) (.slice pa 0 ca) w' (Sl.nil _ _) (HA.out.later h))
    simp only [List.length_nil] at *
    go_enter Tryd.func13, Tryd.ntmps13
    go_wp2_with (go_at_call 11; (with_reducible refine (HS.out _ (Gr.refl _)).mono ?_); rintro e w3 ⟨rfl, hg3⟩)
    go_ret
    exact ⟨rfl, hg3⟩
  · have hla : La.length ≤ (La ++ M).length := by simp
    have hH := sl_head (n := La.length) (Sl.of_owns hl) hla
    rw [List.take_left] at hH
    have HS := Lib.hid (fun w' (h : Gr w w') => eqLexemes_same La _ _ w' (hH.later h) (HA.out.later h))
    obtain ⟨n, hn⟩ : ∃ n, (La ++ M).length = n := ⟨_, rfl⟩
    obtain ⟨m, hm⟩ : ∃ n, La.length = n := ⟨_, rfl⟩
    rw [hn] at hcap hla hl6 ⊢
    rw [hm] at hla HS ⊢
    have hmn : (m : Int) ≤ (n : Int) := by omega
    have hmc : (m : Int) ≤ (cap : Int) := by omega
    have hmcN : m ≤ cap := by omega
    unfold maxLen at hcm
    clear ha hl hH hn hm HA HLL
    go_enter Tryd.func13, Tryd.ntmps13
    go_wp2_with (go_at_call 11; (with_reducible refine (HS.out _ (Gr.refl _)).mono ?_); rintro e w3 ⟨rfl, hg3⟩)
    go_ret
    exact ⟨rfl, hg3⟩

theorem toks_one : ∀ (L : List Tok), ∀ u ∈ L.flatMap tokC, u.oneCell' = true := fun L u hu => by
  obtain ⟨x, _, hx⟩ := List.mem_flatMap.1 hu
  exact lxC_one _ _ _ _ _ _ u hx
theorem lx0_one (a b : Int) : ∀ u ∈ [Value.int .i64 6, .int .i64 a, .int .i64 b, .string { data := #[] }, .int .i64 0, .int .u64 0, .int .u64 0, .int .u64 0, .int .u64 0], u.oneCell' = true := fun u hu => by
  simp at hu; rcases hu with rfl | rfl | rfl | rfl | rfl | rfl <;> rfl
theorem owns_empty {w W : World} {e : TypeId} (k : Nat) (h : W = w.alloc (.cells #[] e)) : W.ownsRow w.heap.size e k (.slice (some ⟨w.heap.size, 0, none⟩) 0 0) 0 [] := by
  subst h
  refine ⟨by simp, .inr ⟨w.heap.size, 0, #[], rfl, Nat.le_refl _, ?_, Nat.le_refl _, Nat.zero_le _, by simp, by simp⟩⟩
  show (w.heap.push (.cells #[] e))[w.heap.size]? = _
  simp
theorem owns_cast {w : World} {B : Nat} {v : Value} {L L' : List Tok} (h : L = L') (ho : w.ownsRow B 32 9 v L.length (L.flatMap tokC)) : w.ownsRow B 32 9 v L'.length (L'.flatMap tokC) := by subst h; exact ho
theorem join_ok (A B : List UInt8) (h : (lexF A 0).2 = none) : lexF (A ++ [10] ++ B) 0 = ((lexF A 0).1 ++ lfTok A.length :: (lexF B 0).1.map (shift (A.length + 1)), (lexF B 0).2.map (fun x => (x.1, x.2 + (A.length + 1)))) := by
  have h1 := (lex_join B A 0).1 h
  have h2 := lex_shift B 0 (A.length + 1)
  rw [Nat.zero_add] at h2
  rw [Nat.zero_add, h2] at h1
  rw [show A ++ [10] ++ B = A ++ 10 :: B by simp, h1]
theorem join_bad (A B : List UInt8) (h : (lexF A 0).2 ≠ none) : ∃ M x, lexF (A ++ [10] ++ B) 0 = ((lexF A 0).1 ++ M, some x) := by
  obtain ⟨M, x, h1⟩ := (lex_join B A 0).2 h
  exact ⟨M, x, by rw [show A ++ [10] ++ B = A ++ 10 :: B by simp, h1]⟩

set_option maxRecDepth 100000 in
set_option maxHeartbeats 8000000 in
theorem lexJoins_any (A B : List UInt8) (s : Nat → Addr) (w : World) (hA : A.length ≤ 140737488355328) (hB : B.length ≤ 140737488355328) (hF : FaultsIn w s) (hm : ∃ m, w.cell? ⟨17, 0, none⟩ = some (.int .i64 m)) :
    Calls Tryd.prog 7 #[.agg #[.string (st A), .string (st B)]] w fun e w' => e = .returned (.bool true) ∧ Gr w w' := by
  have hszA := st_size A
  have hszB := st_size B
  have HS := Lib.hid (hF.sy0 hm)
  have HF := Lib.hid hF
  have hw0 : IntKind.i64.wrap ((A.length : Int) + (B.length : Int)) = ((A.length + B.length : Nat) : Int) := by rw [IntWalk.i64_in _ (by omega)]; omega
  clear hF hm
  by_cases hlong : A.length + B.length > 6000
  · have h1 : 6000 < A.length + B.length := by omega
    have h1I : (6000 : Int) < ((A.length + B.length : Nat) : Int) := by omega
    have h1J : (6000 : Int) < (A.length : Int) + (B.length : Int) := by omega
    go_enter Tryd.func7, Tryd.ntmps7
    go_wp2_with fail
    go_at_call 8
    refine name_calls (fun W hW => ?_)
    have hgW : Gr w W := Gr.of_alloc hW
    clear hW
    refine (wakes4_any _ _ _ (HS.out.later hgW)).mono ?_; rintro e w1 ⟨rfl, hg⟩
    go_wp2
    go_ret
    exact ⟨rfl, hgW.trans hg⟩
  · have h1 : ¬ 6000 < A.length + B.length := by omega
    have h1I : ¬ (6000 : Int) < ((A.length + B.length : Nat) : Int) := by omega
    have h1J : ¬ (6000 : Int) < (A.length : Int) + (B.length : Int) := by omega
    have hle : A.length + B.length ≤ 6000 := by omega
    have HLA := Lib.hid (fun (W : World) (hW : Gr w W) => lex_any A _ _ W (by omega) (HS.out.later hW))
    have HLB := Lib.hid (fun (W : World) (hW : Gr w W) => lex_any B _ _ W (by omega) (HS.out.later hW))
    have HLT := Lib.hid (fun (W : World) (hW : Gr w W) => lex_any (A ++ [10] ++ B) _ _ W (by simp; omega) (HS.out.later hW))
    have HlenA := Lib.hid (lexF_len A 0)
    have HlenB := Lib.hid (lexF_len B 0)
    have HlenT := Lib.hid (lexF_len (A ++ [10] ++ B) 0)
    have HOK := Lib.hid (join_ok A B)
    have HBAD := Lib.hid (join_bad A B)
    have HGoodB := Lib.hid (cov_good B _ B 0 _ (cov_lex B 0) rfl (Nat.zero_le _))
    have HAne := Lib.hid (fun (h : (lexF A 0).2 ≠ none) => (by
      rcases Nat.eq_zero_or_pos A.length with h0 | h0
      · rw [List.eq_nil_of_length_eq_zero h0, lexF_nil] at h; exact absurd rfl h
      · exact h0 : 0 < A.length))
    have cc1 := fun w' => run_cat (P := Tryd.prog) w' A [10] (by simp; omega)
    have cc2 := fun w' => run_cat (P := Tryd.prog) w' (A ++ [10]) B (by simp; omega)
    have e10 : st [10] = { data := #[10] } := rfl
    rw [e10] at cc1
    obtain ⟨XA, hXA⟩ : ∃ X, lexF A 0 = X := ⟨_, rfl⟩
    obtain ⟨XB, hXB⟩ : ∃ X, lexF B 0 = X := ⟨_, rfl⟩
    obtain ⟨XT, hXT⟩ : ∃ X, lexF (A ++ [10] ++ B) 0 = X := ⟨_, rfl⟩
    rw [hXA] at HLA HlenA HAne
    rw [hXB] at HLB HlenB HGoodB
    rw [hXT] at HLT HlenT
    rw [hXA, hXT] at HBAD HOK
    rw [hXB] at HOK
    have hwn : IntKind.i64.wrap ((A.length : Int) + 1) = ((A.length + 1 : Nat) : Int) := by rw [IntWalk.i64_in _ (by omega)]; omega
    obtain ⟨n, hn⟩ : ∃ n, A.length + 1 = n := ⟨_, rfl⟩
    obtain ⟨T1, hT1⟩ : ∃ x, A ++ [10] = x := ⟨_, rfl⟩
    rw [hT1] at cc1 cc2 HLT
    obtain ⟨T2, hT2⟩ : ∃ x, T1 ++ B = x := ⟨_, rfl⟩
    have hlT : T2.length = A.length + B.length + 1 := by rw [← hT2, ← hT1]; simp; omega
    rw [hT1, hT2] at HlenT
    rw [hT2] at cc2 HLT
    rw [hn] at HOK hwn
    have HN := Lib.hid (show A.length + 1 = n ∧ T2.length = A.length + B.length + 1 from ⟨hn, hlT⟩)
    clear hXA hXB hXT e10 hn hT1 hT2 hA hB hlong hlT
    obtain ⟨LA, eA⟩ := XA
    obtain ⟨LB, eB⟩ := XB
    obtain ⟨LT, eT⟩ := XT
    simp only at HLA HLB HLT HOK HBAD HAne HlenA HlenB HlenT HGoodB
    go_enter Tryd.func7, Tryd.ntmps7
    go_wp2_with fail
    go_at_call 9
    refine name_calls (fun W0 hW => ?_)
    have xb : boxAt W0 w.heap.size [.string (st A), .string (st B)] := boxAt.new _ _ hW
    have hg0 : Gr w W0 := Gr.of_alloc hW
    clear hW
    refine (HLA.out _ hg0).mono ?_
    rintro e w1 hans
    obtain ⟨hg1, pA, capA, errA, rfl, hownA, herrA⟩ := hans.parts
    simp only at hownA herrA
    have HOA := Lib.hid hownA
    have HEA := Lib.hid herrA
    replace xb := xb.later hg1
    replace hg0 := hg0.trans hg1
    clear hans hownA herrA HLA hg1
    have c_b0 := xb.cell 0 _ rfl
    have c_b1 := xb.cell 1 _ rfl
    have m_b0 := xb.mark 0 _ rfl
    have m_b1 := xb.mark 1 _ rfl
    have l_b := xb.lt (Nat.succ_pos _)
    go_wp2_with fail
    clear c_b0 c_b1 m_b0 m_b1 l_b
    go_at_call 9
    refine (HLB.out _ hg0).mono ?_
    rintro e w2 hans
    obtain ⟨hg2, pB, capB, errB, rfl, hownB, herrB⟩ := hans.parts
    simp only at hownB herrB
    have HOB := Lib.hid hownB
    have HEB := Lib.hid herrB
    replace xb := xb.later hg2
    replace hg0 := hg0.trans hg2
    clear hans hownB herrB HLB
    have c_b0 := xb.cell 0 _ rfl
    have c_b1 := xb.cell 1 _ rfl
    have m_b0 := xb.mark 0 _ rfl
    have m_b1 := xb.mark 1 _ rfl
    have l_b := xb.lt (Nat.succ_pos _)
    go_wp2_with fail
    clear c_b0 c_b1 m_b0 m_b1 l_b
    go_at_call 9
    refine (HLT.out _ hg0).mono ?_
    rintro e w3 hans
    obtain ⟨hg3, pT, capT, errT, rfl, hownT, herrT⟩ := hans.parts
    simp only at hownT herrT
    have HOT := Lib.hid hownT
    have HET := Lib.hid herrT
    replace xb := xb.later hg3
    replace hg0 := hg0.trans hg3
    clear hans hownT herrT HLT
    have c_b0 := xb.cell 0 _ rfl
    have c_b1 := xb.cell 1 _ rfl
    have m_b0 := xb.mark 0 _ rfl
    have m_b1 := xb.mark 1 _ rfl
    have l_b := xb.lt (Nat.succ_pos _)
    cases eA with
    | none =>
      have hTT := HOK.out rfl
      injection hTT with hLT heT
      have HM := Lib.hid hLT
      have hA0 : errA = .nilIface := HEA.out
      subst hA0
      have hc2 : codeO eT = codeO eB := by rw [heT]; cases eB <;> rfl
      have hnil : (errB = .nilIface ∧ errT = .nilIface) ∨ ((∃ ty y, errB = .iface ty y) ∧ ∃ ty y, errT = .iface ty y) := by
        have hb := HEB.out
        have ht := HET.out
        rw [heT] at ht
        cases eB with
        | none => exact .inl ⟨hb, ht⟩
        | some dk =>
          obtain ⟨d, k⟩ := dk
          obtain ⟨b1, h1, _⟩ := hb
          obtain ⟨b2, h2, _⟩ := ht
          exact .inr ⟨⟨_, _, h1⟩, _, _, h2⟩
      have HCodeB := Lib.hid (fun (W : World) (hW : Gr w3 W) => kitCode_lex (HF.out.later (hg0.trans hW)) _ errB (HEB.out.later (hg3.trans hW)))
      have HCodeT := Lib.hid (fun (W : World) (hW : Gr w3 W) => kitCode_lex (HF.out.later (hg0.trans hW)) _ errT (HET.out.later hW))
      rw [hc2] at HCodeT
      obtain ⟨c, hc⟩ : ∃ c, codeO eB = c := ⟨_, rfl⟩
      rw [hc] at HCodeB HCodeT
      have HW := Lib.hid (fun (W : World) (hW : Gr w3 W) => wakes4_any _ _ W (HS.out.later (hg0.trans hW)))
      have HNil := Lib.hid hnil
      have hnyA : Nily (.slice pA LA.length capA) := by
        rcases rows_form HOA.out with ⟨h, _⟩ | ⟨g, cap, h, _⟩
        · exact .inl h
        · exact .inr ⟨_, _, _, h⟩
      obtain ⟨ao, ca, hva, hao, hsrc⟩ := src_of (Sl.of_owns (owns_later HOA.out (hg2.trans hg3))) hnyA
      injection hva with hva1 _ hva2
      subst hva1 hva2
      have hwn1 : IntKind.i64.wrap ((n : Int) - 1) = (A.length : Int) := by have := HN.out; rw [IntWalk.i64_in _ (by omega)]; omega
      obtain ⟨i0, hi, hz0, hz1, hz2⟩ := info_parts info_lex
      have HAO := Lib.hid hao
      have HSRC := Lib.hid hsrc
      clear hLT heT HOK HBAD HAne hc2 hnil hc hnyA hao hsrc
      have hAl : LA.length ≤ 6000 := by have := HlenA.out; omega
      have hBl : LB.length ≤ 6000 := by have := HlenB.out; omega
      go_wp2_with (at_builtin; refine wpList_append_own_any rfl (.tmp 60) (.tmp 61) 23 rfl w3.heap.size 32 i0 (.agg #[.int .i64 0, .int .i64 0, .int .i64 0, .string { data := #[] }, .int .i64 0, .int .u64 0, .int .u64 0, .int .u64 0, .int .u64 0]) 9 80 Tryd.underlying23 hi hz0 hz1 hz2 rfl (by decide) _ 0 [] rfl (owns_empty 9 rfl) pA LA.length capA (LA.flatMap tokC) rfl (flatMap_len tokC 9 tokC_len LA) HAO.out (fun ad had j u hj => (Gr.alloc w3 _).cell (HSRC.out ad had j u hj)) (toks_one LA) ?c1 ?c2 ?c3 ?_)
      case c1 => unfold maxLen; omega
      case c2 => omega
      case c3 => simp
      intro v1 W1 hown1 hgrow _
      have hg31 : Gr w3 W1 := Gr.grown (Gr.alloc w3 _) hgrow (fun g hgb => by simp [Value.ownBlock] at hgb; omega)
      have HO1 := Lib.hid hown1
      clear hown1 hgrow
      go_wp2_with (at_builtin; refine wpList_append_own _ rfl (.tmp 63) (.tmp 68) 23 rfl w3.heap.size 32 i0 (.agg #[.int .i64 0, .int .i64 0, .int .i64 0, .string { data := #[] }, .int .i64 0, .int .u64 0, .int .u64 0, .int .u64 0, .int .u64 0]) 9 80 Tryd.underlying23 hi hz0 hz1 hz2 rfl (by decide) _ _ _ rfl (HO1.out.alloc _) ⟨W1.heap.size, 0, none⟩ 1 1 [.int .i64 6, .int .i64 (A.length : Int), .int .i64 (n : Int), .string { data := #[] }, .int .i64 0, .int .u64 0, .int .u64 0, .int .u64 0, .int .u64 0] rfl rfl ?c4 ?c5 ?c6 ?c7 ?c8 ?_)
      case c4 => exact new_cells _ _ _
      case c5 => exact lx0_one _ _
      case c6 => unfold maxLen; omega
      case c7 => omega
      case c8 => have := hg31.size; simp; omega
      intro v2 W2 hown2 hgrow _
      have hg32 : Gr w3 W2 := Gr.grown (hg31.trans (Gr.alloc _ _)) hgrow (fun g hgb => (World.ownsRow.lt HO1.out g hgb).1)
      have HO2 : Hid (W2.ownsRow w3.heap.size 32 9 v2 (LA ++ lfTok A.length :: (LB.map (shift n)).take 0).length ((LA ++ lfTok A.length :: (LB.map (shift n)).take 0).flatMap tokC)) := Lib.hid (by
        rw [List.take_zero, List.flatMap_append, List.flatMap_singleton, lfC, HN.out.1, List.length_append]; exact hown2)
      clear hown2 hgrow
      go_wp2_with fail
      go_loopw [10, 11] (fun v iv wz => ∃ (i : Nat), iv = .int .i64 (i : Int) ∧ i ≤ LB.length ∧ wz.ownsRow w3.heap.size 32 9 v (LA ++ lfTok A.length :: (LB.map (shift n)).take i).length ((LA ++ lfTok A.length :: (LB.map (shift n)).take i).flatMap tokC) ∧ Gr w3 wz) (fun _ iv _ => LB.length - (intOf iv).toNat)
      case atStart => exact ⟨0, rfl, Nat.zero_le _, HO2.out, hg32⟩
      case round =>
        obtain ⟨i, rfl, hil0, hown, hz⟩ := hrel
        cases hx : LB[i]? with
        | none =>
          have hil : i = LB.length := by
            rcases Nat.lt_or_ge i LB.length with h | h
            · rw [List.getElem?_eq_getElem h] at hx; cases hx
            · omega
          subst hil
          rw [List.take_of_length_le (by simp)] at hown
          have HOW := Lib.hid (owns_cast HM.out.symm hown)
          clear hown hx
          have HEq := Lib.hid (fun (W : World) (hW : Gr wr W) => eqLexemes_same LT _ _ W (Sl.of_owns (owns_later HOT.out (hz.trans hW))) (Sl.of_owns (owns_later HOW.out hW)))
          have HZ := Lib.hid hz
          clear hil0 hz
          rcases HNil.out with ⟨rfl, rfl⟩ | ⟨⟨ty, y, rfl⟩, ty2, y2, rfl⟩
          · go_wp2_with fail
            refine wp_region_G (.take 0 (.take 1 (.run 2 false (.take 3 (.take 4 (.take 5 (.take 6 (.take 7 (.take 8 (.take 9 (.take 10 (.take 11 (.take 13 (.run 12 false (.run 14 false (.take 15 (.take 16 (.take 17 (.run 18 false (.take 19 (.run 20 true .nil))))))))))))))))))))) (by kernel_rfl) (by kernel_rfl) ?_
            simp only [pickOps, nthOp]
            intro wq hG
            repeat (first | (refine wpG_skip_take ?_ ?_; (focus rfl); try simp only [Act.put, List.setIfInBounds_toArray, List.set_cons_zero, List.set_cons_succ]) | (refine wpG_skip_run ?_ ?_; (focus rfl); try simp only [Act.put, List.setIfInBounds_toArray, List.set_cons_zero, List.set_cons_succ]) | (refine wpG_take ?_ ?_; (focus rfl); apply Exists.intro; refine ⟨fun w' hw' => ?_, ?_⟩; (focus (have hc := Gr.cells hw'; go_simp; (try rfl); done)); try simp only [Act.put, List.setIfInBounds_toArray, List.set_cons_zero, List.set_cons_succ]) | (refine wpG_run ?_ (fun K hK => ?_); (focus rfl); go_simp; (first | (go_at_call 11; (with_reducible refine (HEq.out _ hG).mono ?_); rintro e w' ⟨rfl, hb⟩) | (go_at_call 14; (with_reducible refine (HCodeB.out _ (HZ.out.trans hG)).mono ?_); rintro e w' ⟨rfl, hb⟩) | (go_at_call 8; (with_reducible refine (HW.out _ (HZ.out.trans hG)).mono ?_); rintro e w' ⟨rfl, hb⟩)); (try dsimp only); replace hG := hG.trans hb; refine hK.out _ _ hG ?_; clear hK K hb; try simp only [Act.put, List.setIfInBounds_toArray, List.set_cons_zero, List.set_cons_succ]))
            refine wpG_last ?_ (fun K hK => ?_); (focus rfl)
            have hc := hG.cells
            have hm := hG.marks
            go_simp
            refine hK.out _ _ ?_
            try simp only [Act.put, List.setIfInBounds_toArray, List.set_cons_zero, List.set_cons_succ]
            clear hK K hc hm
            refine wpG_done ?_
            go_wp2
            go_ret
            exact ⟨rfl, (hg0.trans HZ.out).trans hG⟩
          · go_wp2_with fail
            refine wp_region_G (.take 0 (.take 1 (.run 2 false (.take 3 (.take 4 (.take 5 (.take 6 (.take 7 (.take 8 (.take 9 (.take 10 (.take 11 (.take 13 (.run 12 false (.run 14 false (.take 15 (.take 16 (.take 17 (.run 18 false (.take 19 (.run 20 true .nil))))))))))))))))))))) (by kernel_rfl) (by kernel_rfl) ?_
            simp only [pickOps, nthOp]
            intro wq hG
            repeat (first | (refine wpG_skip_take ?_ ?_; (focus rfl); try simp only [Act.put, List.setIfInBounds_toArray, List.set_cons_zero, List.set_cons_succ]) | (refine wpG_skip_run ?_ ?_; (focus rfl); try simp only [Act.put, List.setIfInBounds_toArray, List.set_cons_zero, List.set_cons_succ]) | (refine wpG_take ?_ ?_; (focus rfl); apply Exists.intro; refine ⟨fun w' hw' => ?_, ?_⟩; (focus (have hc := Gr.cells hw'; go_simp; (try rfl); done)); try simp only [Act.put, List.setIfInBounds_toArray, List.set_cons_zero, List.set_cons_succ]) | (refine wpG_run ?_ (fun K hK => ?_); (focus rfl); go_simp; (first | (go_at_call 11; (with_reducible refine (HEq.out _ hG).mono ?_); rintro e w' ⟨rfl, hb⟩) | (go_at_call 14; (with_reducible refine (HCodeB.out _ (HZ.out.trans hG)).mono ?_); rintro e w' ⟨rfl, hb⟩) | (go_at_call 14; (with_reducible refine (HCodeT.out _ (HZ.out.trans hG)).mono ?_); rintro e w' ⟨rfl, hb⟩) | (go_at_call 8; (with_reducible refine (HW.out _ (HZ.out.trans hG)).mono ?_); rintro e w' ⟨rfl, hb⟩)); (try dsimp only); replace hG := hG.trans hb; refine hK.out _ _ hG ?_; clear hK K hb; try simp only [Act.put, List.setIfInBounds_toArray, List.set_cons_zero, List.set_cons_succ]))
            refine wpG_last ?_ (fun K hK => ?_); (focus rfl)
            have hc := hG.cells
            have hm := hG.marks
            go_simp
            refine hK.out _ _ ?_
            try simp only [Act.put, List.setIfInBounds_toArray, List.set_cons_zero, List.set_cons_succ]
            clear hK K hc hm
            refine wpG_done ?_
            go_wp2
            go_ret
            exact ⟨rfl, (hg0.trans HZ.out).trans hG⟩
        | some x =>
          obtain ⟨_, _, hvB, hrowB⟩ := lex_row HOB.out
          injection hvB with hvB1 _ hvB3
          subst hvB1
          clear hvB3
          obtain ⟨b, rfl, hb, hcell⟩ := hrowB i x hx
          have hgx := (HGoodB.out x (List.mem_of_getElem? hx)).1
          have hil : i < LB.length := (List.getElem?_eq_some_iff.1 hx).1
          have hgx1 := hg3.trans hz
          have hbz : b < wr.heap.size := Nat.lt_of_lt_of_le hb hgx1.size
          have hk0 := hgx1.cell (hcell 0 _ rfl)
          have hk1 := hgx1.cell (hcell 1 _ rfl)
          have hk2 := hgx1.cell (hcell 2 _ rfl)
          have hk3 := hgx1.cell (hcell 3 _ rfl)
          have hk4 := hgx1.cell (hcell 4 _ rfl)
          have hk5 := hgx1.cell (hcell 5 _ rfl)
          have hk6 := hgx1.cell (hcell 6 _ rfl)
          have hk7 := hgx1.cell (hcell 7 _ rfl)
          have hk8 := hgx1.cell (hcell 8 _ rfl)
          rw [Nat.add_zero] at hk0
          have hx1 := hgx.lt
          have hx2 := hgx.le
          have hn7 : n ≤ 6001 := by have := HN.out; omega
          have hA : IntKind.i64.wrap ((x.at' : Int) + (n : Int)) = ((shift n x).at' : Int) := by
            show _ = ((x.at' + n : Nat) : Int)
            rw [IntWalk.i64_in _ (by omega)]; omega
          have hE : IntKind.i64.wrap ((x.fin : Int) + (n : Int)) = ((shift n x).fin : Int) := by
            show _ = ((x.fin + n : Nat) : Int)
            rw [IntWalk.i64_in _ (by omega)]; omega
          have htk : (LB.map (shift n)).take (i + 1) = (LB.map (shift n)).take i ++ [shift n x] := by
            rw [List.take_add_one, List.getElem?_map, hx]; rfl
          have HTK : Hid (LA ++ lfTok A.length :: (LB.map (shift n)).take (i + 1) = (LA ++ lfTok A.length :: (LB.map (shift n)).take i) ++ [shift n x]) := Lib.hid (by rw [htk]; simp)
          have hlen : (LA ++ lfTok A.length :: (LB.map (shift n)).take i).length ≤ 12100 := by simp; omega
          obtain ⟨S, hS⟩ : ∃ S, LA ++ lfTok A.length :: (LB.map (shift n)).take i = S := ⟨_, rfl⟩
          rw [hS] at hown HTK hlen
          obtain ⟨A6, hA6⟩ : ∃ A, (shift n x).at' = A := ⟨_, rfl⟩
          obtain ⟨E6, hE6⟩ : ∃ A, (shift n x).fin = A := ⟨_, rfl⟩
          rw [hA6] at hA
          rw [hE6] at hE
          have hcx : tokC (shift n x) = lxC x.kd A6 E6 (st x.tx) x.n x.s := by rw [← hA6, ← hE6]; rfl
          have hiI : (i : Int) < (LB.length : Int) := by omega
          have hiw : IntKind.i64.wrap ((i : Int) + 1) = ((i + 1 : Nat) : Int) := by rw [IntWalk.i64_in _ (by omega)]; omega
          have HLT := Lib.hid (show i < LB.length from hil)
          have HZ := Lib.hid hz
          have HOWN := Lib.hid hown
          have HCX := Lib.hid hcx
          clear hx hcell hgx hil hgx1 hx1 hx2 hA6 hE6 hz htk hS hcx hrowB hil0 hown
          go_wp2_with (at_builtin; refine wpList_append_own _ rfl (.tmp 90) (.tmp 92) 23 rfl w3.heap.size 32 i0 (.agg #[.int .i64 0, .int .i64 0, .int .i64 0, .string { data := #[] }, .int .i64 0, .int .u64 0, .int .u64 0, .int .u64 0, .int .u64 0]) 9 80 Tryd.underlying23 hi hz0 hz1 hz2 rfl (by decide) _ _ _ rfl ((HOWN.out.alloc _).alloc _) ⟨wr.heap.size + 1, 0, none⟩ 1 1 (lxC x.kd A6 E6 (st x.tx) x.n x.s) rfl rfl ?d1 ?d2 ?d3 ?d4 ?d5 ?_)
          case d1 => exact fun j u h => h
          case d2 => exact lxC_one _ _ _ _ _ _
          case d3 => unfold maxLen; omega
          case d4 => omega
          case d5 => have := HZ.out.size; simp; omega
          intro v5 W5 hown5 hgrow _
          obtain ⟨WA, hgrow', hgA⟩ : ∃ WA, World.grownBy WA W5 _ ∧ Gr wr WA := ⟨_, hgrow, (Gr.alloc wr _).trans (Gr.alloc _ _)⟩
          have hg35 : Gr w3 W5 := Gr.grown (HZ.out.trans hgA) hgrow' (fun g hgb => (World.ownsRow.lt HOWN.out g hgb).1)
          have HO5 : Hid (W5.ownsRow w3.heap.size 32 9 v5 (LA ++ lfTok A.length :: (LB.map (shift n)).take (i + 1)).length ((LA ++ lfTok A.length :: (LB.map (shift n)).take (i + 1)).flatMap tokC)) := Lib.hid (by
            rw [HTK.out, List.flatMap_append, List.flatMap_singleton, HCX.out, List.length_append]; exact hown5)
          clear hown5 hgrow hgrow' hgA
          go_wp2_with fail
          go_roundw
          case rel => exact ⟨i + 1, by go_num, by have := HLT.out; omega, HO5.out, hg35⟩
          case measure => have := HLT.out; simp [intOf]; omega
    | some dk =>
      obtain ⟨d, k⟩ := dk
      obtain ⟨M, x, hMx⟩ := HBAD.out (by simp)
      injection hMx with hM hx
      subst hx
      have HM := Lib.hid hM
      clear hM
      obtain ⟨bA, rfl, _⟩ := HEA.out
      have HCode := Lib.hid (fun (W : World) (hW : Gr w3 W) => kitCode_lex (HF.out.later (hg0.trans hW)) _ errT (HET.out.later hW))
      have hc1 : 1 ≤ codeO (some x) := by obtain ⟨d, k⟩ := x; have := (codeB_is d).1; show 1 ≤ codeB d; omega
      obtain ⟨c, hc⟩ : ∃ c, codeO (some x) = c := ⟨_, rfl⟩
      rw [hc] at HCode hc1
      have HA0 := HAne.out (by simp)
      have HCut := Lib.hid (fun (W : World) (hW : Gr w3 W) => cutShort_any A HA0 (by omega) LA M _ _ c _ _ hc1 W (by have := HlenT.out; have := HN.out; have := congrArg List.length HM.out; omega) (owns_later HOA.out ((hg2.trans hg3).trans hW)) (owns_cast HM.out (owns_later HOT.out hW)))
      have HW := Lib.hid (fun (W : World) (hW : Gr w3 W) => wakes4_any _ _ W (HS.out.later (hg0.trans hW)))
      clear hc1 hc HBAD HAne HOK
      go_wp2_with fail
      refine wp_region_G (.take 0 (.take 1 (.take 2 (.take 3 (.take 4 (.run 5 false (.run 6 false (.take 7 (.run 8 false (.take 9 (.run 10 true .nil))))))))))) (by kernel_rfl) (by kernel_rfl) ?_
      simp only [pickOps, nthOp]
      intro wq hG
      repeat (first | (refine wpG_skip_take ?_ ?_; (focus rfl); try simp only [Act.put, List.setIfInBounds_toArray, List.set_cons_zero, List.set_cons_succ]) | (refine wpG_skip_run ?_ ?_; (focus rfl); try simp only [Act.put, List.setIfInBounds_toArray, List.set_cons_zero, List.set_cons_succ]) | (refine wpG_take ?_ ?_; (focus rfl); apply Exists.intro; refine ⟨fun w' hw' => ?_, ?_⟩; (focus (have hc := Gr.cells hw'; go_simp; (try rfl); done)); try simp only [Act.put, List.setIfInBounds_toArray, List.set_cons_zero, List.set_cons_succ]) | (refine wpG_run ?_ (fun K hK => ?_); (focus rfl); go_simp; (first | (go_at_call 14; (with_reducible refine (HCode.out _ hG).mono ?_); rintro e w' ⟨rfl, hb⟩) | (go_at_call 13; (with_reducible refine (HCut.out _ hG).mono ?_); rintro e w' ⟨rfl, hb⟩) | (go_at_call 8; (with_reducible refine (HW.out _ hG).mono ?_); rintro e w' ⟨rfl, hb⟩)); (try dsimp only); replace hG := hG.trans hb; refine hK.out _ _ hG ?_; clear hK K hb; try simp only [Act.put, List.setIfInBounds_toArray, List.set_cons_zero, List.set_cons_succ]))
      refine wpG_last ?_ (fun K hK => ?_); (focus rfl)
      have hc := hG.cells
      have hm := hG.marks
      go_simp
      refine hK.out _ _ ?_
      try simp only [Act.put, List.setIfInBounds_toArray, List.set_cons_zero, List.set_cons_succ]
      clear hK K hc hm
      refine wpG_done ?_
      go_wp2
      go_ret
      exact ⟨rfl, hg0.trans hG⟩

end Go.Proofs.YtdjankfcmoblhaaDoor
