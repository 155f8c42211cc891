/- Texts of mine, put together: SpC. No condition but what each says. -/
import Derived.Test.YtkkopdmemjncdaaGreatDoorPHd
import Derived.Test.YtkkopdmemjncdaaGreatDoorPGa
namespace Go.Proofs.YtkkopdmemjncdaaGreatDoor
open Go Go.RowKit
theorem isE_yes {b : ByteArray} (h : b.size = 0) : b.toList.isEmpty = true := by rw [(toList_nil b).2 h]; rfl
theorem isE_no {b : ByteArray} (h : ¬ b.size = 0) : b.toList.isEmpty = false := by
 cases e : b.toList with
 | nil => exact absurd ((toList_nil b).1 e) h
 | cons a l => rfl
def zeroN (op pos : Int) (s : BitVec 256) (text : ByteArray) (mn mx : Int) (n : Nat) : Bool := (op == 0) && ((pos == 0) && ((s == emptyS) && (text.toList.isEmpty && ((mn == 0) && ((mx == 0) && (n == 0))))))
set_option maxRecDepth 100000 in
set_option maxHeartbeats 2000000 in
theorem noneN_any (op pos : Int) (s : BitVec 256) (text : ByteArray) (mn mx : Int) (pv : Option Addr) (n cv : Nat) (w : World) (_ : n ≤ 9223372036854775807) :
  Calls Tryz.prog 103 #[.agg #[.int .i64 op, .int .i64 pos, .int .u64 (wd s 0), .int .u64 (wd s 1), .int .u64 (wd s 2), .int .u64 (wd s 3), .string text, .int .i64 mn, .int .i64 mx, .slice pv n cv]] w fun e w' => e = .returned (.bool (zeroN op pos s text mn mx n)) ∧ Gr w w' := by
 obtain ⟨b1, h1⟩ : ∃ b, (op == 0) = b := ⟨_, rfl⟩
 obtain ⟨b2, h2⟩ : ∃ b, (pos == 0) = b := ⟨_, rfl⟩
 obtain ⟨b3, h3⟩ : ∃ b, (s == emptyS) = b := ⟨_, rfl⟩
 obtain ⟨b4, h4⟩ : ∃ b, text.toList.isEmpty = b := ⟨_, rfl⟩
 obtain ⟨b5, h5⟩ : ∃ b, (mn == 0) = b := ⟨_, rfl⟩
 obtain ⟨b6, h6⟩ : ∃ b, (mx == 0) = b := ⟨_, rfl⟩
 obtain ⟨b7, h7⟩ : ∃ b, ((n : Int) == 0) = b := ⟨_, rfl⟩
 have H1 := Lib.hid h1
 have H2 := Lib.hid h2
 have H3 := Lib.hid h3
 have H4 := Lib.hid h4
 have H5 := Lib.hid h5
 have H6 := Lib.hid h6
 have H7 := Lib.hid (show (n == 0) = b7 by rw [← h7, Bool.eq_iff_iff]; simp)
 go_enter Tryz.func103, Tryz.ntmps103
 cases b1
 ·
  go_wp2_with fail
  go_ret
  exact ⟨ret_bool (by unfold zeroN; rw [H1.out]; rfl), Gr.alloc _ _⟩
 cases b2
 ·
  go_wp2_with fail
  go_ret
  exact ⟨ret_bool (by unfold zeroN; rw [H1.out, H2.out]; rfl), Gr.alloc _ _⟩
 cases b3
 ·
  go_wp2_with fail
  go_ret
  exact ⟨ret_bool (by unfold zeroN; rw [H1.out, H2.out, H3.out]; rfl), Gr.alloc _ _⟩
 cases b4
 ·
  go_wp2_with fail
  go_ret
  exact ⟨ret_bool (by unfold zeroN; rw [H1.out, H2.out, H3.out, H4.out]; rfl), Gr.alloc _ _⟩
 cases b5
 ·
  go_wp2_with fail
  go_ret
  exact ⟨ret_bool (by unfold zeroN; rw [H1.out, H2.out, H3.out, H4.out, H5.out]; rfl), Gr.alloc _ _⟩
 cases b6
 ·
  go_wp2_with fail
  go_ret
  exact ⟨ret_bool (by unfold zeroN; rw [H1.out, H2.out, H3.out, H4.out, H5.out, H6.out]; rfl), Gr.alloc _ _⟩
 cases b7
 ·
  go_wp2_with fail
  go_ret
  exact ⟨ret_bool (by unfold zeroN; rw [H1.out, H2.out, H3.out, H4.out, H5.out, H6.out, H7.out]; rfl), Gr.alloc _ _⟩
 ·
  go_wp2_with fail
  go_ret
  exact ⟨ret_bool (by unfold zeroN; rw [H1.out, H2.out, H3.out, H4.out, H5.out, H6.out, H7.out]; rfl), Gr.alloc _ _⟩
theorem ExIn.noneN {w : World} {e : Ex} {op pos : Int} {s : BitVec 256} {text : ByteArray} {mn mx : Int} {p : Option Addr} {n c : Nat} (h : ExIn w e (exCells op pos s text mn mx (.slice p n c))) : noneE e = zeroN op pos s text mn mx n := by
 generalize hcs : exCells op pos s text mn mx (.slice p n c) = cs at h
 cases h with
 |
  mk op' pos' s' text' mn' mx' v l _ _ _ _ _ _ hs =>
  obtain ⟨_, _, rfl⟩ := hs.len
  simp only [exCells, List.cons.injEq, Value.int.injEq, Value.string.injEq, Value.slice.injEq, true_and, and_true] at hcs
  obtain ⟨rfl, rfl, h0, h1, h2, h3, rfl, rfl, rfl, _, rfl, _⟩ := hcs
  obtain rfl := wd_ext _ _ h0 h1 h2 h3
  unfold noneE zeroN
  rw [Bool.eq_iff_iff]
  simp only [decide_eq_true_eq, Bool.and_eq_true, beq_iff_eq, List.isEmpty_iff, toList_nil, List.length_map, emptyS]
set_option maxRecDepth 100000 in
set_option maxHeartbeats 2000000 in
theorem countedN_any (op pos : Int) (s : BitVec 256) (text : ByteArray) (mn mx : Int) (pv : Option Addr) (n cv : Nat) (w : World) :
  Calls Tryz.prog 99 #[.agg #[.int .i64 op, .int .i64 pos, .int .u64 (wd s 0), .int .u64 (wd s 1), .int .u64 (wd s 2), .int .u64 (wd s 3), .string text, .int .i64 mn, .int .i64 mx, .slice pv n cv]] w fun e w' => e = .returned (.bool (countedB mn mx)) ∧ Gr w w' := by
 obtain ⟨R, hR⟩ : ∃ R, countedB mn mx = R := ⟨_, rfl⟩
 rw [hR]
 have HR := Lib.hid hR
 clear hR
 by_cases h1 : 0 ≤ mn
 rotate_left
 ·
  have HF := Lib.hid (show R = false by rw [← HR.out]; unfold countedB; rw [Bool.eq_iff_iff]; simp only [Bool.and_eq_true, Bool.or_eq_true, decide_eq_true_eq, Bool.false_eq_true, iff_false]; omega)
  go_enter Tryz.func99, Tryz.ntmps99
  go_wp2_with fail
  go_ret
  exact ⟨ret_bool HF.out.symm, Gr.alloc _ _⟩
 by_cases h2 : mn ≤ 1073741824
 rotate_left
 ·
  have HF := Lib.hid (show R = false by rw [← HR.out]; unfold countedB; rw [Bool.eq_iff_iff]; simp only [Bool.and_eq_true, Bool.or_eq_true, decide_eq_true_eq, Bool.false_eq_true, iff_false]; omega)
  go_enter Tryz.func99, Tryz.ntmps99
  go_wp2_with fail
  go_ret
  exact ⟨ret_bool HF.out.symm, Gr.alloc _ _⟩
 by_cases h3 : mx = -1
 ·
  have HF := Lib.hid (show R = true by rw [← HR.out]; unfold countedB; rw [Bool.eq_iff_iff]; simp only [Bool.and_eq_true, Bool.or_eq_true, decide_eq_true_eq, iff_true, eq_self]; omega)
  subst h3
  go_enter Tryz.func99, Tryz.ntmps99
  go_wp2_with fail
  go_ret
  exact ⟨ret_bool HF.out.symm, Gr.alloc _ _⟩
 have n3 : (mx == -1) = false := by rw [beq_eq_false_iff_ne]; exact h3
 by_cases h4 : mn ≤ mx
 rotate_left
 ·
  have HF := Lib.hid (show R = false by rw [← HR.out]; unfold countedB; rw [Bool.eq_iff_iff]; simp only [Bool.and_eq_true, Bool.or_eq_true, decide_eq_true_eq, Bool.false_eq_true, iff_false]; omega)
  go_enter Tryz.func99, Tryz.ntmps99
  go_wp2_with fail
  go_ret
  exact ⟨ret_bool HF.out.symm, Gr.alloc _ _⟩
 by_cases h5 : mx ≤ 1073741824
 rotate_left
 ·
  have HF := Lib.hid (show R = false by rw [← HR.out]; unfold countedB; rw [Bool.eq_iff_iff]; simp only [Bool.and_eq_true, Bool.or_eq_true, decide_eq_true_eq, Bool.false_eq_true, iff_false]; omega)
  go_enter Tryz.func99, Tryz.ntmps99
  go_wp2_with fail
  go_ret
  exact ⟨ret_bool HF.out.symm, Gr.alloc _ _⟩
 have HF := Lib.hid (show R = true by rw [← HR.out]; unfold countedB; rw [Bool.eq_iff_iff]; simp only [Bool.and_eq_true, Bool.or_eq_true, decide_eq_true_eq, iff_true, eq_self]; omega)
 go_enter Tryz.func99, Tryz.ntmps99
 go_wp2_with fail
 go_ret
 exact ⟨ret_bool HF.out.symm, Gr.alloc _ _⟩
set_option maxRecDepth 100000 in
set_option maxHeartbeats 2000000 in
theorem
    indexF_expr (l : List (Ex × List Value)) (P : Ex → Bool) (q : Nat) (p : Option Addr) (c : Nat) (w : World) (h : Sl w (.slice p l.length c) 10 l.length (l.flatMap (·.2))) (hl : ∀ x ∈ l, x.2.length = 10) (ha : ∀ x ∈ l, ExIn w x.1 x.2)
  (hcl : ∀ x ∈ l, ∀ w', Gr w w' → Calls Tryz.prog 101 #[.agg x.2.toArray, .pointer (some ⟨q, 0, none⟩)] w' fun e w2 => e = .returned (.bool (!P x.1)) ∧ Gr w' w2) :
  Calls Tryz.prog 118 #[.slice p l.length c, .func (.func 101) #[] #[.pointer (some ⟨q, 0, none⟩)]] w fun e w' => (∃ k : Int, e = .returned (.int .i64 k) ∧ decide (0 ≤ k) = !(l.all fun x => P x.1)) ∧ Gr w w' := by
 have hmx := h.2.1
 unfold maxLen at hmx
 have H := Lib.hid h
 have HLEN := Lib.hid hl
 have HA := Lib.hid ha
 have HCL := Lib.hid hcl
 obtain ⟨n, hn⟩ : ∃ n, l.length = n := ⟨_, rfl⟩
 have HN := Lib.hid hn
 rw [hn] at hmx ⊢
 clear h hl ha hcl hn
 go_enter Tryz.func118, Tryz.ntmps118
 go_wp2_with fail
 go_loopw [8] (fun i wr => ∃ k : Nat, k ≤ n ∧ i = .int .i64 (k : Int) ∧ Gr w wr ∧ Hid ((l.take k).all (fun x => P x.1) = true)) (fun i _ => n - (intOf i).toNat)
 case atStart => exact ⟨0, Nat.zero_le _, rfl, Gr.refl _, Lib.hid rfl⟩
 case round =>
  obtain ⟨k, hk, rfl, hg, HAL⟩ := hrel
  rcases Nat.lt_or_ge k n with hkn | hkn
  ·
   obtain ⟨b, off, op, pos, s, text, mn, mx, p2, n2, c2, a, rfl, hb, hx, hin, hat⟩ := args_at H.out HLEN.out HA.out k (by rw [HN.out]; exact hkn)
   obtain ⟨hbr, hcell⟩ := hat wr hg
   unfold exCells at hcell
   have d0 := hcell 0 _ (by omega) rfl
   have d1 := hcell 1 _ (by omega) rfl
   have d2 := hcell 2 _ (by omega) rfl
   have d3 := hcell 3 _ (by omega) rfl
   have d4 := hcell 4 _ (by omega) rfl
   have d5 := hcell 5 _ (by omega) rfl
   have d6 := hcell 6 _ (by omega) rfl
   have d7 := hcell 7 _ (by omega) rfl
   have d8 := hcell 8 _ (by omega) rfl
   have d9 := hcell 9 _ (by omega) rfl
   simp only [Nat.add_zero] at d0
   have HX := Lib.hid hx
   have HKN := Lib.hid hkn
   have hkI : (k : Int) < (n : Int) := by omega
   have HL := Lib.hid (HCL.out _ (List.mem_of_getElem? hx) wr hg)
   unfold exCells at HL
   try dsimp only at HL
   clear hx hk hkn hin hat hcell hb
   cases hb2 : P a
   all_goals
    rw [hb2] at HL
    have YES := Lib.hid (fun h : P a = true => Lib.hid (show (l.take (k + 1)).all (fun x => P x.1) = true by rw [List.take_add_one, HX.out]; simp only [Option.toList_some, List.all_append, HAL.out, List.all_cons, List.all_nil, h, Bool.and_self]))
    have NO := Lib.hid (fun h : P a = false => Lib.hid (show l.all (fun x => P x.1) = false from List.all_eq_false.2 ⟨_, List.mem_of_getElem? HX.out, by dsimp only; rw [h]; simp⟩))
    have HB2 := Lib.hid hb2
    clear hb2
    go_wp2_with fail
    go_at_call 101
    (with_reducible refine HL.out.mono ?_); rintro e w1 ⟨rfl, hb1⟩
    have hg1 := hg.trans hb1
    clear hb1
    go_wp2_with fail
   ·
    go_ret
    exact ⟨⟨k, rfl, by rw [(NO.out HB2.out).out]; simp⟩, hg1⟩
   ·
    go_roundw
    case rel => exact ⟨k + 1, HKN.out, by go_num, hg1, YES.out HB2.out⟩
    case measure => have := HKN.out; simp [intOf]; omega
  ·
   have hkl : ¬ (k : Int) < (n : Int) := by omega
   have HA2 := Lib.hid (show l.all (fun x => P x.1) = true by have := HAL.out; rw [List.take_of_length_le (by have := HN.out; omega)] at this; exact this)
   clear hk hkn HAL
   go_wp2_with fail
   go_ret
   exact ⟨⟨-1, rfl, by rw [HA2.out]; rfl⟩, hg⟩
set_option maxRecDepth 100000 in
theorem containsF_expr (l : List (Ex × List Value)) (P : Ex → Bool) (q : Nat) (p : Option Addr) (c : Nat) (w : World) (h : Sl w (.slice p l.length c) 10 l.length (l.flatMap (·.2))) (hl : ∀ x ∈ l, x.2.length = 10) (ha : ∀ x ∈ l, ExIn w x.1 x.2)
  (hcl : ∀ x ∈ l, ∀ w', Gr w w' → Calls Tryz.prog 101 #[.agg x.2.toArray, .pointer (some ⟨q, 0, none⟩)] w' fun e w2 => e = .returned (.bool (!P x.1)) ∧ Gr w' w2) :
  Calls Tryz.prog 100 #[.slice p l.length c, .func (.func 101) #[] #[.pointer (some ⟨q, 0, none⟩)]] w fun e w' => e = .returned (.bool (!(l.all fun x => P x.1))) ∧ Gr w w' := by
 have HI := Lib.hid (indexF_expr l P q p c w h hl ha hcl)
 clear h hl ha hcl
 go_enter Tryz.func100, Tryz.ntmps100
 go_wp2_with fail
 go_at_call 118
 refine HI.out.mono ?_; rintro e w1 ⟨⟨k, rfl, hk⟩, hg⟩
 have HK := Lib.hid hk
 clear hk
 go_wp2_with fail
 go_ret
 exact ⟨ret_bool HK.out, hg⟩
theorem may_no {deep : Nat} {op pos : Int} {s : BitVec 256} {text : ByteArray} {mn mx : Int} {args : List Ex} (h : flatE deep op pos s text mn mx args.length = false) : mayE deep (.mk op pos s text mn mx args) = false := by rw [mayE, h]; rfl
theorem may_yes {deep : Nat} {op pos : Int} {s : BitVec 256} {text : ByteArray} {mn mx : Int} {args : List Ex} (h : flatE deep op pos s text mn mx args.length = true) : mayE deep (.mk op pos s text mn mx args) = args.all (mayE (deep + 1)) := by rw [mayE, h, Bool.true_and, mayL_all]
set_option maxRecDepth 100000 in
set_option maxHeartbeats 16000000 in
theorem
    may_any : ∀ k, ∀ (e : Ex), SizeOf.sizeOf e ≤ k → ∀ (cs : List Value) (w : World) (d : Nat), ExIn w e cs → d ≤ 2001 →
  Calls Tryz.prog 73 #[.agg cs.toArray, .int .i64 (d : Int)] w fun e' w' => e' = .returned (.bool (mayE d e)) ∧ Gr w w' := by
 intro k
 induction k with
 | zero => intro e h; cases e; simp only [Ex.mk.sizeOf_spec] at h; omega
 |
  succ k ih =>
  intro e hk cs w d he hd
  cases he with
  |
   mk op
      pos s text mn mx v l h1 h2 h3 h4 h5 hlen hs hn hb hargs =>
   obtain ⟨pv, cv, rfl⟩ := hs.len
   have hsz : ∀ p ∈ l, SizeOf.sizeOf p.1 ≤ k := fun p hp => by
    have := Ex.size_arg (.mk op pos s text mn mx (l.map (·.1))) p.1 (List.mem_map.2 ⟨p, hp, rfl⟩)
    omega
   have HCF := Lib.hid (fun (w' : World) (hg : Gr w w') (q : Nat) (hq : boxAt w' q [.int .i64 (d : Int)]) (hd2 : d ≤ 2000) => containsF_expr l (mayE (d + 1)) q pv cv w' (hs.later hg) hlen (fun x hx => (hargs x hx).later hg) (fun x hx w2 hg2 => by
    have HM := Lib.hid (fun w3 (hg3 : Gr w w3) => ih x.1 (hsz x hx) x.2 w3 (d + 1) ((hargs x hx).later hg3) (by omega))
    have hq2 := hq.later hg2
    have hgw := hg.trans hg2
    obtain ⟨o2, p2, s2, t2, mn2, mx2, pp, nn, cc, hx2⟩ := (hargs x hx).formN
    rw [hx2] at HM ⊢
    unfold exCells at HM ⊢
    try dsimp only at HM
    try dsimp only
    have hdI : ((d + 1 : Nat) : Int) = (d : Int) + 1 := by omega
    rw [hdI] at HM
    clear ih hargs hsz hlen hs hx2
    go_enter Tryz.func101, Tryz.ntmps101
    have c_q0 := hq2.cell 0 _ rfl
    have m_q0 := hq2.mark 0 _ rfl
    have l_q := hq2.lt (Nat.succ_pos _)
    go_wp2_with fail
    refine name_calls (fun W hW => ?_)
    have hgW : Gr w2 W := by rw [hW]; exact Gr.alloc _ _
    clear hW
    go_at_call 73
    (with_reducible refine (HM.out W (hgw.trans hgW)).mono ?_); rintro e w4 ⟨rfl, hb4⟩
    go_wp2_with fail
    go_ret
    exact ⟨rfl, hgW.trans hb4⟩))
   obtain ⟨n, hn0⟩ : ∃ n, l.length = n := ⟨_, rfl⟩
   have HLN := Lib.hid (show (l.map (·.1)).length = n by rw [List.length_map]; exact hn0)
   have hnm : n ≤ 9223372036854775807 := by omega
   have HALL := Lib.hid (show (l.all fun x => mayE (d + 1) x.1) = (l.map (·.1)).all (mayE (d + 1)) by rw [List.all_map]; rfl)
   rw [hn0] at HCF ⊢
   have HNM := Lib.hid (fun w' => namedS_any text w' h5)
   have HPL := Lib.hid (fun w' => placedS_any pos w')
   have HCO := Lib.hid (fun w' => countedN_any op pos s text mn mx pv n cv w')
   have HNO := Lib.hid (fun (h : flatE d op pos s text mn mx n = false) => may_no (deep := d) (op := op) (pos := pos) (s := s) (text := text) (mn := mn) (mx := mx) (args := l.map (·.1)) (by rw [HLN.out]; exact h))
   have HYES := Lib.hid (fun (h : flatE d op pos s text mn mx n = true) => may_yes (deep := d) (op := op) (pos := pos) (s := s) (text := text) (mn := mn) (mx := mx) (args := l.map (·.1)) (by rw [HLN.out]; exact h))
   obtain ⟨R, hR⟩ : ∃ R, mayE d (.mk op pos s text mn mx (l.map (·.1))) = R := ⟨_, rfl⟩
   rw [hR] at HNO HYES ⊢
   clear ih hk h1 h2 h3 h4 h5 hlen hs hn hb hargs hsz hn0 hR
   unfold exCells
   by_cases hdd : 2000 < d
   ·
    have hdI : (2000 : Int) < (d : Int) := by omega
    have HF := Lib.hid (HNO.out (by unfold flatE; rw [decide_eq_false (by omega)]; rfl))
    go_enter Tryz.func73, Tryz.ntmps73
    go_wp2_with fail
    go_ret
    exact ⟨ret_bool HF.out.symm, (Gr.alloc _ _).trans (Gr.alloc _ _)⟩
   have hdI : ¬ (2000 : Int) < (d : Int) := by omega
   have hd2 : d ≤ 2000 := by omega
   have e1 : decide (d ≤ 2000) = true := decide_eq_true hd2
   have HD2 := Lib.hid hd2
   have HE1 := Lib.hid e1
   clear e1
   go_enter Tryz.func73, Tryz.ntmps73
   go_wp2_with fail
   refine name_calls (fun W hW => ?_)
   have xb : boxAt W w.heap.size [.int .i64 op, .int .i64 pos, .int .u64 (wd s 0), .int .u64 (wd s 1), .int .u64 (wd s 2), .int .u64 (wd s 3), .string text, .int .i64 mn, .int .i64 mx, .slice pv n cv] := by rw [hW]; exact (boxAt.new [.int .i64 op, .int .i64 pos, .int .u64 (wd s 0), .int .u64 (wd s 1), .int .u64 (wd s 2), .int .u64 (wd s 3), .string text, .int .i64 mn, .int .i64 mx, .slice pv n cv] _ rfl).later (Gr.alloc _ _)
   have xd : boxAt W (w.heap.size + 1) [.int .i64 (d : Int)] := by rw [hW]; exact boxAt.new_atN _ _ _ rfl (by simp)
   have hgW : Gr w W := by rw [hW]; exact (Gr.alloc _ _).trans (Gr.alloc _ _)
   clear hW
   obtain ⟨c_e0, c_e1, c_e2, c_e3, c_e4, c_e5, c_e6, c_e7, c_e8, c_e9, m_e0, m_e1, m_e2, m_e3, m_e4, m_e5, m_e6, m_e7, m_e8, m_e9, l_e⟩ := unb10 xb
   have c_f0 := xd.cell 0 _ rfl
   have m_f0 := xd.mark 0 _ rfl
   have l_f := xd.lt (Nat.succ_pos _)
   go_at_call 72
   (with_reducible refine (HPL.out W).mono ?_); rintro e w1 ⟨rfl, rfl⟩
   cases hp : placedB pos with
   |
    false =>
    have HF := Lib.hid (HNO.out (by unfold flatE; rw [HE1.out, hp]; rfl))
    go_wp2_with fail
    go_ret
    exact ⟨ret_bool HF.out.symm, hgW⟩
   |
    true =>
    have HP := Lib.hid hp
    clear hp
    have HST : Hid (∀ b : Bool, (s == emptyS) = b → decide (s = 0#256) = b) := Lib.hid (fun b h => by rw [← h, Bool.eq_iff_iff]; simp [emptyS])
    obtain ⟨bs, hbs⟩ : ∃ b, (s == emptyS) = b := ⟨_, rfl⟩
    have HS0 := Lib.hid (HST.out bs hbs)
    clear HST
    rcases (show op = 1 ∨ op = 2 ∨ op = 3 ∨ op = 4 ∨ op = 5 ∨ op = 6 ∨ op = 7 ∨ (op ≠ 1 ∧ op ≠ 2 ∧ op ≠ 3 ∧ op ≠ 4 ∧ op ≠ 5 ∧ op ≠ 6 ∧ op ≠ 7) from by omega) with rfl | rfl | rfl | rfl | rfl | rfl | rfl | ⟨o1, o2, o3, o4, o5, o6, o7⟩
    ·
     cases bs
     ·
      have HF := Lib.hid (HNO.out (by unfold flatE kindE; simp [HE1.out, HP.out, HS0.out]))
      go_wp2_with fail
      go_ret
      exact ⟨ret_bool HF.out.symm, hgW⟩
     by_cases h_mn : mn = 0
     rotate_left
     ·
      have HF := Lib.hid (HNO.out (by unfold flatE kindE; simp [HE1.out, HP.out, HS0.out, h_mn]))
      have z_mn : (mn != 0) = true := by rw [bne_iff_ne]; exact h_mn
      clear h_mn
      go_wp2_with fail
      go_ret
      exact ⟨ret_bool HF.out.symm, hgW⟩
     have z_mn : (mn != 0) = false := by rw [h_mn]; rfl
     have H_mn := Lib.hid h_mn
     clear h_mn
     by_cases h_mx : mx = 0
     rotate_left
     ·
      have HF := Lib.hid (HNO.out (by unfold flatE kindE; simp [HE1.out, HP.out, HS0.out, H_mn.out, h_mx]))
      have z_mx : (mx != 0) = true := by rw [bne_iff_ne]; exact h_mx
      clear h_mx
      go_wp2_with fail
      go_ret
      exact ⟨ret_bool HF.out.symm, hgW⟩
     have z_mx : (mx != 0) = false := by rw [h_mx]; rfl
     have H_mx := Lib.hid h_mx
     clear h_mx
     by_cases h_tx : text.size = 0
     rotate_left
     ·
      have HF := Lib.hid (HNO.out (by unfold flatE kindE; simp [HE1.out, HP.out, HS0.out, H_mn.out, H_mx.out, h_tx]))
      have z_tx : text.toList.isEmpty = false := isE_no h_tx
      clear h_tx
      go_wp2_with fail
      go_ret
      exact ⟨ret_bool HF.out.symm, hgW⟩
     have z_tx : text.toList.isEmpty = true := isE_yes h_tx
     have H_tx := Lib.hid h_tx
     clear h_tx
     by_cases h_n0 : n = 0
     rotate_left
     ·
      have HF := Lib.hid (HNO.out (by unfold flatE kindE; simp [HE1.out, HP.out, HS0.out, H_mn.out, H_mx.out, H_tx.out, h_n0]))
      have z_n0 : ((n : Int) == 0) = false := by rw [beq_eq_false_iff_ne]; omega
      clear h_n0
      go_wp2_with fail
      go_ret
      exact ⟨ret_bool HF.out.symm, hgW⟩
     subst h_n0
     have HF := Lib.hid ((HYES.out (by unfold flatE kindE; simp [HE1.out, HP.out, HS0.out, H_mn.out, H_mx.out, H_tx.out])).trans HALL.out.symm)
     go_wp2_with fail
     go_at_call 100
     (with_reducible refine (HCF.out _ hgW _ xd HD2.out).mono ?_); rintro e w2 ⟨rfl, hb2⟩
     go_wp2_with fail
     go_ret
     exact ⟨ret_bool (by rw [HF.out]; try simp), hgW.trans hb2⟩
    ·
     by_cases h_mn : mn = 0
     rotate_left
     ·
      have HF := Lib.hid (HNO.out (by unfold flatE kindE; simp [HE1.out, HP.out, h_mn]))
      have z_mn : (mn != 0) = true := by rw [bne_iff_ne]; exact h_mn
      clear h_mn
      go_wp2_with fail
      go_ret
      exact ⟨ret_bool HF.out.symm, hgW⟩
     have z_mn : (mn != 0) = false := by rw [h_mn]; rfl
     have H_mn := Lib.hid h_mn
     clear h_mn
     by_cases h_mx : mx = 0
     rotate_left
     ·
      have HF := Lib.hid (HNO.out (by unfold flatE kindE; simp [HE1.out, HP.out, H_mn.out, h_mx]))
      have z_mx : (mx != 0) = true := by rw [bne_iff_ne]; exact h_mx
      clear h_mx
      go_wp2_with fail
      go_ret
      exact ⟨ret_bool HF.out.symm, hgW⟩
     have z_mx : (mx != 0) = false := by rw [h_mx]; rfl
     have H_mx := Lib.hid h_mx
     clear h_mx
     by_cases h_tx : text.size = 0
     rotate_left
     ·
      have HF := Lib.hid (HNO.out (by unfold flatE kindE; simp [HE1.out, HP.out, H_mn.out, H_mx.out, h_tx]))
      have z_tx : text.toList.isEmpty = false := isE_no h_tx
      clear h_tx
      go_wp2_with fail
      go_ret
      exact ⟨ret_bool HF.out.symm, hgW⟩
     have z_tx : text.toList.isEmpty = true := isE_yes h_tx
     have H_tx := Lib.hid h_tx
     clear h_tx
     by_cases h_n0 : n = 0
     rotate_left
     ·
      have HF := Lib.hid (HNO.out (by unfold flatE kindE; simp [HE1.out, HP.out, H_mn.out, H_mx.out, H_tx.out, h_n0]))
      have z_n0 : ((n : Int) == 0) = false := by rw [beq_eq_false_iff_ne]; omega
      clear h_n0
      go_wp2_with fail
      go_ret
      exact ⟨ret_bool HF.out.symm, hgW⟩
     subst h_n0
     have HF := Lib.hid ((HYES.out (by unfold flatE kindE; simp [HE1.out, HP.out, H_mn.out, H_mx.out, H_tx.out])).trans HALL.out.symm)
     go_wp2_with fail
     go_at_call 100
     (with_reducible refine (HCF.out _ hgW _ xd HD2.out).mono ?_); rintro e w2 ⟨rfl, hb2⟩
     go_wp2_with fail
     go_ret
     exact ⟨ret_bool (by rw [HF.out]; try simp), hgW.trans hb2⟩
    ·
     cases bs
     ·
      have HF := Lib.hid (HNO.out (by unfold flatE kindE; simp [HE1.out, HP.out, HS0.out]))
      go_wp2_with fail
      go_ret
      exact ⟨ret_bool HF.out.symm, hgW⟩
     by_cases h_mn : mn = 0
     rotate_left
     ·
      have HF := Lib.hid (HNO.out (by unfold flatE kindE; simp [HE1.out, HP.out, HS0.out, h_mn]))
      have z_mn : (mn != 0) = true := by rw [bne_iff_ne]; exact h_mn
      clear h_mn
      go_wp2_with fail
      go_ret
      exact ⟨ret_bool HF.out.symm, hgW⟩
     have z_mn : (mn != 0) = false := by rw [h_mn]; rfl
     have H_mn := Lib.hid h_mn
     clear h_mn
     by_cases h_mx : mx = 0
     rotate_left
     ·
      have HF := Lib.hid (HNO.out (by unfold flatE kindE; simp [HE1.out, HP.out, HS0.out, H_mn.out, h_mx]))
      have z_mx : (mx != 0) = true := by rw [bne_iff_ne]; exact h_mx
      clear h_mx
      go_wp2_with fail
      go_ret
      exact ⟨ret_bool HF.out.symm, hgW⟩
     have z_mx : (mx != 0) = false := by rw [h_mx]; rfl
     have H_mx := Lib.hid h_mx
     clear h_mx
     by_cases h_n0 : n = 0
     rotate_left
     ·
      have HF := Lib.hid (HNO.out (by unfold flatE kindE; simp [HE1.out, HP.out, HS0.out, H_mn.out, H_mx.out, h_n0]))
      have z_n0 : ((n : Int) == 0) = false := by rw [beq_eq_false_iff_ne]; omega
      clear h_n0
      go_wp2_with fail
      go_ret
      exact ⟨ret_bool HF.out.symm, hgW⟩
     subst h_n0
     by_cases h_tn : text.size ≠ 0
     rotate_left
     ·
      have HF := Lib.hid (HNO.out (by unfold flatE kindE; simp [HE1.out, HP.out, HS0.out, H_mn.out, H_mx.out, h_tn]))
      have z_tn : text.toList.isEmpty = true := isE_yes (Classical.not_not.1 h_tn)
      clear h_tn
      go_wp2_with fail
      go_ret
      exact ⟨ret_bool HF.out.symm, hgW⟩
     have z_tn : text.toList.isEmpty = false := isE_no h_tn
     have H_tn := Lib.hid h_tn
     clear h_tn
     have HF := Lib.hid ((HYES.out (by unfold flatE kindE; simp [HE1.out, HP.out, HS0.out, H_mn.out, H_mx.out, H_tn.out])).trans HALL.out.symm)
     go_wp2_with fail
     go_at_call 100
     (with_reducible refine (HCF.out _ hgW _ xd HD2.out).mono ?_); rintro e w2 ⟨rfl, hb2⟩
     go_wp2_with fail
     go_ret
     exact ⟨ret_bool (by rw [HF.out]; try simp [z_tn]), hgW.trans hb2⟩
    ·
     cases bs
     ·
      have HF := Lib.hid (HNO.out (by unfold flatE kindE; simp [HE1.out, HP.out, HS0.out]))
      go_wp2_with fail
      go_ret
      exact ⟨ret_bool HF.out.symm, hgW⟩
     by_cases h_mn : mn = 0
     rotate_left
     ·
      have HF := Lib.hid (HNO.out (by unfold flatE kindE; simp [HE1.out, HP.out, HS0.out, h_mn]))
      have z_mn : (mn != 0) = true := by rw [bne_iff_ne]; exact h_mn
      clear h_mn
      go_wp2_with fail
      go_ret
      exact ⟨ret_bool HF.out.symm, hgW⟩
     have z_mn : (mn != 0) = false := by rw [h_mn]; rfl
     have H_mn := Lib.hid h_mn
     clear h_mn
     by_cases h_mx : mx = 0
     rotate_left
     ·
      have HF := Lib.hid (HNO.out (by unfold flatE kindE; simp [HE1.out, HP.out, HS0.out, H_mn.out, h_mx]))
      have z_mx : (mx != 0) = true := by rw [bne_iff_ne]; exact h_mx
      clear h_mx
      go_wp2_with fail
      go_ret
      exact ⟨ret_bool HF.out.symm, hgW⟩
     have z_mx : (mx != 0) = false := by rw [h_mx]; rfl
     have H_mx := Lib.hid h_mx
     clear h_mx
     by_cases h_n0 : n = 0
     rotate_left
     ·
      have HF := Lib.hid (HNO.out (by unfold flatE kindE; simp [HE1.out, HP.out, HS0.out, H_mn.out, H_mx.out, h_n0]))
      have z_n0 : ((n : Int) == 0) = false := by rw [beq_eq_false_iff_ne]; omega
      clear h_n0
      go_wp2_with fail
      go_ret
      exact ⟨ret_bool HF.out.symm, hgW⟩
     subst h_n0
     cases hnm : namedB text
     ·
      have HF := Lib.hid (HNO.out (by unfold flatE kindE; simp [HE1.out, HP.out, HS0.out, H_mn.out, H_mx.out, hnm]))
      have HNB := Lib.hid (hnm ▸ HNM.out)
      clear hnm
      go_wp2_with fail
      go_at_call 71
      (with_reducible refine (HNB.out _).mono ?_); rintro e w1 ⟨rfl, rfl⟩
      go_wp2_with fail
      go_ret
      exact ⟨ret_bool HF.out.symm, hgW⟩
     have HNA := Lib.hid hnm
     have HNB := Lib.hid (hnm ▸ HNM.out)
     clear hnm
     have HF := Lib.hid ((HYES.out (by unfold flatE kindE; simp [HE1.out, HP.out, HS0.out, H_mn.out, H_mx.out, HNA.out])).trans HALL.out.symm)
     go_wp2_with fail
     go_at_call 71
     (with_reducible refine (HNB.out _).mono ?_); rintro e w1 ⟨rfl, rfl⟩
     go_wp2_with fail
     go_at_call 100
     (with_reducible refine (HCF.out _ hgW _ xd HD2.out).mono ?_); rintro e w2 ⟨rfl, hb2⟩
     go_wp2_with fail
     go_ret
     exact ⟨ret_bool (by rw [HF.out]; try simp), hgW.trans hb2⟩
    ·
     cases bs
     ·
      have HF := Lib.hid (HNO.out (by unfold flatE kindE; simp [HE1.out, HP.out, HS0.out]))
      go_wp2_with fail
      go_ret
      exact ⟨ret_bool HF.out.symm, hgW⟩
     by_cases h_mn : mn = 0
     rotate_left
     ·
      have HF := Lib.hid (HNO.out (by unfold flatE kindE; simp [HE1.out, HP.out, HS0.out, h_mn]))
      have z_mn : (mn != 0) = true := by rw [bne_iff_ne]; exact h_mn
      clear h_mn
      go_wp2_with fail
      go_ret
      exact ⟨ret_bool HF.out.symm, hgW⟩
     have z_mn : (mn != 0) = false := by rw [h_mn]; rfl
     have H_mn := Lib.hid h_mn
     clear h_mn
     by_cases h_mx : mx = 0
     rotate_left
     ·
      have HF := Lib.hid (HNO.out (by unfold flatE kindE; simp [HE1.out, HP.out, HS0.out, H_mn.out, h_mx]))
      have z_mx : (mx != 0) = true := by rw [bne_iff_ne]; exact h_mx
      clear h_mx
      go_wp2_with fail
      go_ret
      exact ⟨ret_bool HF.out.symm, hgW⟩
     have z_mx : (mx != 0) = false := by rw [h_mx]; rfl
     have H_mx := Lib.hid h_mx
     clear h_mx
     by_cases h_tx : text.size = 0
     rotate_left
     ·
      have HF := Lib.hid (HNO.out (by unfold flatE kindE; simp [HE1.out, HP.out, HS0.out, H_mn.out, H_mx.out, h_tx]))
      have z_tx : text.toList.isEmpty = false := isE_no h_tx
      clear h_tx
      go_wp2_with fail
      go_ret
      exact ⟨ret_bool HF.out.symm, hgW⟩
     have z_tx : text.toList.isEmpty = true := isE_yes h_tx
     have H_tx := Lib.hid h_tx
     clear h_tx
     by_cases h_n2 : 1 < n
     rotate_left
     ·
      have HF := Lib.hid (HNO.out (by unfold flatE kindE; simp [HE1.out, HP.out, HS0.out, H_mn.out, H_mx.out, H_tx.out, h_n2]))
      have z_n2 : ¬ (1 : Int) < (n : Int) := by omega
      clear h_n2
      go_wp2_with fail
      go_ret
      exact ⟨ret_bool HF.out.symm, hgW⟩
     have z_n2 : (1 : Int) < (n : Int) := by omega
     have H_n2 := Lib.hid h_n2
     clear h_n2
     have HF := Lib.hid ((HYES.out (by unfold flatE kindE; simp [HE1.out, HP.out, HS0.out, H_mn.out, H_mx.out, H_tx.out, H_n2.out])).trans HALL.out.symm)
     go_wp2_with fail
     go_at_call 100
     (with_reducible refine (HCF.out _ hgW _ xd HD2.out).mono ?_); rintro e w2 ⟨rfl, hb2⟩
     go_wp2_with fail
     go_ret
     exact ⟨ret_bool (by rw [HF.out]; try simp), hgW.trans hb2⟩
    ·
     cases bs
     ·
      have HF := Lib.hid (HNO.out (by unfold flatE kindE; simp [HE1.out, HP.out, HS0.out]))
      go_wp2_with fail
      go_ret
      exact ⟨ret_bool HF.out.symm, hgW⟩
     by_cases h_mn : mn = 0
     rotate_left
     ·
      have HF := Lib.hid (HNO.out (by unfold flatE kindE; simp [HE1.out, HP.out, HS0.out, h_mn]))
      have z_mn : (mn != 0) = true := by rw [bne_iff_ne]; exact h_mn
      clear h_mn
      go_wp2_with fail
      go_ret
      exact ⟨ret_bool HF.out.symm, hgW⟩
     have z_mn : (mn != 0) = false := by rw [h_mn]; rfl
     have H_mn := Lib.hid h_mn
     clear h_mn
     by_cases h_mx : mx = 0
     rotate_left
     ·
      have HF := Lib.hid (HNO.out (by unfold flatE kindE; simp [HE1.out, HP.out, HS0.out, H_mn.out, h_mx]))
      have z_mx : (mx != 0) = true := by rw [bne_iff_ne]; exact h_mx
      clear h_mx
      go_wp2_with fail
      go_ret
      exact ⟨ret_bool HF.out.symm, hgW⟩
     have z_mx : (mx != 0) = false := by rw [h_mx]; rfl
     have H_mx := Lib.hid h_mx
     clear h_mx
     by_cases h_tx : text.size = 0
     rotate_left
     ·
      have HF := Lib.hid (HNO.out (by unfold flatE kindE; simp [HE1.out, HP.out, HS0.out, H_mn.out, H_mx.out, h_tx]))
      have z_tx : text.toList.isEmpty = false := isE_no h_tx
      clear h_tx
      go_wp2_with fail
      go_ret
      exact ⟨ret_bool HF.out.symm, hgW⟩
     have z_tx : text.toList.isEmpty = true := isE_yes h_tx
     have H_tx := Lib.hid h_tx
     clear h_tx
     by_cases h_n2 : 1 < n
     rotate_left
     ·
      have HF := Lib.hid (HNO.out (by unfold flatE kindE; simp [HE1.out, HP.out, HS0.out, H_mn.out, H_mx.out, H_tx.out, h_n2]))
      have z_n2 : ¬ (1 : Int) < (n : Int) := by omega
      clear h_n2
      go_wp2_with fail
      go_ret
      exact ⟨ret_bool HF.out.symm, hgW⟩
     have z_n2 : (1 : Int) < (n : Int) := by omega
     have H_n2 := Lib.hid h_n2
     clear h_n2
     have HF := Lib.hid ((HYES.out (by unfold flatE kindE; simp [HE1.out, HP.out, HS0.out, H_mn.out, H_mx.out, H_tx.out, H_n2.out])).trans HALL.out.symm)
     go_wp2_with fail
     go_at_call 100
     (with_reducible refine (HCF.out _ hgW _ xd HD2.out).mono ?_); rintro e w2 ⟨rfl, hb2⟩
     go_wp2_with fail
     go_ret
     exact ⟨ret_bool (by rw [HF.out]; try simp), hgW.trans hb2⟩
    ·
     cases bs
     ·
      have HF := Lib.hid (HNO.out (by unfold flatE kindE; simp [HE1.out, HP.out, HS0.out]))
      go_wp2_with fail
      go_ret
      exact ⟨ret_bool HF.out.symm, hgW⟩
     by_cases h_tx : text.size = 0
     rotate_left
     ·
      have HF := Lib.hid (HNO.out (by unfold flatE kindE; simp [HE1.out, HP.out, HS0.out, h_tx]))
      have z_tx : text.toList.isEmpty = false := isE_no h_tx
      clear h_tx
      go_wp2_with fail
      go_ret
      exact ⟨ret_bool HF.out.symm, hgW⟩
     have z_tx : text.toList.isEmpty = true := isE_yes h_tx
     have H_tx := Lib.hid h_tx
     clear h_tx
     by_cases h_n1 : n = 1
     rotate_left
     ·
      have HF := Lib.hid (HNO.out (by unfold flatE kindE; simp [HE1.out, HP.out, HS0.out, H_tx.out, h_n1]))
      have z_n1 : ((n : Int) == 1) = false := by rw [beq_eq_false_iff_ne]; omega
      clear h_n1
      go_wp2_with fail
      go_ret
      exact ⟨ret_bool HF.out.symm, hgW⟩
     subst h_n1
     cases hco : countedB mn mx
     ·
      have HF := Lib.hid (HNO.out (by unfold flatE kindE; simp [HE1.out, HP.out, HS0.out, H_tx.out, hco]))
      have HCB := Lib.hid (hco ▸ HCO.out)
      clear hco
      go_wp2_with fail
      go_at_call 99
      (with_reducible refine (HCB.out _).mono ?_); rintro e w1 ⟨rfl, hb1⟩
      go_wp2_with fail
      go_ret
      exact ⟨ret_bool HF.out.symm, hgW.trans hb1⟩
     have HCA := Lib.hid hco
     have HCB := Lib.hid (hco ▸ HCO.out)
     clear hco
     have HF := Lib.hid ((HYES.out (by unfold flatE kindE; simp [HE1.out, HP.out, HS0.out, H_tx.out, HCA.out])).trans HALL.out.symm)
     go_wp2_with fail
     go_at_call 99
     (with_reducible refine (HCB.out _).mono ?_); rintro e w1 ⟨rfl, hb1⟩
     replace hgW := hgW.trans hb1
     replace xb := xb.later hb1
     replace xd := xd.later hb1
     clear c_e0 c_e1 c_e2 c_e3 c_e4 c_e5 c_e6 c_e7 c_e8 c_e9 m_e0 m_e1 m_e2 m_e3 m_e4 m_e5 m_e6 m_e7 m_e8 m_e9 l_e
     clear c_f0 m_f0 l_f
     obtain ⟨c_e0, c_e1, c_e2, c_e3, c_e4, c_e5, c_e6, c_e7, c_e8, c_e9, m_e0, m_e1, m_e2, m_e3, m_e4, m_e5, m_e6, m_e7, m_e8, m_e9, l_e⟩ := unb10 xb
     have c_f0 := xd.cell 0 _ rfl
     have m_f0 := xd.mark 0 _ rfl
     have l_f := xd.lt (Nat.succ_pos _)
     go_wp2_with fail
     go_at_call 100
     (with_reducible refine (HCF.out _ hgW _ xd HD2.out).mono ?_); rintro e w2 ⟨rfl, hb2⟩
     go_wp2_with fail
     go_ret
     exact ⟨ret_bool (by rw [HF.out]; try simp), hgW.trans hb2⟩
    ·
     have HO1 := Lib.hid o1
     have p1 : (op == 1) = false := by rw [beq_eq_false_iff_ne]; exact o1
     have r1 : (op != 1) = true := by rw [bne_iff_ne]; exact o1
     have HO2 := Lib.hid o2
     have p2 : (op == 2) = false := by rw [beq_eq_false_iff_ne]; exact o2
     have r2 : (op != 2) = true := by rw [bne_iff_ne]; exact o2
     have HO3 := Lib.hid o3
     have p3 : (op == 3) = false := by rw [beq_eq_false_iff_ne]; exact o3
     have r3 : (op != 3) = true := by rw [bne_iff_ne]; exact o3
     have HO4 := Lib.hid o4
     have p4 : (op == 4) = false := by rw [beq_eq_false_iff_ne]; exact o4
     have r4 : (op != 4) = true := by rw [bne_iff_ne]; exact o4
     have HO5 := Lib.hid o5
     have p5 : (op == 5) = false := by rw [beq_eq_false_iff_ne]; exact o5
     have r5 : (op != 5) = true := by rw [bne_iff_ne]; exact o5
     have HO6 := Lib.hid o6
     have p6 : (op == 6) = false := by rw [beq_eq_false_iff_ne]; exact o6
     have r6 : (op != 6) = true := by rw [bne_iff_ne]; exact o6
     have HO7 := Lib.hid o7
     have p7 : (op == 7) = false := by rw [beq_eq_false_iff_ne]; exact o7
     have r7 : (op != 7) = true := by rw [bne_iff_ne]; exact o7
     clear o1 o2 o3 o4 o5 o6 o7
     cases bs
     ·
      have HF := Lib.hid (HNO.out (by unfold flatE kindE; simp [HE1.out, HP.out, HO1.out, HO2.out, HO3.out, HO4.out, HO5.out, HO6.out, HO7.out, HS0.out]))
      go_wp2_with fail
      go_ret
      exact ⟨ret_bool HF.out.symm, hgW⟩
     by_cases h_mn : mn = 0
     rotate_left
     ·
      have HF := Lib.hid (HNO.out (by unfold flatE kindE; simp [HE1.out, HP.out, HO1.out, HO2.out, HO3.out, HO4.out, HO5.out, HO6.out, HO7.out, HS0.out, h_mn]))
      have z_mn : (mn != 0) = true := by rw [bne_iff_ne]; exact h_mn
      clear h_mn
      go_wp2_with fail
      go_ret
      exact ⟨ret_bool HF.out.symm, hgW⟩
     have z_mn : (mn != 0) = false := by rw [h_mn]; rfl
     have H_mn := Lib.hid h_mn
     clear h_mn
     by_cases h_mx : mx = 0
     rotate_left
     ·
      have HF := Lib.hid (HNO.out (by unfold flatE kindE; simp [HE1.out, HP.out, HO1.out, HO2.out, HO3.out, HO4.out, HO5.out, HO6.out, HO7.out, HS0.out, H_mn.out, h_mx]))
      have z_mx : (mx != 0) = true := by rw [bne_iff_ne]; exact h_mx
      clear h_mx
      go_wp2_with fail
      go_ret
      exact ⟨ret_bool HF.out.symm, hgW⟩
     have z_mx : (mx != 0) = false := by rw [h_mx]; rfl
     have H_mx := Lib.hid h_mx
     clear h_mx
     by_cases h_tx : text.size = 0
     rotate_left
     ·
      have HF := Lib.hid (HNO.out (by unfold flatE kindE; simp [HE1.out, HP.out, HO1.out, HO2.out, HO3.out, HO4.out, HO5.out, HO6.out, HO7.out, HS0.out, H_mn.out, H_mx.out, h_tx]))
      have z_tx : text.toList.isEmpty = false := isE_no h_tx
      clear h_tx
      go_wp2_with fail
      go_ret
      exact ⟨ret_bool HF.out.symm, hgW⟩
     have z_tx : text.toList.isEmpty = true := isE_yes h_tx
     have H_tx := Lib.hid h_tx
     clear h_tx
     have HF := Lib.hid (HNO.out (by unfold flatE kindE; simp [HE1.out, HP.out, HO1.out, HO2.out, HO3.out, HO4.out, HO5.out, HO6.out, HO7.out, HS0.out, H_mn.out, H_mx.out, H_tx.out]))
     go_wp2_with fail
     go_ret
     exact ⟨ret_bool HF.out.symm, hgW⟩
end Go.Proofs.YtkkopdmemjncdaaGreatDoor
