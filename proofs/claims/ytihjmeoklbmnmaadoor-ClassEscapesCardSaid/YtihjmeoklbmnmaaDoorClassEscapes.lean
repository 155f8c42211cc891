/- ClassEscapes of bolterlaw3, walked: it answers true. No condition but the errors' variables. Printed by gen_escapes.py. -/
import Derived.Test.YtihjmeoklbmnmaaDoorBackR
import Derived.Deep.DeepCutAuto
namespace Go.Proofs.YtihjmeoklbmnmaaDoor
open Go Go.RowKit

def smallL : List UInt8 := [48, 49, 50, 51, 52, 53, 54, 55, 56, 57, 97, 98, 99, 100, 101, 102]
def greatL : List UInt8 := [48, 49, 50, 51, 52, 53, 54, 55, 56, 57, 65, 66, 67, 68, 69, 70]
def escL (k : Nat) : List UInt8 := [92, 120, smallL.getD (k / 16) 0, greatL.getD (k % 16) 0]
def letterB (k : Nat) : Bool := (decide (97 ≤ k) && decide (k ≤ 122)) || (decide (65 ≤ k) && decide (k ≤ 90)) || (decide (48 ≤ k) && decide (k ≤ 57))
def knownB (k : Nat) : Bool := k == 110 || k == 116 || k == 114 || k == 118 || k == 102 || k == 97 || k == 98 || k == 101 || k == 48
def okB (k : Nat) : Bool := knownB k || (decide (33 ≤ k) && decide (k ≤ 126) && !letterB k)
def Rq.isOk (s r : List UInt8) : Rq → Bool
  | .ok s' r' => s' == s && r' == r
  | .bad _ => false
theorem Rq.of_isOk {s r : List UInt8} : ∀ {x : Rq}, x.isOk s r = true → x = .ok s r
  | .ok s' r', h => by
    unfold Rq.isOk at h
    simp only [Bool.and_eq_true, beq_iff_eq] at h
    rw [h.1, h.2]
  | .bad _, h => by cases h
def Rd.good : Rd → Bool
  | .ok _ _ => true
  | .bad _ _ => false
theorem esc_class_all : ∀ k : Fin 256, (parseP ([91] ++ escL k.1 ++ [93]) 0).isOk (ofList [UInt8.ofNat k.1]) [] = true := by decide +kernel
theorem esc_quote_all : ∀ k : Fin 256, (unquoteP ([34] ++ escL k.1 ++ [34]) 0).isOk [UInt8.ofNat k.1] [] = true := by decide +kernel
theorem esc_self_all : ∀ k : Fin 256, (parseP ([91, 92] ++ [UInt8.ofNat k.1] ++ [93]) 0).good = okB k.1 := by decide +kernel
theorem esc_class (k : Nat) (h : k < 256) : parseP ([91] ++ escL k ++ [93]) 0 = .ok (ofList [UInt8.ofNat k]) [] := Rd.of_isOk (esc_class_all ⟨k, h⟩)
theorem esc_quote (k : Nat) (h : k < 256) : unquoteP ([34] ++ escL k ++ [34]) 0 = .ok [UInt8.ofNat k] [] := Rq.of_isOk (esc_quote_all ⟨k, h⟩)
theorem esc_self (k : Nat) (h : k < 256) : (parseP ([91, 92] ++ [UInt8.ofNat k] ++ [93]) 0).good = okB k := esc_self_all ⟨k, h⟩

theorem small_at : ∀ q : Fin 16, smallL[q.1]? = some (smallL.getD q.1 0) := by decide
theorem great_at : ∀ q : Fin 16, greatL[q.1]? = some (greatL.getD q.1 0) := by decide
theorem parse_good (t : List UInt8) (b : Bool) (es ed : Value) (w : World) (hT : (t.length : Int) ≤ 4294967280) (hS : Sy0 w es ed) (h : (parseP t 0).good = b) :
    Calls Tryd.prog 13 #[.string (st t), .int .i64 0] w fun e w' => (∃ (s : BitVec 256) (m : Int) (er : Value), e = .returned (.tuple #[.agg #[.int .u64 (wd s 0), .int .u64 (wd s 1), .int .u64 (wd s 2), .int .u64 (wd s 3)], .int .i64 m, er]) ∧ ((b = true ∧ er = .nilIface) ∨ (b = false ∧ ∃ ty y, er = .iface ty y))) ∧ Gr w w' := by
  refine (parse_any t 0 es ed w hT hS).mono ?_
  rintro e w' ⟨hg, hm⟩
  refine ⟨?_, hg⟩
  cases hx : parseP t 0 with
  | ok s r => rw [hx] at hm h; subst hm; exact ⟨s, _, _, rfl, .inl ⟨h.symm, rfl⟩⟩
  | bad d r =>
    rw [hx] at hm h
    obtain ⟨er, rfl, hr⟩ := hm
    exact ⟨emptyS, 0, er, rfl, .inr ⟨h.symm, hr.iface⟩⟩

set_option maxRecDepth 100000 in
set_option maxHeartbeats 32000000 in
theorem classEscapes_any (es ed : Value) (w : World) (hS : Sy0 w es ed) : Calls Tryd.prog 6 #[] w fun e w' => e = .returned (.bool true) ∧ Gr w w' := by
  have HS := Lib.hid hS
  clear hS
  go_enter Tryd.func6, Tryd.ntmps6
  go_wp2_with fail
  go_loopw [3] (fun i wr => ∃ k : Nat, k ≤ 256 ∧ i = .int .i64 k ∧ Gr w wr) (fun i _ => 256 - (intOf i).toNat)
  case atStart => exact ⟨0, by omega, rfl, Gr.refl _⟩
  case round =>
    obtain ⟨k, hk, rfl, hg⟩ := hrel
    by_cases hlt : (k : Int) < 256
    rotate_left
    · obtain rfl : k = 256 := by omega
      clear hlt hk
      go_wp2_with (go_at_call 12; (with_reducible refine (wakes_any _ es ed (HS.out.later hg)).mono ?_); rintro e w5 ⟨rfl, hb⟩)
      go_ret
      exact ⟨rfl, hg.trans hb⟩
    have hk256 : k < 256 := by omega
    obtain ⟨q, hq⟩ : ∃ q, k / 16 = q := ⟨_, rfl⟩
    obtain ⟨r, hr⟩ : ∃ r, k % 16 = r := ⟨_, rfl⟩
    have q16 : q < 16 := by omega
    have r16 : r < 16 := by omega
    have eq : (k : Int).tdiv 16 = (q : Int) := by rw [Int.tdiv_eq_ediv_of_nonneg (by omega)]; omega
    have er : (k : Int).tmod 16 = (r : Int) := by rw [Int.tmod_eq_emod_of_nonneg (by omega)]; omega
    have wq0 : IntKind.i64.wrap (q : Int) = (q : Int) := IntWalk.i64_in _ (by omega)
    have wr0 : IntKind.i64.wrap (r : Int) = (r : Int) := IntWalk.i64_in _ (by omega)
    have wq1 : IntKind.i64.wrap ((q : Int) + 1) = (q : Int) + 1 := IntWalk.i64_in _ (by omega)
    have wr1 : IntKind.i64.wrap ((r : Int) + 1) = (r : Int) + 1 := IntWalk.i64_in _ (by omega)
    have wk : IntKind.u8.wrap (k : Int) = (k : Int) := by rw [IntKind.wrap_u8]; omega
    obtain ⟨sq, hsq⟩ : ∃ x, smallL.getD q 0 = x := ⟨_, rfl⟩
    obtain ⟨gr, hgr⟩ : ∃ x, greatL.getD r 0 = x := ⟨_, rfl⟩
    have slq : ∀ w' : World, (Instr.slice 9 (.string { data := #[48, 49, 50, 51, 52, 53, 54, 55, 56, 57, 97, 98, 99, 100, 101, 102] }) (some (.int .i64 (q : Int))) (some (.int .i64 ((q : Int) + 1))) none).run Tryd.prog w' = .ok (.string (st [sq])) w' :=
      fun w' => slice_one (P := Tryd.prog) w' 9 smallL q sq Tryd.underlying9 (by rw [← hsq]; exact small_at ⟨q, q16⟩)
    have slr : ∀ w' : World, (Instr.slice 9 (.string { data := #[48, 49, 50, 51, 52, 53, 54, 55, 56, 57, 65, 66, 67, 68, 69, 70] }) (some (.int .i64 (r : Int))) (some (.int .i64 ((r : Int) + 1))) none).run Tryd.prog w' = .ok (.string (st [gr])) w' :=
      fun w' => slice_one (P := Tryd.prog) w' 9 greatL r gr Tryd.underlying9 (by rw [← hgr]; exact great_at ⟨r, r16⟩)
    have hE : escL k = [92, 120, sq, gr] := by unfold escL; rw [hq, hr, hsq, hgr]
    have c1 := cat_is (P := Tryd.prog) { data := #[92, 120] } (st [sq]) (st [92, 120, sq]) [92, 120] [sq] rfl rfl rfl (by simp)
    have c2 := cat_is (P := Tryd.prog) (st [92, 120, sq]) (st [gr]) (st [92, 120, sq, gr]) [92, 120, sq] [gr] rfl rfl rfl (by simp)
    have h1 := esc_class k hk256
    have h2 := esc_quote k hk256
    have h3 := esc_self k hk256
    rw [hE] at h1 h2
    obtain ⟨E, hEE⟩ : ∃ x, [92, 120, sq, gr] = x := ⟨_, rfl⟩
    rw [hEE] at c2 h1 h2
    have lE : E.length = 4 := by rw [← hEE]; rfl
    obtain ⟨u1, hu1⟩ : ∃ x, [91] ++ E = x := ⟨_, rfl⟩
    have c3 := cat_is (P := Tryd.prog) { data := #[91] } (st E) (st u1) [91] E rfl rfl (by rw [hu1]) (by rw [lE]; simp)
    have l1 : u1.length = 5 := by rw [← hu1, List.length_append, lE]; rfl
    obtain ⟨u2, hu2⟩ : ∃ x, u1 ++ [93] = x := ⟨_, rfl⟩
    have c4 := cat_is (P := Tryd.prog) (st u1) { data := #[93] } (st u2) u1 [93] rfl rfl (by rw [hu2]) (by rw [l1]; simp)
    have l2 : u2.length = 6 := by rw [← hu2, List.length_append, l1]; rfl
    obtain ⟨v1, hv1⟩ : ∃ x, [34] ++ E = x := ⟨_, rfl⟩
    have c5 := cat_is (P := Tryd.prog) { data := #[34] } (st E) (st v1) [34] E rfl rfl (by rw [hv1]) (by rw [lE]; simp)
    have l3 : v1.length = 5 := by rw [← hv1, List.length_append, lE]; rfl
    obtain ⟨v2, hv2⟩ : ∃ x, v1 ++ [34] = x := ⟨_, rfl⟩
    have c6 := cat_is (P := Tryd.prog) (st v1) { data := #[34] } (st v2) v1 [34] rfl rfl (by rw [hv2]) (by rw [l3]; simp)
    have l4 : v2.length = 6 := by rw [← hv2, List.length_append, l3]; rfl
    rw [hu1, hu2] at h1
    rw [hv1, hv2] at h2
    have cvk := fun w' => conv_one (P := Tryd.prog) w' 46 9 5 k Tryd.underlying46 Tryd.underlying5 Tryd.underlying9 hk256
    have hck : (UInt8.ofNat k).toNat = k := UInt8.toNat_ofNat_of_lt' hk256
    obtain ⟨cb, hcb⟩ : ∃ x, UInt8.ofNat k = x := ⟨_, rfl⟩
    rw [hcb] at h1 h2 h3 cvk hck
    obtain ⟨O, hO⟩ : ∃ x, ofList [cb] = x := ⟨_, rfl⟩
    rw [hO] at h1
    have c7 := cat_is (P := Tryd.prog) { data := #[91, 92] } (st [cb]) (st ([91, 92] ++ [cb])) [91, 92] [cb] rfl rfl rfl (by simp)
    have c8 := cat_is (P := Tryd.prog) (st ([91, 92] ++ [cb])) { data := #[93] } (st ([91, 92] ++ [cb] ++ [93])) ([91, 92] ++ [cb]) [93] rfl rfl rfl (by simp)
    obtain ⟨z2, hz2⟩ : ∃ x, [91, 92] ++ [cb] ++ [93] = x := ⟨_, rfl⟩
    rw [hz2] at c8 h3
    have l5 : z2.length = 4 := by rw [← hz2]; rfl
    obtain ⟨z1, hz1⟩ : ∃ x, [91, 92] ++ [cb] = x := ⟨_, rfl⟩
    rw [hz1] at c7 c8
    obtain ⟨ro, hro, hro2, hro3, hro4⟩ := set_runs O
    have hpb := parse_back [] [] ro hro3
    rw [hro2, List.nil_append, List.append_nil] at hpb
    have lbo := bodyL_len ro
    have lT : (textL ro).length ≤ 2400 := by show (91 :: (bodyL ro ++ [93])).length ≤ _; simp; omega
    have TO := Lib.hid (fun w' => text_is O ro hro w')
    obtain ⟨T, hT⟩ : ∃ x, textL ro = x := ⟨_, rfl⟩
    rw [hT] at hpb lT TO
    have P1 := Lib.hid (fun w' h => parse_at u2 0 O [] es ed w' (by omega) h h1 6 (by rw [l2]; rfl))
    have P2 := Lib.hid (fun w' h => unq_at v2 0 [cb] [] es ed w' (by omega) h h2 6 (by rw [l4]; rfl))
    have P3 := Lib.hid (fun w' h => parse_at T 0 O [] es ed w' (by omega) h hpb (T.length : Int) (by simp))
    have P4 := Lib.hid (fun w' h => parse_good z2 (okB k) es ed w' (by omega) h h3)
    have zz := st_list [cb]
    have HO := Lib.hid (And.intro hO hck)
    have HK := Lib.hid hk256
    clear hq hr q16 r16 hsq hgr hE h1 h2 h3 hEE lE hu1 l1 hu2 l2 hv1 l3 hv2 l4 hcb hO hz2 hz1 l5 hro hro2 hro3 hro4 hpb lbo lT hT hk256 hk hck
    go_wp2_with fail
    refine wp_region_G (.take 0 (.take 1 (.take 2 (.take 3 (.take 4 (.take 5 (.take 6 (.take 7 (.take 8 (.take 9 (.take 10 (.take 11 (.take 12 (.take 13 (.take 14 (.take 15 (.run 16 true .nil))))))))))))))))) (by kernel_rfl) (by kernel_rfl) ?_
    simp only [pickOps, nthOp]
    intro wq hG
    repeat (first | (refine wpG_skip_take ?_ ?_; (focus rfl); try simp only [Act.put, List.setIfInBounds_toArray, List.set_cons_zero, List.set_cons_succ]) | (refine wpG_skip_run ?_ ?_; (focus rfl); try simp only [Act.put, List.setIfInBounds_toArray, List.set_cons_zero, List.set_cons_succ]) | (refine wpG_take ?_ ?_; (focus rfl); apply Exists.intro; refine ⟨fun w' hw' => ?_, ?_⟩; (focus (have hc := Gr.cells hw'; go_simp; (try rfl); done)); try simp only [Act.put, List.setIfInBounds_toArray, List.set_cons_zero, List.set_cons_succ]))
    refine wpG_last ?_ (fun K hK => ?_); (focus rfl)
    have hc := hG.cells
    have hm := hG.marks
    go_simp
    refine hK.out _ _ ?_
    try simp only [Act.put, List.setIfInBounds_toArray, List.set_cons_zero, List.set_cons_succ]
    clear hK K hc hm
    refine wpG_done ?_
    replace hg := hg.trans hG
    clear hG
    go_wp2_with fail
    go_at_call 13
    refine (P1.out wq (HS.out.later hg)).mono ?_; rintro e w1 ⟨rfl, hq⟩
    replace hg := hg.trans hq
    clear hq
    go_wp2_with fail
    go_at_call 18
    refine name_calls (fun W1 hW => ?_)
    have x5 : boxAt W1 w1.heap.size [.int .u64 (wd O 0), .int .u64 (wd O 1), .int .u64 (wd O 2), .int .u64 (wd O 3)] := boxAt.new _ _ hW
    have hq : Gr w1 W1 := by rw [hW]; exact Gr.alloc _ _
    replace hg := hg.trans hq
    clear hW hq
    refine (P2.out W1 (HS.out.later hg)).mono ?_; rintro e w2 ⟨rfl, hq⟩
    replace x5 := x5.later hq
    replace hg := hg.trans hq
    clear hq
    go_wp2_with fail
    go_at_call 19
    refine name_calls (fun W2 hW => ?_)
    have hsl : Sl W2 (.slice (some ⟨w2.heap.size, 0, none⟩) 1 1) 1 1 (([cb] : List UInt8).map vB) := by
      rw [hW]
      have := sl_alloc w2 (([cb] : List UInt8).map vB) 5 1 1 rfl (by unfold maxLen; omega)
      simp only [List.map_cons, List.map_nil, vB, HO.out.2] at this ⊢
      exact this
    have hq : Gr w2 W2 := by rw [hW]; exact Gr.alloc _ _
    replace x5 := x5.later hq
    replace hg := hg.trans hq
    clear hW hq
    refine (of_is [cb] O _ W2 hsl HO.out.1).mono ?_; rintro e w3 ⟨rfl, hq⟩
    replace x5 := x5.later hq
    replace hg := hg.trans hq
    clear hq hsl
    go_upto_region 10 with fail
    refine name_world (fun W3 hW => ?_)
    have y11 : boxAt W3 w3.heap.size [.int .u64 (wd O 0), .int .u64 (wd O 1), .int .u64 (wd O 2), .int .u64 (wd O 3)] := boxAt.new _ _ hW
    have hq : Gr w3 W3 := by rw [hW]; exact Gr.alloc _ _
    replace x5 := x5.later hq
    replace hg := hg.trans hq
    clear hW hq
    have c_s0 := x5.cell 0 _ rfl
    have c_s1 := x5.cell 1 _ rfl
    have c_s2 := x5.cell 2 _ rfl
    have c_s3 := x5.cell 3 _ rfl
    have m_s0 := x5.mark 0 _ rfl
    have m_s1 := x5.mark 1 _ rfl
    have m_s2 := x5.mark 2 _ rfl
    have m_s3 := x5.mark 3 _ rfl
    have l_s := x5.lt (Nat.succ_pos _)
    have c_t0 := y11.cell 0 _ rfl
    have c_t1 := y11.cell 1 _ rfl
    have c_t2 := y11.cell 2 _ rfl
    have c_t3 := y11.cell 3 _ rfl
    have m_t0 := y11.mark 0 _ rfl
    have m_t1 := y11.mark 1 _ rfl
    have m_t2 := y11.mark 2 _ rfl
    have m_t3 := y11.mark 3 _ rfl
    have l_t := y11.lt (Nat.succ_pos _)
    go_wp2_with fail
    go_at_call 8
    refine name_calls (fun W4 hW => ?_)
    have hq : Gr W3 W4 := by rw [hW]; exact Gr.alloc _ _
    replace x5 := x5.later hq
    replace y11 := y11.later hq
    replace hg := hg.trans hq
    clear c_s0 c_s1 c_s2 c_s3 m_s0 m_s1 m_s2 m_s3 l_s
    clear c_t0 c_t1 c_t2 c_t3 m_t0 m_t1 m_t2 m_t3 l_t
    clear hW hq
    refine (TO.out W4).mono ?_; rintro e w4 ⟨rfl, hq⟩
    replace y11 := y11.later hq
    replace hg := hg.trans hq
    clear hq x5
    go_wp2_with fail
    go_at_call 13
    refine (P3.out w4 (HS.out.later hg)).mono ?_; rintro e w5 ⟨rfl, hq⟩
    replace y11 := y11.later hq
    replace hg := hg.trans hq
    clear hq
    go_upto_region 13 with fail
    refine name_world (fun W5 hW => ?_)
    have y12 : boxAt W5 w5.heap.size [.int .u64 (wd O 0), .int .u64 (wd O 1), .int .u64 (wd O 2), .int .u64 (wd O 3)] := boxAt.new _ _ hW
    have hq : Gr w5 W5 := by rw [hW]; exact Gr.alloc _ _
    replace y11 := y11.later hq
    replace hg := hg.trans hq
    clear hW hq
    go_wp2_with fail
    go_at_call 13
    refine name_calls (fun W6 hW => ?_)
    have hq : Gr W5 W6 := by rw [hW]; exact Gr.alloc _ _
    replace y11 := y11.later hq
    replace y12 := y12.later hq
    replace hg := hg.trans hq
    clear hW hq
    refine (P4.out W6 (HS.out.later hg)).mono ?_; rintro e w6 ⟨⟨s6, m6, er, rfl, her⟩, hq⟩
    replace y11 := y11.later hq
    replace y12 := y12.later hq
    replace hg := hg.trans hq
    clear hq
    have HER := Lib.hid her
    clear her
    go_upto_region 14 with fail
    refine name_world (fun W7 hW => ?_)
    have hq : Gr w6 W7 := by rw [hW]; exact Gr.refl _
    replace y11 := y11.later hq
    replace y12 := y12.later hq
    replace hg := hg.trans hq
    clear hW hq
    go_cut [14] from 101 to 122 (fun v wx => v = .bool (letterB k) ∧ W7 = wx)
    case first =>
      have HL : Hid (letterB k = ((decide (97 ≤ (k : Int)) && decide ((k : Int) ≤ 122)) || (decide (65 ≤ (k : Int)) && decide ((k : Int) ≤ 90)) || (decide (48 ≤ (k : Int)) && decide ((k : Int) ≤ 57)))) := Lib.hid (by
        unfold letterB
        simp only [show (97 ≤ (k : Int)) = (97 ≤ k) from propext (by omega), show ((k : Int) ≤ 122) = (k ≤ 122) from propext (by omega), show (65 ≤ (k : Int)) = (65 ≤ k) from propext (by omega), show ((k : Int) ≤ 90) = (k ≤ 90) from propext (by omega), show (48 ≤ (k : Int)) = (48 ≤ k) from propext (by omega), show ((k : Int) ≤ 57) = (k ≤ 57) from propext (by omega)])
      by_cases a1 : 97 ≤ (k : Int) <;> by_cases a2 : (k : Int) ≤ 122 <;> by_cases a3 : 65 ≤ (k : Int) <;> by_cases a4 : (k : Int) ≤ 90 <;> by_cases a5 : 48 ≤ (k : Int) <;> by_cases a6 : (k : Int) ≤ 57 <;> first | (exfalso; omega) | skip
      all_goals
        have HB := Lib.hid (show letterB k = (_ : Bool) from by have := HL.out; simp only [a1, a2, a3, a4, a5, a6, decide_true, decide_false, Bool.and_true, Bool.and_false, Bool.or_true, Bool.or_false, Bool.true_and, Bool.false_and] at this; exact this)
        go_wp2_with fail
        go_meet
        case rel => exact ⟨by rw [HB.out], rfl⟩
    case rest =>
    obtain ⟨rfl, rfl⟩ := hcut
    go_upto_region 15 with fail
    go_cut [15] from 123 to 156 (fun v wx => v = .bool (knownB k) ∧ W7 = wx)
    case first =>
      have HL : Hid (knownB k = (((k : Int) == 110) || ((k : Int) == 116) || ((k : Int) == 114) || ((k : Int) == 118) || ((k : Int) == 102) || ((k : Int) == 97) || ((k : Int) == 98) || ((k : Int) == 101) || ((k : Int) == 48))) := Lib.hid (by
        unfold knownB
        simp only [show ((k : Int) == 110) = (k == 110) from by rw [Bool.eq_iff_iff]; simp only [beq_iff_eq]; omega, show ((k : Int) == 116) = (k == 116) from by rw [Bool.eq_iff_iff]; simp only [beq_iff_eq]; omega, show ((k : Int) == 114) = (k == 114) from by rw [Bool.eq_iff_iff]; simp only [beq_iff_eq]; omega, show ((k : Int) == 118) = (k == 118) from by rw [Bool.eq_iff_iff]; simp only [beq_iff_eq]; omega, show ((k : Int) == 102) = (k == 102) from by rw [Bool.eq_iff_iff]; simp only [beq_iff_eq]; omega, show ((k : Int) == 97) = (k == 97) from by rw [Bool.eq_iff_iff]; simp only [beq_iff_eq]; omega, show ((k : Int) == 98) = (k == 98) from by rw [Bool.eq_iff_iff]; simp only [beq_iff_eq]; omega, show ((k : Int) == 101) = (k == 101) from by rw [Bool.eq_iff_iff]; simp only [beq_iff_eq]; omega, show ((k : Int) == 48) = (k == 48) from by rw [Bool.eq_iff_iff]; simp only [beq_iff_eq]; omega])
      by_cases e0 : (k : Int) = 110
      · replace e0 : ((k : Int) == 110) = true := by simp only [beq_iff_eq]; exact e0
        have HB : Hid (knownB k = true) := Lib.hid (by rw [HL.out]; simp only [e0, Bool.or_true, Bool.true_or])
        go_wp2_with fail
        go_meet
        case rel => exact ⟨by rw [HB.out], rfl⟩
      replace e0 : ((k : Int) == 110) = false := by rw [beq_eq_false_iff_ne]; exact e0
      by_cases e1 : (k : Int) = 116
      · replace e1 : ((k : Int) == 116) = true := by simp only [beq_iff_eq]; exact e1
        have HB : Hid (knownB k = true) := Lib.hid (by rw [HL.out]; simp only [e0, e1, Bool.or_true, Bool.true_or])
        go_wp2_with fail
        go_meet
        case rel => exact ⟨by rw [HB.out], rfl⟩
      replace e1 : ((k : Int) == 116) = false := by rw [beq_eq_false_iff_ne]; exact e1
      by_cases e2 : (k : Int) = 114
      · replace e2 : ((k : Int) == 114) = true := by simp only [beq_iff_eq]; exact e2
        have HB : Hid (knownB k = true) := Lib.hid (by rw [HL.out]; simp only [e0, e1, e2, Bool.or_true, Bool.true_or])
        go_wp2_with fail
        go_meet
        case rel => exact ⟨by rw [HB.out], rfl⟩
      replace e2 : ((k : Int) == 114) = false := by rw [beq_eq_false_iff_ne]; exact e2
      by_cases e3 : (k : Int) = 118
      · replace e3 : ((k : Int) == 118) = true := by simp only [beq_iff_eq]; exact e3
        have HB : Hid (knownB k = true) := Lib.hid (by rw [HL.out]; simp only [e0, e1, e2, e3, Bool.or_true, Bool.true_or])
        go_wp2_with fail
        go_meet
        case rel => exact ⟨by rw [HB.out], rfl⟩
      replace e3 : ((k : Int) == 118) = false := by rw [beq_eq_false_iff_ne]; exact e3
      by_cases e4 : (k : Int) = 102
      · replace e4 : ((k : Int) == 102) = true := by simp only [beq_iff_eq]; exact e4
        have HB : Hid (knownB k = true) := Lib.hid (by rw [HL.out]; simp only [e0, e1, e2, e3, e4, Bool.or_true, Bool.true_or])
        go_wp2_with fail
        go_meet
        case rel => exact ⟨by rw [HB.out], rfl⟩
      replace e4 : ((k : Int) == 102) = false := by rw [beq_eq_false_iff_ne]; exact e4
      by_cases e5 : (k : Int) = 97
      · replace e5 : ((k : Int) == 97) = true := by simp only [beq_iff_eq]; exact e5
        have HB : Hid (knownB k = true) := Lib.hid (by rw [HL.out]; simp only [e0, e1, e2, e3, e4, e5, Bool.or_true, Bool.true_or])
        go_wp2_with fail
        go_meet
        case rel => exact ⟨by rw [HB.out], rfl⟩
      replace e5 : ((k : Int) == 97) = false := by rw [beq_eq_false_iff_ne]; exact e5
      by_cases e6 : (k : Int) = 98
      · replace e6 : ((k : Int) == 98) = true := by simp only [beq_iff_eq]; exact e6
        have HB : Hid (knownB k = true) := Lib.hid (by rw [HL.out]; simp only [e0, e1, e2, e3, e4, e5, e6, Bool.or_true, Bool.true_or])
        go_wp2_with fail
        go_meet
        case rel => exact ⟨by rw [HB.out], rfl⟩
      replace e6 : ((k : Int) == 98) = false := by rw [beq_eq_false_iff_ne]; exact e6
      by_cases e7 : (k : Int) = 101
      · replace e7 : ((k : Int) == 101) = true := by simp only [beq_iff_eq]; exact e7
        have HB : Hid (knownB k = true) := Lib.hid (by rw [HL.out]; simp only [e0, e1, e2, e3, e4, e5, e6, e7, Bool.or_true, Bool.true_or])
        go_wp2_with fail
        go_meet
        case rel => exact ⟨by rw [HB.out], rfl⟩
      replace e7 : ((k : Int) == 101) = false := by rw [beq_eq_false_iff_ne]; exact e7
      by_cases e8 : (k : Int) = 48
      · replace e8 : ((k : Int) == 48) = true := by simp only [beq_iff_eq]; exact e8
        have HB : Hid (knownB k = true) := Lib.hid (by rw [HL.out]; simp only [e0, e1, e2, e3, e4, e5, e6, e7, e8, Bool.or_true, Bool.true_or])
        go_wp2_with fail
        go_meet
        case rel => exact ⟨by rw [HB.out], rfl⟩
      replace e8 : ((k : Int) == 48) = false := by rw [beq_eq_false_iff_ne]; exact e8
      have HB : Hid (knownB k = false) := Lib.hid (by rw [HL.out]; simp only [e0, e1, e2, e3, e4, e5, e6, e7, e8, Bool.or_false])
      go_wp2_with fail
      go_meet
      case rel => exact ⟨by rw [HB.out], rfl⟩
    case rest =>
    obtain ⟨rfl, rfl⟩ := hcut
    have c_t0 := y11.cell 0 _ rfl
    have c_t1 := y11.cell 1 _ rfl
    have c_t2 := y11.cell 2 _ rfl
    have c_t3 := y11.cell 3 _ rfl
    have m_t0 := y11.mark 0 _ rfl
    have m_t1 := y11.mark 1 _ rfl
    have m_t2 := y11.mark 2 _ rfl
    have m_t3 := y11.mark 3 _ rfl
    have l_t := y11.lt (Nat.succ_pos _)
    have c_s0 := y12.cell 0 _ rfl
    have c_s1 := y12.cell 1 _ rfl
    have c_s2 := y12.cell 2 _ rfl
    have c_s3 := y12.cell 3 _ rfl
    have m_s0 := y12.mark 0 _ rfl
    have m_s1 := y12.mark 1 _ rfl
    have m_s2 := y12.mark 2 _ rfl
    have m_s3 := y12.mark 3 _ rfl
    have l_s := y12.lt (Nat.succ_pos _)
    have HOK : Hid (okB k = (knownB k || (decide (33 ≤ (k : Int)) && decide ((k : Int) ≤ 126) && !letterB k))) := Lib.hid (by
      unfold okB
      simp only [show (33 ≤ (k : Int)) = (33 ≤ k) from propext (by omega), show ((k : Int) ≤ 126) = (k ≤ 126) from propext (by omega)])
    cases hkn : knownB k with
    | true =>
      have hb : okB k = true := by rw [HOK.out, hkn]; rfl
      have her : er = .nilIface := by rcases HER.out with h | h; exact h.2; have := h.1; rw [hb] at this; cases this
      clear hkn hb
      subst her
      go_wp2_with fail
      go_roundw
      case rel => exact ⟨k + 1, by have := HK.out; omega, by go_num, hg⟩
      case measure => have := HK.out; simp [intOf]; omega
    | false =>
      by_cases a1 : 33 ≤ (k : Int)
      rotate_left
      · have hb : okB k = false := by rw [HOK.out, hkn, decide_eq_false a1]; rfl
        have her : ∃ ty y, er = .iface ty y := by rcases HER.out with h | h; have := h.1; rw [hb] at this; cases this; exact h.2
        obtain ⟨ty, y, rfl⟩ := her
        clear hkn hb
        go_wp2_with fail
        go_roundw
        case rel => exact ⟨k + 1, by have := HK.out; omega, by go_num, hg⟩
        case measure => have := HK.out; simp [intOf]; omega
      by_cases a2 : (k : Int) ≤ 126
      rotate_left
      · have hb : okB k = false := by rw [HOK.out, hkn, decide_eq_false a2]; simp
        have her : ∃ ty y, er = .iface ty y := by rcases HER.out with h | h; have := h.1; rw [hb] at this; cases this; exact h.2
        obtain ⟨ty, y, rfl⟩ := her
        clear hkn hb
        go_wp2_with fail
        go_roundw
        case rel => exact ⟨k + 1, by have := HK.out; omega, by go_num, hg⟩
        case measure => have := HK.out; simp [intOf]; omega
      cases hlk : letterB k with
      | true =>
        have hb : okB k = false := by rw [HOK.out, hkn, hlk]; simp
        have her : ∃ ty y, er = .iface ty y := by rcases HER.out with h | h; have := h.1; rw [hb] at this; cases this; exact h.2
        obtain ⟨ty, y, rfl⟩ := her
        clear hkn hb hlk
        go_wp2_with fail
        go_roundw
        case rel => exact ⟨k + 1, by have := HK.out; omega, by go_num, hg⟩
        case measure => have := HK.out; simp [intOf]; omega
      | false =>
        have hb : okB k = true := by rw [HOK.out, hkn, hlk, decide_eq_true a1, decide_eq_true a2]; rfl
        have her : er = .nilIface := by rcases HER.out with h | h; exact h.2; have := h.1; rw [hb] at this; cases this
        clear hkn hb hlk
        subst her
        go_wp2_with fail
        go_roundw
        case rel => exact ⟨k + 1, by have := HK.out; omega, by go_num, hg⟩
        case measure => have := HK.out; simp [intOf]; omega

end Go.Proofs.YtihjmeoklbmnmaaDoor
