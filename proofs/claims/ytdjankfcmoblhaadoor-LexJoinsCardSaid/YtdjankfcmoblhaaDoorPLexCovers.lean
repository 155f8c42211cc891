/- LexCovers of bolterlaw4 answers true. No condition but the errors' variables. -/
import Derived.Test.YtdjankfcmoblhaaDoorPGg
namespace Go.Proofs.YtdjankfcmoblhaaDoor
open Go Go.RowKit

theorem lexF_len (l : List UInt8) (a : Nat) : (lexF l a).1.length ≤ l.length := by
  refine lex_cases (M := fun l _ L _ => L.length ≤ l.length) ?_ ?_ ?_ ?_ ?_ l a
  · intro a; simp
  · intro c y a L e _ _ h; rw [List.length_cons]; omega
  · intro p y a L e _ _ _ h; simp; omega
  · intro p y kd tx n s a L e hP _ _ h; have := hP.pos; simp; omega
  · intro l a d k _; simp
/-- Lexemes in a row. -/
theorem lex_row {w : World} {B : Nat} {v : Value} {L : List Tok} (h : w.ownsRow B 32 9 v L.length (L.flatMap tokC)) :
    ∃ p cap, v = .slice p L.length cap ∧ ∀ i x, L[i]? = some x → ∃ b, p = some ⟨b, 0, none⟩ ∧ b < w.heap.size ∧ ∀ j u, (tokC x)[j]? = some u → w.cell? ⟨b, i * 9 + j, none⟩ = some u := by
  rcases Nat.eq_zero_or_pos L.length with h0 | h0
  · obtain ⟨p, cap, rfl⟩ := (Sl.of_owns h).len
    exact ⟨p, cap, rfl, fun i x hx => by rw [List.eq_nil_of_length_eq_zero h0] at hx; cases hx⟩
  · obtain ⟨g, cap, rfl, _, hg, _⟩ := owns_block h h0
    refine ⟨_, cap, rfl, fun i x hx => ⟨g, rfl, hg, fun j u hj => ?_⟩⟩
    have hj9 : j < 9 := by
      rcases Nat.lt_or_ge j 9 with h | h
      · exact h
      · rw [List.getElem?_eq_none (by rw [tokC_len]; exact h)] at hj; cases hj
    exact owns_cell h _ _ (by rw [flatMap_get tokC 9 tokC_len L i j x hx hj9]; exact hj)

set_option maxRecDepth 100000 in
set_option maxHeartbeats 8000000 in
theorem lexCovers_any (t : List UInt8) (es ed : Value) (w : World) (hT : (t.length : Int) ≤ 9223372036854775807) (hS : Sy0 w es ed) : Calls Tryd.prog 3 #[.string (st t)] w fun e w' => e = .returned (.bool true) ∧ Gr w w' := by
  have hsz := st_size t
  have HS := Lib.hid hS
  clear hS
  by_cases hlong : (t.length : Int) > 6000
  · have h1 : 6000 < t.length := by omega
    go_enter Tryd.func3, Tryd.ntmps3
    go_wp2_with (go_at_call 8; (with_reducible refine (wakes4_any es ed _ HS.out).mono ?_); rintro e w1 ⟨rfl, hg⟩)
    go_ret
    exact ⟨rfl, hg⟩
  · have h1 : ¬ 6000 < t.length := by omega
    have hle : t.length ≤ 6000 := by omega
    have HL := Lib.hid (lex_any t es ed w (by omega) HS.out)
    have HCov := Lib.hid (cov_lex t 0)
    have HLen := Lib.hid (lexF_len t 0)
    obtain ⟨X, hX⟩ : ∃ X, lexF t 0 = X := ⟨_, rfl⟩
    rw [hX] at HL HCov HLen
    clear hX hlong hT
    go_enter Tryd.func3, Tryd.ntmps3
    go_wp2_with fail
    go_at_call 9
    refine HL.out.mono ?_
    rintro e w1 ⟨hg, v, hown, hend⟩
    obtain ⟨L, er⟩ := X
    obtain ⟨p0, cap, rfl, hrow⟩ := lex_row hown
    obtain ⟨err, rfl, HNone⟩ : ∃ err, e = .returned (.tuple #[.slice p0 L.length cap, err]) ∧ Hid ((er = none ∧ err = .nilIface) ∨ ∃ ty y, err = .iface ty y) := by
      cases er with
      | none => exact ⟨_, hend, Lib.hid (.inl ⟨rfl, rfl⟩)⟩
      | some dk =>
        obtain ⟨er, he, hr⟩ := hend
        obtain ⟨ty, y, rfl⟩ := hr.iface
        exact ⟨_, he, Lib.hid (.inr ⟨_, _, rfl⟩)⟩
    clear hend
    simp only at hown hrow HCov HLen
    have HROW := Lib.hid hrow
    have hLl : L.length ≤ 6000 := by have := HLen.out; omega
    clear hown hrow HL
    go_wp2_with fail
    go_loopw [5, 6] (fun av iv wr => ∃ (i a : Nat), av = .int .i64 (a : Int) ∧ iv = .int .i64 (i : Int) ∧ i ≤ L.length ∧ a ≤ t.length ∧ Hid (Cov (t.drop a) a (L.drop i) er) ∧ Gr w1 wr) (fun _ iv _ => L.length - (intOf iv).toNat)
    case atStart => exact ⟨0, 0, rfl, rfl, Nat.zero_le _, Nat.zero_le _, HCov, Gr.refl _⟩
    case round =>
      obtain ⟨i, a, rfl, rfl, hi, ha, hC, hr⟩ := hrel
      cases hx : L[i]? with
      | none =>
        have hil : i = L.length := by
          rcases Nat.lt_or_ge i L.length with h | h
          · rw [List.getElem?_eq_getElem h] at hx; cases hx
          · omega
        subst hil
        have HC0 : Hid (er = none → passedP (t.drop a) = true) := Lib.hid (by have := hC.out; rw [List.drop_length] at this; exact this)
        clear hx hC hi
        have hgw := hg.trans hr
        rcases HNone.out with ⟨he, rfl⟩ | ⟨ty, y, rfl⟩
        · have hpas := Lib.hid (fun w => HC0.out he ▸ passed_any (t.drop a) w (by rw [List.length_drop]; omega))
          have hsl := fun w' => run_from (P := Tryd.prog) w' 9 t a .i64 Tryd.underlying9 ha
          clear he
          go_wp2_with first
            | (go_at_call 10; (with_reducible refine (hpas.out _).mono ?_); rintro e w9 ⟨rfl, rfl⟩)
            | (go_at_call 8; (with_reducible refine (wakes4_any es ed _ (HS.out.later hgw)).mono ?_); rintro e w8 ⟨rfl, hg8⟩)
          go_ret
          exact ⟨rfl, hgw.trans hg8⟩
        · go_wp2_with (go_at_call 8; (with_reducible refine (wakes4_any es ed _ (HS.out.later hgw)).mono ?_); rintro e w8 ⟨rfl, hg8⟩)
          go_ret
          exact ⟨rfl, hgw.trans hg8⟩
      | some x =>
        obtain ⟨b, rfl, hb, hcell⟩ := HROW.out i x hx
        have hil : i < L.length := (List.getElem?_eq_some_iff.1 hx).1
        have hdrop : L.drop i = x :: L.drop (i + 1) := by rw [List.drop_eq_getElem_cons hil]; congr 1; exact (List.getElem?_eq_some_iff.1 hx).2
        have hC2 := hC.out
        rw [hdrop] at hC2
        obtain ⟨g, p, y, h0, hA, hE, hpg, _, hP, _, hC3⟩ := hC2
        have hlen : (t.drop a).length = t.length - a := List.length_drop
        have hdl : t.length - a = g.length + (p.length + y.length) := by rw [← hlen, h0]; simp
        have hpp := hP.pos
        have eg : (t.drop a).take (x.at' - a) = g := by rw [hA, h0, show a + g.length - a = g.length by omega, List.take_left]
        have edA : t.drop x.at' = p ++ y := by rw [hA, ← List.drop_drop, h0, List.drop_left]
        have ep : (t.drop x.at').take (x.fin - x.at') = p := by rw [edA, hE, hA, show a + g.length + p.length - (a + g.length) = p.length by omega, List.take_left]
        have edE : t.drop x.fin = y := by rw [show x.fin = x.at' + p.length by omega, ← List.drop_drop, edA, List.drop_left]
        have hslG := fun w' => run_sub (P := Tryd.prog) w' 9 t a x.at' Tryd.underlying9 (by omega) (by omega)
        have hslP := fun w' => run_sub (P := Tryd.prog) w' 9 t x.at' x.fin Tryd.underlying9 (by omega) (by omega)
        rw [eg] at hslG
        rw [ep] at hslP
        have hk0 := hcell 0 _ rfl
        have hk1 := hcell 1 _ rfl
        have hk2 := hcell 2 _ rfl
        have hk3 := hcell 3 _ rfl
        have hk4 := hcell 4 _ rfl
        obtain ⟨A, hAA⟩ : ∃ A, x.at' = A := ⟨_, rfl⟩
        obtain ⟨E, hEE⟩ : ∃ E, x.fin = E := ⟨_, rfl⟩
        rw [hAA] at hslG hslP hk1
        rw [hEE] at hslP hk2 edE hC3
        have HC4 : Hid (Cov (t.drop E) E (L.drop (i + 1)) er) := Lib.hid (by rw [edE]; exact hC3)
        have hAE : a ≤ A ∧ A < E ∧ E ≤ t.length ∧ E = A + p.length := by omega
        have q0 := hr.cell hk0
        have q1 := hr.cell hk1
        have q2 := hr.cell hk2
        have q3 := hr.cell hk3
        have q4 := hr.cell hk4
        rw [Nat.add_zero] at q0
        have hbr : b < wr.heap.size := Nat.lt_of_lt_of_le hb hr.size
        have n1 : ¬ A < a := by omega
        have n2 : ¬ E ≤ A := by omega
        have n3 : ¬ t.length < E := by omega
        have n1I : ¬ (A : Int) < (a : Int) := by omega
        have n2I : ¬ (E : Int) ≤ (A : Int) := by omega
        have n3I : ¬ (t.length : Int) < (E : Int) := by omega
        have hiI : (i : Int) < (L.length : Int) := by omega
        have hpas := Lib.hid (fun w => hpg ▸ passed_any g w (by omega))
        have HP := Lib.hid hP
        have HAE := Lib.hid hAE
        have HLT := Lib.hid hil
        have HR := Lib.hid hr
        clear h0 hA hE hpg hP hC hC3 hlen hdl hpp eg edA ep edE hAA hEE hAE hk0 hk1 hk2 hk3 hk4 hcell hx hdrop hil hi ha hb hr
        go_wp2_with fail
        refine wp_region_G (.take 0 (.take 1 (.take 2 (.take 3 (.take 4 (.take 5 (.take 6 (.take 7 (.take 8 (.take 9 (.take 10 (.take 11 (.take 12 (.take 13 (.take 14 (.take 15 (.take 16 (.take 17 (.take 18 (.take 19 (.take 20 (.take 21 (.take 22 (.take 23 (.take 24 (.take 25 (.take 26 (.take 27 (.take 28 (.take 29 (.take 30 (.take 31 (.take 32 (.take 33 (.take 34 (.take 35 (.take 36 (.take 37 (.take 38 (.run 39 false (.take 40 (.take 41 .nil)))))))))))))))))))))))))))))))))))))))))) (by kernel_rfl) (by kernel_rfl) ?_
        simp only [pickOps, nthOp]
        intro wq hG
        repeat (first | (refine wpG_skip_take ?_ ?_; (focus rfl); try simp only [Act.put, List.setIfInBounds_toArray, List.set_cons_zero, List.set_cons_succ]) | (refine wpG_skip_run ?_ ?_; (focus rfl); try simp only [Act.put, List.setIfInBounds_toArray, List.set_cons_zero, List.set_cons_succ]) | (refine wpG_take ?_ ?_; (focus rfl); apply Exists.intro; refine ⟨fun w' hw' => ?_, ?_⟩; (focus (have hc := Gr.cells hw'; go_simp; (try rfl); done)); try simp only [Act.put, List.setIfInBounds_toArray, List.set_cons_zero, List.set_cons_succ]) | (refine wpG_run ?_ (fun K hK => ?_); (focus rfl); go_simp; (first | (go_at_call 10; (with_reducible refine (hpas.out _).mono ?_); rintro e w9 ⟨rfl, hw9⟩; have hb : Gr wq w9 := (by rw [hw9]; exact Gr.refl _); clear hw9)); (try dsimp only); replace hG := hG.trans hb; refine hK.out _ _ hG ?_; clear hK K hb; try simp only [Act.put, List.setIfInBounds_toArray, List.set_cons_zero, List.set_cons_succ]))
        refine wpG_done ?_
        go_wp2_with fail
        refine wp_region_B hG (.take 0 (.take 1 (.take 2 (.take 3 (.take 4 (.take 5 (.take 6 (.take 7 (.take 8 (.take 9 (.take 10 (.take 11 (.run 12 true .nil))))))))))))) (by kernel_rfl) (by kernel_rfl) ?_
        simp only [pickOps, nthOp]
        clear hG; intro wq hG
        repeat (first | (refine wpG_skip_take ?_ ?_; (focus rfl); try simp only [Act.put, List.setIfInBounds_toArray, List.set_cons_zero, List.set_cons_succ]) | (refine wpG_skip_run ?_ ?_; (focus rfl); try simp only [Act.put, List.setIfInBounds_toArray, List.set_cons_zero, List.set_cons_succ]) | (refine wpG_take ?_ ?_; (focus rfl); apply Exists.intro; refine ⟨fun w' hw' => ?_, ?_⟩; (focus (have hc := Gr.cells hw'; go_simp; (try rfl); done)); try simp only [Act.put, List.setIfInBounds_toArray, List.set_cons_zero, List.set_cons_succ]))
        refine wpG_last ?_ (fun K hK => ?_); (focus rfl)
        have hc := hG.cells
        have hm := hG.marks
        go_simp
        refine hK.out _ _ ?_
        try simp only [Act.put, List.setIfInBounds_toArray, List.set_cons_zero, List.set_cons_succ]
        clear hK K hc hm
        refine wpG_done ?_
        have k0 := hG.cell q0
        have k2 := hG.cell q2
        have k3 := hG.cell q3
        have k4 := hG.cell q4
        have hiw : IntKind.i64.wrap ((i : Int) + 1) = ((i + 1 : Nat) : Int) := by rw [IntWalk.i64_in _ (by have := HLT.out; omega)]; omega
        have HG := Lib.hid (HR.out.trans hG)
        clear q0 q1 q2 q3 q4 hG hbr n1 n2 n3 n1I n2I n3I hslG hslP hpas
        have ek0 : ∀ m : Nat, x.kd = m → wq.cell? ⟨b, i * 9, none⟩ = some (.int .i64 (m : Int)) := fun m h => h ▸ k0
        have hszp := st_size p
        clear k0
        rcases HP.out with ⟨hk, htx, _⟩ | ⟨hk, _, hn, _, ⟨c, q, hpq, hc⟩, _⟩ | ⟨hk, _, _, q, hpq, _⟩ | ⟨hk, _, _, ⟨hpq, _⟩ | ⟨q, hpq, _⟩⟩ | ⟨hk, htx, _⟩ | ⟨hk, _, _, _, hpq⟩
        · rw [htx] at k3
          have k0 : wq.cell? ⟨b, i * 9, none⟩ = some (.int .i64 1) := ek0 1 hk
          clear ek0 hk htx
          go_wp2_with fail
          go_roundw
          case rel => exact ⟨i + 1, E, rfl, by go_num, by have := HLT.out; omega, HAE.out.2.2.1, HC4, HG.out⟩
          case measure => have := HLT.out; simp [intOf]; omega
        · have hix0 : ∀ w', (Instr.index 9 (.string (st p)) (.int .i64 0)).run Tryd.prog w' = .ok (.int .u8 (c.toNat : Int)) w' := fun w' => run_at (P := Tryd.prog) w' 9 p 0 c .i64 Tryd.underlying9 (by rw [hpq]; rfl)
          unfold digC at hc
          simp only [Bool.and_eq_true, decide_eq_true_eq] at hc
          have d1 : (48 : Int) ≤ (c.toNat : Int) := by omega
          have d2 : (c.toNat : Int) ≤ 57 := by omega
          have d3 : (0 : Int) ≤ (x.n : Int) := by omega
          have d4 : (x.n : Int) ≤ 1073741824 := by have := numP_le p; omega
          have k0 : wq.cell? ⟨b, i * 9, none⟩ = some (.int .i64 2) := ek0 2 hk
          clear ek0 hk hpq hc hn
          go_wp2_with fail
          go_roundw
          case rel => exact ⟨i + 1, E, rfl, by go_num, by have := HLT.out; omega, HAE.out.2.2.1, HC4, HG.out⟩
          case measure => have := HLT.out; simp [intOf]; omega
        · have hix0 : ∀ w', (Instr.index 9 (.string (st p)) (.int .i64 0)).run Tryd.prog w' = .ok (.int .u8 34) w' := fun w' => run_at (P := Tryd.prog) w' 9 p 0 34 .i64 Tryd.underlying9 (by rw [hpq]; rfl)
          have hpl : p.length = q.length + 2 := by rw [hpq]; simp
          obtain ⟨m, hm⟩ : ∃ m, q.length + 1 = m := ⟨_, rfl⟩
          have hixm : ∀ w', (Instr.index 9 (.string (st p)) (.int .i64 (m : Int))).run Tryd.prog w' = .ok (.int .u8 34) w' := fun w' => run_at (P := Tryd.prog) w' 9 p m 34 .i64 Tryd.underlying9 (by rw [hpq, ← hm, List.getElem?_cons_succ]; simp)
          have hwm : IntKind.i64.wrap ((p.length : Int) - 1) = (m : Int) := by have := HAE.out; rw [IntWalk.i64_in _ (by omega)]; omega
          have h2 : 2 ≤ p.length := by omega
          have h2I : 2 ≤ (p.length : Int) := by omega
          have k0 : wq.cell? ⟨b, i * 9, none⟩ = some (.int .i64 3) := ek0 3 hk
          clear ek0 hk hpq hpl hm
          go_wp2_with fail
          go_roundw
          case rel => exact ⟨i + 1, E, rfl, by go_num, by have := HLT.out; omega, HAE.out.2.2.1, HC4, HG.out⟩
          case measure => have := HLT.out; simp [intOf]; omega
        · subst hpq
          have e46 := st_list [46]
          have k0 : wq.cell? ⟨b, i * 9, none⟩ = some (.int .i64 4) := ek0 4 hk
          clear ek0 hk
          go_wp2_with fail
          go_roundw
          case rel => exact ⟨i + 1, E, rfl, by go_num, by have := HLT.out; omega, HAE.out.2.2.1, HC4, HG.out⟩
          case measure => have := HLT.out; simp [intOf]; omega
        · have hix0 : ∀ w', (Instr.index 9 (.string (st p)) (.int .i64 0)).run Tryd.prog w' = .ok (.int .u8 91) w' := fun w' => run_at (P := Tryd.prog) w' 9 p 0 91 .i64 Tryd.underlying9 (by rw [hpq]; rfl)
          have hpl : p.length = q.length + 2 := by rw [hpq]; simp
          obtain ⟨m, hm⟩ : ∃ m, q.length + 1 = m := ⟨_, rfl⟩
          have hixm : ∀ w', (Instr.index 9 (.string (st p)) (.int .i64 (m : Int))).run Tryd.prog w' = .ok (.int .u8 93) w' := fun w' => run_at (P := Tryd.prog) w' 9 p m 93 .i64 Tryd.underlying9 (by rw [hpq, ← hm, List.getElem?_cons_succ]; simp)
          have hwm : IntKind.i64.wrap ((p.length : Int) - 1) = (m : Int) := by have := HAE.out; rw [IntWalk.i64_in _ (by omega)]; omega
          have hne : ¬ p = [46] := by rw [hpq]; simp
          have hst := st_list p
          have k0 : wq.cell? ⟨b, i * 9, none⟩ = some (.int .i64 4) := ek0 4 hk
          clear ek0 hk hpq hpl hm
          go_wp2_with fail
          go_roundw
          case rel => exact ⟨i + 1, E, rfl, by go_num, by have := HLT.out; omega, HAE.out.2.2.1, HC4, HG.out⟩
          case measure => have := HLT.out; simp [intOf]; omega
        · rw [htx] at k3
          have k0 : wq.cell? ⟨b, i * 9, none⟩ = some (.int .i64 5) := ek0 5 hk
          clear ek0 hk htx
          go_wp2_with fail
          go_roundw
          case rel => exact ⟨i + 1, E, rfl, by go_num, by have := HLT.out; omega, HAE.out.2.2.1, HC4, HG.out⟩
          case measure => have := HLT.out; simp [intOf]; omega
        · subst hpq
          have e10 := st_list [10]
          have k0 : wq.cell? ⟨b, i * 9, none⟩ = some (.int .i64 6) := ek0 6 hk
          clear ek0 hk
          go_wp2_with fail
          go_roundw
          case rel => exact ⟨i + 1, E, rfl, by go_num, by have := HLT.out; omega, HAE.out.2.2.1, HC4, HG.out⟩
          case measure => have := HLT.out; simp [intOf]; omega

end Go.Proofs.YtdjankfcmoblhaaDoor
