/- Texts of mine, put together: IrM, IrN, IrO. No condition but what each says. -/
import Derived.Test.YtcbfmajojkcibaaDoorIrP
import Derived.Test.YtcbfmajojkcibaaDoorPImgG
import Derived.Test.YtcbfmajojkcibaaDoorPImgH
import Derived.Test.YtcbfmajojkcibaaDoorPImgJ

/- bolterref17's reader: num. No condition but that the bytes lie elsewhere than the reader. -/
namespace Go.Proofs.YtcbfmajojkcibaaDoor
open Go Go.RowKit

/-- The reader of bolterref17: what is left, and whether something was wrong. -/
structure RdS (w : World) (rb g : Nat) (s : St17) : Prop where
  box : ∃ o c, boxAt w rb [.slice (some ⟨g, o, none⟩) s.1.length c, .bool s.2] ∧ s.1.length ≤ c ∧ ∀ (j : Nat) (x : UInt8), s.1[j]? = some x → w.cell? ⟨g, o + j, none⟩ = some (vB x)
  apart : g ≠ rb
  small : s.1.length ≤ 70368744177664
  lt : g < w.heap.size
theorem RdS.later {w w' : World} {rb g : Nat} {s : St17} (h : RdS w rb g s) (hG : Gr w w') : RdS w' rb g s := by
  obtain ⟨o, c, h1, h2, h3⟩ := h.box
  exact ⟨⟨o, c, h1.later hG, h2, fun j x hj => hG.cell (h3 j x hj)⟩, h.apart, h.small, Nat.lt_of_lt_of_le h.lt hG.size⟩
/-- How num ends. -/
def NumEnd17 (w : World) (rb g : Nat) (s : St17) (most : Nat) (e : Ending) (w' : World) : Prop :=
  e = .returned (.int .i64 ((numS most s).1 : Int)) ∧ RdS w' rb g (numS most s).2 ∧ KpP rb w w'
theorem rds_bad {w : World} {rb g : Nat} {s : St17} (h : RdS w rb g s) : RdS (w.setCell ⟨rb, 1, none⟩ (.bool true)) rb g (s.1, true) := by
  obtain ⟨o, c, h1, h2, h3⟩ := h.box
  refine ⟨⟨o, c, h1.put 1 _ (by simp), h2, fun j x hj => ?_⟩, h.apart, h.small, by simp [World.setCell]; exact h.lt⟩
  rw [World.cell?_setCell_other]
  · exact h3 j x hj
  · intro e
    injection e with e1 _
    exact h.apart e1.symm
theorem rds_drop {w : World} {rb g o c : Nat} {l : List UInt8} (k : Nat) (h1 : boxAt w rb [.slice (some ⟨g, o, none⟩) l.length c, .bool false]) (h2 : l.length ≤ c) (h3 : ∀ (j : Nat) (x : UInt8), l[j]? = some x → w.cell? ⟨g, o + j, none⟩ = some (vB x))
    (ha : g ≠ rb) (hs : l.length ≤ 70368744177664) (hl : g < w.heap.size) (hk : k ≤ l.length) (a : Nat) (hak : a = o + k ∨ c = k) : RdS (w.setCell ⟨rb, 0, none⟩ (.slice (some ⟨g, a, none⟩) (l.length - k) (c - k))) rb g (l.drop k, false) := by
  refine ⟨⟨a, c - k, ?_, ?_, fun j x hj => ?_⟩, ha, ?_, by simp [World.setCell]; exact hl⟩
  · dsimp only
    rw [List.length_drop]
    exact h1.put 0 _ (by simp)
  · dsimp only
    rw [List.length_drop]; omega
  · dsimp only at hj
    have hjl := (List.getElem?_eq_some_iff.1 hj).1
    rw [List.length_drop] at hjl
    rw [List.getElem?_drop] at hj
    rw [World.cell?_setCell_other]
    · rcases hak with rfl | rfl
      · rw [Nat.add_assoc]; exact h3 (k + j) x hj
      · omega
    · intro e
      injection e with e1 _
      exact ha e1.symm
  · dsimp only
    rw [List.length_drop]; omega

set_option maxRecDepth 100000 in
set_option maxHeartbeats 300000 in
theorem num17_any (w : World) (rb g : Nat) (s : St17) (most : Nat) (h : RdS w rb g s) (hm : most ≤ 262144) :
    Calls Tryd.prog 69 #[.pointer (some ⟨rb, 0, none⟩), .int .i64 (most : Int)] w (NumEnd17 w rb g s most) := by
  obtain ⟨L, bad⟩ := s
  have H := Lib.hid h
  obtain ⟨o, c, xr, hlc, hcs⟩ := h.box
  have hsm := h.small
  have hgr := h.apart
  have hgl := h.lt
  dsimp only at xr hlc hcs hsm
  have HCS := Lib.hid hcs
  clear h hcs
  have NONE := Lib.hid (fun (hn : bad = false → numR most L = none) => (show NumEnd17 w rb g (L, bad) most (.returned (.int .i64 0)) (w.setCell ⟨rb, 1, none⟩ (.bool true)) from by
    have e : numS most (L, bad) = (0, (L, true)) := by
      cases bad with
      | true => rfl
      | false => unfold numS; rw [hn rfl]; rfl
    unfold NumEnd17
    rw [e]
    exact ⟨rfl, rds_bad H.out, (KpP.refl _ _).at_p 1 _⟩))
  cases bad with
  | true =>
    have Z := Lib.hid (NONE.out (fun h => by cases h))
    clear NONE
    go_enter Tryd.func69, Tryd.ntmps69
    have c_e0 := xr.cell 0 _ rfl
    have c_e1 := xr.cell 1 _ rfl
    have m_e0 := xr.mark 0 _ rfl
    have m_e1 := xr.mark 1 _ rfl
    have l_e := xr.lt (Nat.succ_pos _)
    go_wp2_with fail
    refine wp_loop_rounds 1 ?_
    rw [rounds_succ]
    by_cases h0 : (0 : Int) < (L.length : Int)
    all_goals
      go_wp2_with fail
      go_ret
      exact Z.out
  | false =>
    go_enter Tryd.func69, Tryd.ntmps69
    have c_e0 := xr.cell 0 _ rfl
    have c_e1 := xr.cell 1 _ rfl
    have m_e0 := xr.mark 0 _ rfl
    have m_e1 := xr.mark 1 _ rfl
    have l_e := xr.lt (Nat.succ_pos _)
    go_wp2_with fail
    go_loopw [5, 6, 7, 8] (fun n u i _ wr => ∃ (j acc U : Nat), n = .int .i64 (acc : Int) ∧ u = .int .i64 (U : Int) ∧ i = .int .i64 (j : Int) ∧ U = 128 ^ j ∧ acc < U ∧ j ≤ 4 ∧ j ≤ L.length ∧ w = wr ∧ Hid (rdV L = combV j acc (rdV (L.drop j)))) (fun _ _ i _ _ => 4 - (intOf i).toNat)
    case atStart => exact ⟨0, 0, 1, rfl, rfl, rfl, rfl, by omega, by omega, Nat.zero_le _, rfl, Lib.hid (by rw [combV_zero]; rfl)⟩
    case round =>
      obtain ⟨j, acc, U, rfl, rfl, rfl, hU, hacc, hj, hjl, rfl, HE⟩ := hrel
      by_cases hend : j = L.length ∨ j = 4
      · have hn : numR most L = none := by
          unfold numR
          rw [HE.out]
          rcases hend with he | he
          · rw [he, List.drop_length]; rfl
          · subst he
            cases rdV (L.drop 4) with
            | none => rfl
            | some y =>
              obtain ⟨m, r⟩ := y
              simp only [combV]
              by_cases h0 : m = 0
              · rw [if_pos ⟨by omega, h0⟩]
              · rw [if_neg (fun h => h0 h.2)]
                simp only
                rw [if_neg (by omega)]
        have Z := Lib.hid (NONE.out (fun _ => hn))
        have HEND := Lib.hid hend
        clear hn hU hend
        by_cases hjL : (j : Int) < (L.length : Int)
        · have hj4 : ¬ (j : Int) < 4 := by rcases HEND.out with h | h <;> omega
          go_wp2_with fail
          go_ret
          exact Z.out
        · go_wp2_with fail
          go_ret
          exact Z.out
      · have hjL : (j : Int) < (L.length : Int) := by omega
        have hj4 : (j : Int) < 4 := by omega
        obtain ⟨ch, hch⟩ : ∃ c, L[j]? = some c := ⟨_, List.getElem?_eq_getElem (by omega)⟩
        have hcell : w.cell? ⟨g, o + j, none⟩ = some (.int .u8 (ch.toNat : Int)) := HCS.out j ch hch
        have hdrop : L.drop j = ch :: L.drop (j + 1) := by
          obtain ⟨h1, h2⟩ := List.getElem?_eq_some_iff.1 hch
          rw [List.drop_eq_getElem_cons h1, h2]
        have HDR := Lib.hid hdrop
        obtain ⟨m, hm0⟩ : ∃ m, ch.toNat = m := ⟨_, rfl⟩
        have HM := Lib.hid hm0
        have hm256 : m < 256 := by rw [← hm0]; exact ch.toNat_lt
        rw [hm0] at hcell
        have hUb : U ≤ 2097152 := by
          rw [hU]; exact Nat.le_trans (Nat.pow_le_pow_right (by omega) (show j ≤ 3 by omega)) (by decide)
        obtain ⟨d, hd⟩ : ∃ d, m % 128 = d := ⟨_, rfl⟩
        have hd128 : d < 128 := by omega
        obtain ⟨X, hX⟩ : ∃ X, d * U = X := ⟨_, rfl⟩
        have hXb : X ≤ 127 * 2097152 := by rw [← hX]; exact Nat.mul_le_mul (by omega) hUb
        obtain ⟨A, hA⟩ : ∃ A, acc + X = A := ⟨_, rfl⟩
        have hrem : IntKind.i64.wrap (Int.tmod (m : Int) 128) = (d : Int) := by
          rw [Int.tmod_eq_emod_of_nonneg (by omega), IntWalk.i64_in _ (by omega)]; omega
        have hrem2 : (m : Int) % 128 = (d : Int) := by omega
        have hmul : IntKind.i64.wrap ((d : Int) * (U : Int)) = (X : Int) := by
          rw [← Int.natCast_mul, hX, IntWalk.i64_in _ (by omega)]
        have hsum : IntKind.i64.wrap ((acc : Int) + (X : Int)) = (A : Int) := by
          rw [IntWalk.i64_in _ (by omega)]; omega
        obtain ⟨V, hV⟩ : ∃ V, U * 128 = V := ⟨_, rfl⟩
        have hmul2 : IntKind.i64.wrap ((U : Int) * 128) = (V : Int) := by
          rw [IntWalk.i64_in _ (by omega)]; omega
        have hAlt : A < V := by
          rw [← hA, ← hX, ← hV]
          have h2 : (d + 1) * U ≤ 128 * U := Nat.mul_le_mul_right _ hd128
          rw [Nat.add_mul, Nat.one_mul] at h2
          omega
        have HU := Lib.hid hU
        have HX := Lib.hid hX
        have HA := Lib.hid hA
        have HD := Lib.hid hd
        have HACC := Lib.hid hacc
        have HALT := Lib.hid hAlt
        have HV := Lib.hid hV
        have HB := Lib.hid (show _ ∧ _ ∧ _ from ⟨hUb, hXb, hsm⟩)
        clear hV hUb hXb hch hdrop hm0 hend hd hX hA hU hacc hAlt
        by_cases hm128 : m < 128
        · have hval : acc + 128 ^ j * m = A := by
            rw [← HA.out, ← HX.out, ← HD.out, ← HU.out, Nat.mod_eq_of_lt hm128, Nat.mul_comm]
          have hrd : rdV L = combV j acc (some (m, L.drop (j + 1))) := by
            rw [HE.out, HDR.out, rdV, HM.out, if_pos hm128]
          have hm128I : (m : Int) < 128 := by omega
          by_cases hAm : A ≤ most
          · have hAI : ¬ (most : Int) < (A : Int) := by omega
            by_cases hz : 0 < j ∧ m = 0
            · obtain ⟨hj0, hm0⟩ := hz
              have hn : numR most L = none := by
                rw [numR_comb hrd, if_pos ⟨by omega, hm0⟩]
              have Z := Lib.hid (NONE.out (fun _ => hn))
              have hj0I : (0 : Int) < (j : Int) := by omega
              have hd0 : d = 0 := by rw [← HD.out, hm0]
              have hX0 : X = 0 := by rw [← HX.out, hd0, Nat.zero_mul]
              have hA0 : A = acc := by rw [← HA.out, hX0]; rfl
              have haccw : IntKind.i64.wrap (acc : Int) = (acc : Int) := IntWalk.i64_in _ (by have := HACC.out; have := HB.out.1; omega)
              clear hval hrd hn hAm hj0 HD HX HA HB HACC hrem hrem2 hmul hsum 
              subst hA0 hX0 hd0 hm0
              go_wp2_with fail
              go_ret
              exact Z.out
            · have hn : numR most L = some (A, L.drop (j + 1)) := by
                rw [numR_comb hrd, if_neg (fun h => hz ⟨by omega, h.2⟩), hval, if_pos hAm]
              have hns : numS most (L, false) = (A, (L.drop (j + 1), false)) := by unfold numS; rw [hn]; rfl
              have hd := rds_drop (j + 1) xr hlc HCS.out hgr HB.out.2.2 hgl (by omega)
              have Z := Lib.hid (fun (a : Nat) (q : Nat) (hq : q = c - (j + 1)) (hak : a = o + (j + 1) ∨ c = j + 1) => show NumEnd17 w rb g (L, false) most (.returned (.int .i64 (A : Int))) (w.setCell ⟨rb, 0, none⟩ (.slice (some ⟨g, a, none⟩) (L.length - (j + 1)) q)) from by
                unfold NumEnd17; rw [hns, hq]; exact ⟨rfl, hd a hak, (KpP.refl _ _).at_p 0 _⟩)
              clear hval hrd hn hAm hns hd
              by_cases hj0 : 0 < j
              · have hj0I : (0 : Int) < (j : Int) := by omega
                have hmz : ((m : Int) == 0) = false := by rw [beq_eq_false_iff_ne]; intro h; exact hz ⟨hj0, by omega⟩
                clear hz hj0
                go_wp2_with fail
                all_goals go_ret
                all_goals first | exact Z.out _ _ rfl (.inl rfl) | exact Z.out _ _ (by omega) (.inr rfl) | exact Z.out _ _ (by omega) (.inr (by omega))
              · have hj0I : ¬ (0 : Int) < (j : Int) := by omega
                clear hz
                go_wp2_with fail
                all_goals go_ret
                all_goals first | exact Z.out _ _ rfl (.inl rfl) | exact Z.out _ _ (by omega) (.inr rfl) | exact Z.out _ _ (by omega) (.inr (by omega))
          · have hn : numR most L = none := by
              rw [numR_comb hrd]
              by_cases hz : j ≠ 0 ∧ m = 0
              · rw [if_pos hz]
              · rw [if_neg hz, hval, if_neg hAm]
            have Z := Lib.hid (NONE.out (fun _ => hn))
            have hAI : (most : Int) < (A : Int) := by omega
            clear hval hrd hn hAm
            go_wp2_with fail
            go_ret
            exact Z.out
        · have hrd : rdV L = combV (j + 1) A (rdV (L.drop (j + 1))) := by
            rw [HE.out, HDR.out, combV_step j acc ch _ (by rw [HM.out]; exact hm128), HM.out, HD.out, ← HU.out, HX.out, HA.out]
          have HRD := Lib.hid hrd
          have hm128I : ¬ (m : Int) < 128 := by omega
          clear hrd hm128
          go_wp2_with fail
          go_roundw
          case rel => exact ⟨j + 1, A, V, rfl, rfl, by first | rfl | (congr 1; done) | (congr 1; omega), by rw [← HV.out, HU.out, Nat.pow_succ], HALT.out, by omega, by omega, trivial, HRD⟩
          case measure => simp [intOf]; omega
theorem num17_at (w : World) (rb g : Nat) (s : St17) (most : Nat) (K : Int) (hK : K = (most : Int)) (h : RdS w rb g s) (hm : most ≤ 262144) :
    Calls Tryd.prog 69 #[.pointer (some ⟨rb, 0, none⟩), .int .i64 K] w (NumEnd17 w rb g s most) := by
  subst hK; exact num17_any w rb g s most h hm

end Go.Proofs.YtcbfmajojkcibaaDoor

/- bolterref17's reader: text. No condition but that the bytes lie elsewhere than the reader. -/
namespace Go.Proofs.YtcbfmajojkcibaaDoor
open Go Go.RowKit

/-- How text ends. -/
def TextEnd17 (w : World) (rb g : Nat) (s : St17) (e : Ending) (w' : World) : Prop :=
  e = .returned (.string (st (textS s).1)) ∧ RdS w' rb g (textS s).2 ∧ KpP rb w w'
theorem textS_bad {s : St17} (h : (numS 32 s).2.2 = true ∨ (numS 32 s).2.1.length < (numS 32 s).1) : textS s = ([], ((numS 32 s).2.1, true)) := by
  unfold textS
  rw [if_pos]
  rcases h with h | h
  · rw [h]; rfl
  · rw [decide_eq_true h]; simp
theorem textS_ok {s : St17} (h : (numS 32 s).2.2 = false) (h2 : ¬ (numS 32 s).2.1.length < (numS 32 s).1) : textS s = ((numS 32 s).2.1.take (numS 32 s).1, ((numS 32 s).2.1.drop (numS 32 s).1, false)) := by
  unfold textS
  rw [if_neg]
  rw [h, decide_eq_false h2]; simp
theorem numS_le (most : Nat) (s : St17) : (numS most s).1 ≤ most := by
  unfold numS
  split
  · exact Nat.zero_le _
  · cases e : numR most s.1 with
    | none => exact Nat.zero_le _
    | some y => obtain ⟨n, r⟩ := y; exact (var_numR e).2

set_option maxRecDepth 100000 in
set_option maxHeartbeats 1000000 in
theorem text17r_any (w : World) (rb g : Nat) (s : St17) (h : RdS w rb g s) : Calls Tryd.prog 70 #[.pointer (some ⟨rb, 0, none⟩)] w (TextEnd17 w rb g s) := by
  have HN := Lib.hid (num17_at w rb g s 32 32 rfl h (by omega))
  have hle := numS_le 32 s
  clear h
  obtain ⟨m, hm⟩ : ∃ m, (numS 32 s).1 = m := ⟨_, rfl⟩
  obtain ⟨L, hL⟩ : ∃ m, (numS 32 s).2.1 = m := ⟨_, rfl⟩
  obtain ⟨bad, hbad⟩ : ∃ m, (numS 32 s).2.2 = m := ⟨_, rfl⟩
  have hsn : numS 32 s = (m, (L, bad)) := by rw [← hm, ← hL, ← hbad]
  have HS := Lib.hid hsn
  rw [hm] at hle
  clear hm hL hbad hsn
  go_enter Tryd.func70, Tryd.ntmps70
  go_wp2_with fail
  go_at_call 69
  (with_reducible refine HN.out.mono ?_); rintro e w1 ⟨rfl, hr, hk⟩
  rw [HS.out] at hr ⊢
  dsimp only at hr ⊢
  obtain ⟨o, c, xr, hlc, hcs⟩ := hr.box
  have hsm := hr.small
  have hgr := hr.apart
  have hgl := hr.lt
  dsimp only at xr hlc hcs hsm
  have HCS := Lib.hid hcs
  have HR := Lib.hid hr
  have HK := Lib.hid hk
  clear hcs hr hk
  have c_e0 := xr.cell 0 _ rfl
  have c_e1 := xr.cell 1 _ rfl
  have m_e0 := xr.mark 0 _ rfl
  have m_e1 := xr.mark 1 _ rfl
  have l_e := xr.lt (Nat.succ_pos _)
  cases bad with
  | true =>
    have Z := Lib.hid (show TextEnd17 w rb g s (.returned (.string { data := #[] })) (w1.setCell ⟨rb, 1, none⟩ (.bool true)) from by
      unfold TextEnd17
      rw [textS_bad (by rw [HS.out]; exact .inl rfl), HS.out]
      exact ⟨rfl, rds_bad HR.out, HK.out.at_p 1 _⟩)
    go_wp2_with fail
    go_ret
    exact Z.out
  | false =>
    by_cases hml : L.length < m
    · have Z := Lib.hid (show TextEnd17 w rb g s (.returned (.string { data := #[] })) (w1.setCell ⟨rb, 1, none⟩ (.bool true)) from by
        unfold TextEnd17
        rw [textS_bad (by rw [HS.out]; exact .inr hml), HS.out]
        exact ⟨rfl, rds_bad HR.out, HK.out.at_p 1 _⟩)
      have hI : (L.length : Int) < (m : Int) := by omega
      clear hml
      go_wp2_with fail
      go_ret
      exact Z.out
    · have hI : ¬ (L.length : Int) < (m : Int) := by omega
      have hmc : (m : Int) ≤ (c : Int) := by omega
      have hml2 : (m : Int) ≤ (L.length : Int) := by omega
      have hlen : (L.take m).length = m := by rw [List.length_take]; omega
      have HCV := Lib.hid (conv_bytes (P := Tryd.prog) w1 32 9 5 ⟨g, o, none⟩ c m (L.take m) Tryd.underlying32 Tryd.underlying5 Tryd.underlying9 hlen (fun j u hj => by
        rw [addr_add]
        rw [List.getElem?_map] at hj
        obtain ⟨x, hx, hx2⟩ := Option.map_eq_some_iff.1 hj
        have hjm : j < m := by have := (List.getElem?_eq_some_iff.1 hx).1; omega
        rw [List.getElem?_take_of_lt hjm] at hx
        rw [← hx2]; exact HCS.out j x hx))
      have hcv := HCV.out
      have hd := rds_drop m xr hlc HCS.out hgr hsm hgl (by omega)
      have Z := Lib.hid (fun (a : Nat) (q : Nat) (hq : q = c - m) (hak : a = o + m ∨ c = m) => show TextEnd17 w rb g s (.returned (.string (st (L.take m)))) (w1.setCell ⟨rb, 0, none⟩ (.slice (some ⟨g, a, none⟩) (L.length - m) q)) from by
        unfold TextEnd17
        rw [textS_ok (by rw [HS.out]) (by rw [HS.out]; exact hml), HS.out, hq]
        exact ⟨rfl, hd a hak, HK.out.at_p 0 _⟩)
      clear hml hlen HCV hd
      go_wp2_with fail
      all_goals go_ret
      all_goals first | exact Z.out _ _ rfl (.inl rfl) | exact Z.out _ _ (by omega) (.inr rfl) | exact Z.out _ _ (by omega) (.inr (by omega))

end Go.Proofs.YtcbfmajojkcibaaDoor

/- bolterref17's reader: tables in a variable of the call's own, of which the lists grow. No condition. -/
namespace Go.Proofs.YtcbfmajojkcibaaDoor
open Go Go.RowKit

theorem RdS.keepB {w w' : World} {B rb g : Nat} {s : St17} (h : RdS w rb g s) (hrb : rb < B) (hgb : g < B) (hs : w.heap.size ≤ w'.heap.size)
    (hb : ∀ k, k < w.heap.size → k < B → w'.heap[k]? = w.heap[k]?) : RdS w' rb g s := by
  obtain ⟨o, c, h1, h2, h3⟩ := h.box
  refine ⟨⟨o, c, h1.heap (hb rb (h1.lt (by simp)) hrb), h2, fun j x hj => ?_⟩, h.apart, h.small, Nat.lt_of_lt_of_le h.lt hs⟩
  have h4 := h3 j x hj
  rw [← h4]
  exact World.cell?_of_block (w := w) (hb g (World.block_lt_of_cell? w _ h4) hgb)
theorem KpP.rds {w w' : World} {rb g : Nat} {s : St17} (hk : KpP rb w w') (h : RdS w rb g s) : g ≠ rb := h.apart
/-- num and text, by what they say. -/
theorem num17_is (w : World) (rb g : Nat) (s s' : St17) (most m : Nat) (K : Int) (hK : K = (most : Int)) (h : RdS w rb g s) (hm : most ≤ 262144) (hn : numS most s = (m, s')) :
    Calls Tryd.prog 69 #[.pointer (some ⟨rb, 0, none⟩), .int .i64 K] w fun e w' => e = .returned (.int .i64 (m : Int)) ∧ RdS w' rb g s' ∧ KpP rb w w' :=
  (num17_at w rb g s most K hK h hm).mono fun e w' ⟨h1, h2, h3⟩ => by
    rw [hn] at h1 h2
    exact ⟨h1, h2, h3⟩
theorem text17_is (w : World) (rb g : Nat) (s s' : St17) (x : List UInt8) (h : RdS w rb g s) (hn : textS s = (x, s')) :
    Calls Tryd.prog 70 #[.pointer (some ⟨rb, 0, none⟩)] w fun e w' => e = .returned (.string (st x)) ∧ RdS w' rb g s' ∧ KpP rb w w' :=
  (text17r_any w rb g s h).mono fun e w' ⟨h1, h2, h3⟩ => by
    rw [hn] at h1 h2
    exact ⟨h1, h2, h3⟩
theorem numS_of {most m : Nat} {s s' : St17} (h : numS most s = (m, s')) : m ≤ most := by have := numS_le most s; rw [h] at this; exact this
theorem textS_len {x : List UInt8} {s s' : St17} (h : textS s = (x, s')) : x.length ≤ 32 := by
  have h0 := numS_le 32 s
  unfold textS at h
  split at h
  · rw [← (Prod.mk.inj h).1]; simp
  · rw [← (Prod.mk.inj h).1, List.length_take]; omega

/-- The reader of bolterref17, and the tables so far. -/
structure Rsu (w : World) (B rb tb g : Nat) (s : St17) (X : List Nat) (t : Tb) (v : TbV) (ex : List RwE) : Prop where
  rd : RdS w rb g s
  box : boxAt w tb (tbC t v)
  rows : Rws w B X (rowsOf t v ++ ex)
  len : v.rows.length = t.acts.length
  inX : tb ∈ X
  lt : ∀ x ∈ X, B ≤ x ∧ x < w.heap.size
  rlow : rb < B
  plow : g < B

section
variable {w w' : World} {B rb tb g : Nat} {s s' : St17} {X : List Nat} {t t2 : Tb} {v v2 : TbV} {ex ex2 : List RwE}
theorem Rsu.base (h : Rsu w B rb tb g s X t v ex) : B ≤ w.heap.size := by have := h.lt tb h.inX; omega
theorem Rsu.tlow (h : Rsu w B rb tb g s X t v ex) : B ≤ tb := (h.lt tb h.inX).1
theorem Rsu.num (h : Rsu w B rb tb g s X t v ex) (hk : KpP rb w w') (hr : RdS w' rb g s') : Rsu w' B rb tb g s' X t v ex :=
  ⟨hr, h.box.keptP hk (by have := h.tlow; have := h.rlow; omega) (by simp [tbC]), h.rows.keep (fun k hk1 hB _ => hk.block k hk1 (by have := h.rlow; omega)), h.len, h.inX, fun x hx => ⟨(h.lt x hx).1, Nat.lt_of_lt_of_le (h.lt x hx).2 hk.size⟩, h.rlow, h.plow⟩
theorem Rsu.later (h : Rsu w B rb tb g s X t v ex) (hG : Gr w w') : Rsu w' B rb tb g s X t v ex :=
  ⟨h.rd.later hG, h.box.later hG, h.rows.keep (fun k hk _ _ => Below.block hG k hk), h.len, h.inX, fun x hx => ⟨(h.lt x hx).1, Nat.lt_of_lt_of_le (h.lt x hx).2 hG.size⟩, h.rlow, h.plow⟩
/-- A store into a block that is none of the rows'. -/
theorem Rsu.far (h : Rsu w B rb tb g s X t v ex) {p : Addr} (u : Value) (hp : p.block ∈ X) (hne : p.block ≠ tb) : Rsu (w.setCell p u) B rb tb g s X t v ex :=
  ⟨h.rd.keepB h.rlow h.plow (by simp [World.setCell]) (fun k _ hB => Below.heap_setCell w p u k (by have := (h.lt _ hp).1; omega)), h.box.far _ _ hne,
   h.rows.keep (fun k _ _ hX => Below.heap_setCell w p u k (fun e => hX (e ▸ hp))), h.len, h.inX, fun x hx => ⟨(h.lt x hx).1, by simp [World.setCell]; exact (h.lt x hx).2⟩, h.rlow, h.plow⟩
theorem Rsu.alloc (h : Rsu w B rb tb g s X t v ex) (o : Obj) : Rsu (w.alloc o) B rb tb g s (w.heap.size :: X) t v ex := by
  have hl := h.later (Gr.alloc w o)
  refine ⟨hl.rd, hl.box, (h.rows.addX (Nat.le_refl _)).keep (fun k hk _ _ => Below.block (Gr.alloc w o) k hk), hl.len, List.mem_cons_of_mem _ hl.inX, fun x hx => ?_, hl.rlow, hl.plow⟩
  rcases List.mem_cons.1 hx with rfl | hx
  · exact ⟨h.base, by simp⟩
  · exact hl.lt x hx
theorem Rsu.dropX {x : Nat} (h : Rsu w B rb tb g s (x :: X) t v ex) (hx : tb ∈ X) : Rsu w B rb tb g s X t v ex :=
  ⟨h.rd, h.box, h.rows.dropX, h.len, hx, fun y hy => h.lt y (List.mem_cons_of_mem _ hy), h.rlow, h.plow⟩
theorem Rsu.push (h : Rsu w B rb tb g s X t v []) (e n : Nat) : Rsu w B rb tb g s X t v [⟨.slice none 0 0, e, n, 0, []⟩] :=
  ⟨h.rd, h.box, by have := h.rows.push e n; rw [List.append_nil] at this; exact this, h.len, h.inX, h.lt, h.rlow, h.plow⟩
/-- A row has grown. -/
theorem Rsu.growEx (h : Rsu w B rb tb g s X t v ex) {i : Nat} {r : RwE} (hi : (rowsOf t v ++ ex)[i]? = some r) {v' : Value} {n' : Nat} {xs' : List Value}
    (hg : w.grownBy w' r.v.ownBlock) (ho : w'.ownsRow B r.e r.k v' n' xs') (hat : v'.ownBlock = r.v.ownBlock ∨ v'.ownBlock = some w.heap.size)
    (hL : rowsOf t v ++ ex2 = (rowsOf t v ++ ex).set i ⟨v', r.e, r.k, n', xs'⟩) : Rsu w' B rb tb g s X t v ex2 := by
  have hrm := List.mem_of_getElem? hi
  have hrow : ∀ g, r.v.ownBlock = some g → B ≤ g := fun g hg => ((h.rows.own r hrm).lt g hg).1
  refine ⟨h.rd.keepB h.rlow h.plow hg.size (fun k hk hB => hg.block k hk (fun e => by have := hrow k e.symm; omega)), h.box.grown hg (by simp [tbC]) (fun e => h.rows.out r hrm tb e h.inX), ?_, h.len, h.inX, fun x hx => ⟨(h.lt x hx).1, Nat.lt_of_lt_of_le (h.lt x hx).2 hg.size⟩, h.rlow, h.plow⟩
  rw [hL]
  exact h.rows.grow hi hg ho hat (fun x hx => (h.lt x hx).2)
/-- .. and has been laid into the tables. -/
theorem Rsu.grow (h : Rsu w B rb tb g s X t v ex) {i : Nat} {r : RwE} (hi : (rowsOf t v ++ ex)[i]? = some r) {v' : Value} {n' : Nat} {xs' : List Value}
    (hg : w.grownBy w' r.v.ownBlock) (ho : w'.ownsRow B r.e r.k v' n' xs') (hat : v'.ownBlock = r.v.ownBlock ∨ v'.ownBlock = some w.heap.size) (j : Nat) (hj : j < 12)
    (hL : rowsOf t2 v2 ++ ex2 = (rowsOf t v ++ ex).set i ⟨v', r.e, r.k, n', xs'⟩) (hC : tbC t2 v2 = (tbC t v).set j v') (hlen : v2.rows.length = t2.acts.length) : Rsu (w'.setCell ⟨tb, j, none⟩ v') B rb tb g s X t2 v2 ex2 := by
  have hrm := List.mem_of_getElem? hi
  have hrow : ∀ g, r.v.ownBlock = some g → B ≤ g := fun g hg => ((h.rows.own r hrm).lt g hg).1
  have hrd : RdS w' rb g s := h.rd.keepB h.rlow h.plow hg.size (fun k hk hB => hg.block k hk (fun e => by have := hrow k e.symm; omega))
  have hbox : boxAt w' tb (tbC t v) := h.box.grown hg (by simp [tbC]) (fun e => h.rows.out r hrm tb e h.inX)
  refine ⟨hrd.keepB h.rlow h.plow (by simp [World.setCell]) (fun k _ hB => Below.heap_setCell w' _ v' k (by show k ≠ tb; have := h.tlow; omega)), by rw [hC]; exact hbox.put j v' (by rw [tbC_len]; exact hj), ?_, hlen, h.inX, fun x hx => ⟨(h.lt x hx).1, by simp [World.setCell]; exact Nat.lt_of_lt_of_le (h.lt x hx).2 hg.size⟩, h.rlow, h.plow⟩
  rw [hL]
  exact (h.rows.grow hi hg ho hat (fun x hx => (h.lt x hx).2)).keep (fun k _ _ hX => Below.heap_setCell w' _ v' k (fun e => hX (e ▸ h.inX)))
/-- The count. -/
theorem Rsu.cnt (h : Rsu w B rb tb g s X t v ex) (n : Int) : Rsu (w.setCell ⟨tb, 5, none⟩ (.int .i64 n)) B rb tb g s X { t with count := n } v ex :=
  ⟨h.rd.keepB h.rlow h.plow (by simp [World.setCell]) (fun k _ hB => Below.heap_setCell w _ _ k (by show k ≠ tb; have := h.tlow; omega)), h.box.put 5 _ (by rw [tbC_len]; omega),
   h.rows.keep (fun k _ _ hX => Below.heap_setCell w _ _ k (fun e => hX (e ▸ h.inX))), h.len, h.inX, fun x hx => ⟨(h.lt x hx).1, by simp [World.setCell]; exact (h.lt x hx).2⟩, h.rlow, h.plow⟩
theorem Rsu.rb_out (h : Rsu w B rb tb g s X t v ex) : rb ∉ X := fun hm => by have := h.lt rb hm; have := h.rlow; omega
theorem Rsu.kp_store {w0 : World} {X0 : List Nat} (h : Rsu w B rb tb g s X t v ex) (hk : KpQ B rb X0 tb w0 w) (j : Nat) (u : Value) : KpQ B rb X0 tb w0 (w.setCell ⟨tb, j, none⟩ u) :=
  ⟨hk.os, hk.tape, hk.output, by simp [World.setCell]; exact hk.size, fun k h1 h2 => (Below.heap_setCell w _ u k (by
    show k ≠ tb
    have := h.tlow
    rcases h2 with h2 | h2
    · omega
    · exact h2.2)).trans (hk.block k h1 h2)⟩
theorem Rsu.kp_grown {w0 : World} {X0 : List Nat} (h : Rsu w B rb tb g s X t v ex) (hk : KpQ B rb X0 tb w0 w) (hX : ∀ x ∈ X0, x ∈ X) {i : Nat} {r : RwE} (hi : (rowsOf t v ++ ex)[i]? = some r) (hg : w.grownBy w' r.v.ownBlock) : KpQ B rb X0 tb w0 w' := by
  have hrm := List.mem_of_getElem? hi
  refine ⟨hg.os.trans hk.os, hg.tape.trans hk.tape, hg.output.trans hk.output, Nat.le_trans hk.size hg.size, fun k h1 h2 => (hg.block k (Nat.lt_of_lt_of_le h1 hk.size) (fun e => ?_)).trans (hk.block k h1 h2)⟩
  have h3 := (h.rows.own r hrm).lt k e.symm
  rcases h2 with h2 | h2
  · omega
  · exact h.rows.out r hrm k e.symm (hX k h2.1)
theorem Rsu.row_ne (h : Rsu w B rb tb g s X t v ex) {i : Nat} {r : RwE} (hi : (rowsOf t v ++ ex)[i]? = some r) {x : Nat} (hx : x ∈ X) : r.v.ownBlock ≠ some x := fun e => h.rows.out r (List.mem_of_getElem? hi) x e hx
theorem Rsu.row_low (h : Rsu w B rb tb g s X t v ex) {i : Nat} {r : RwE} (hi : (rowsOf t v ++ ex)[i]? = some r) : ∀ g, r.v.ownBlock = some g → B ≤ g := fun g hg => ((h.rows.own r (List.mem_of_getElem? hi)).lt g hg).1
theorem Rsu.row_own (h : Rsu w B rb tb g s X t v ex) {i : Nat} {r : RwE} (hi : (rowsOf t v ++ ex)[i]? = some r) : w.ownsRow B r.e r.k r.v r.n r.xs := h.rows.own r (List.mem_of_getElem? hi)
end

end Go.Proofs.YtcbfmajojkcibaaDoor
