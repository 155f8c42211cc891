/- LexCut of bolterlaw4 answers true. No condition but the errors' variables. -/
import Derived.Test.YtdjankfcmoblhaaDoorPEqLex
namespace Go.Proofs.YtdjankfcmoblhaaDoor
open Go Go.RowKit

theorem sl_head {w : World} {b off cap n : Nat} {L : List Tok} (h : Sl w (.slice (some ⟨b, off, none⟩) L.length cap) 9 L.length (L.flatMap tokC)) (hn : n ≤ L.length) :
    Sl w (.slice (some ⟨b, off, none⟩) n cap) 9 (L.take n).length ((L.take n).flatMap tokC) := by
  rw [List.length_take, Nat.min_eq_left hn]
  refine ⟨?_, Nat.le_trans hn h.2.1, ?_⟩
  · rw [flatMap_len tokC 9 tokC_len, List.length_take, Nat.min_eq_left hn]
  · rcases Nat.eq_zero_or_pos n with rfl | h0
    · exact .inl ⟨⟨_, _, rfl⟩, rfl⟩
    · have hne : L ≠ [] := fun e => by rw [e] at hn; simp at hn; omega
      obtain ⟨hb, hc⟩ := sl_lex h hne
      refine .inr ⟨b, off, cap, rfl, fun _ => hb, fun j u hj => ?_⟩
      have hlt : j < ((L.take n).flatMap tokC).length := (List.getElem?_eq_some_iff.1 hj).1
      rw [flatMap_len tokC 9 tokC_len, List.length_take, Nat.min_eq_left hn] at hlt
      have hq : j / 9 < n := by omega
      have hx : (L.take n)[j / 9]? = some (L[j / 9]'(by omega)) := by rw [List.getElem?_take, if_pos hq, List.getElem?_eq_getElem (by omega)]
      have hm : j % 9 < 9 := by omega
      have hj2 : ((L.take n).flatMap tokC)[(j / 9) * 9 + j % 9]? = some u := by rw [show (j / 9) * 9 + j % 9 = j by omega]; exact hj
      rw [flatMap_get tokC 9 tokC_len (L.take n) (j / 9) (j % 9) _ hx hm] at hj2
      have := hc (j / 9) (L[j / 9]'(by omega)) (List.getElem?_eq_getElem (by omega)) (j % 9) u hj2
      rw [show off + j / 9 * 9 + j % 9 = off + j by omega] at this
      exact this
theorem run_upto {P : Program} (w : World) (t : TypeId) (l : List UInt8) (b : Nat) (ht : P.underlying t = some .string) (h2 : b ≤ l.length) :
    (Instr.slice t (.string (st l)) none (some (.int .i64 (b : Int))) none).run P w = .ok (.string (st (l.take b))) w := by
  rw [run_slice_string_to_if w t (st l) .i64 (b : Int) ht, if_pos (by rw [st_size]; omega), Int.toNat_natCast, st_extract]; rfl

set_option maxRecDepth 100000 in
set_option maxHeartbeats 8000000 in
theorem lexCut_any (t : List UInt8) (es ed : Value) (w : World) (hT : (t.length : Int) ≤ 9223372036854775807) (hS : Sy0 w es ed) : Calls Tryd.prog 5 #[.string (st t)] w fun e w' => e = .returned (.bool true) ∧ Gr w w' := by
  have hsz := st_size t
  have HS := Lib.hid hS
  clear hS
  by_cases hlong : (t.length : Int) > 6000
  · have h1 : 6000 < t.length := by omega
    go_enter Tryd.func5, Tryd.ntmps5
    go_wp2_with (go_at_call 8; (with_reducible refine (wakes4_any es ed _ HS.out).mono ?_); rintro e w1 ⟨rfl, hg⟩)
    go_ret
    exact ⟨rfl, hg⟩
  · have h1 : ¬ 6000 < t.length := by omega
    have hle : t.length ≤ 6000 := by omega
    have HL := Lib.hid (lex_any t es ed w (by omega) HS.out)
    have HCut := Lib.hid (lex_cut _ t 0 _ (cov_lex t 0))
    have HLen := Lib.hid (lexF_len t 0)
    obtain ⟨X, hX⟩ : ∃ X, lexF t 0 = X := ⟨_, rfl⟩
    rw [hX] at HL HCut HLen
    clear hX hlong hT
    go_enter Tryd.func5, Tryd.ntmps5
    go_wp2_with fail
    go_at_call 9
    refine HL.out.mono ?_
    rintro e w1 ⟨hg, v, hown, hend⟩
    obtain ⟨L, er⟩ := X
    obtain ⟨p0, cap, rfl, hrow⟩ := lex_row hown
    obtain ⟨err, rfl⟩ : ∃ err, e = .returned (.tuple #[.slice p0 L.length cap, err]) := by
      cases er with
      | none => exact ⟨_, hend⟩
      | some dk => obtain ⟨er, he, _⟩ := hend; exact ⟨_, he⟩
    clear hend
    simp only at hown hrow HCut HLen
    have HROW := Lib.hid hrow
    have HSL := Lib.hid (Sl.of_owns hown)
    have HOWN := Lib.hid hown
    have hLl : L.length ≤ 6000 := by have := HLen.out; omega
    clear hown hrow HL
    go_wp2_with fail
    go_loopw [5] (fun iv wr => ∃ (i : Nat), iv = .int .i64 (i : Int) ∧ i ≤ L.length ∧ Gr w1 wr) (fun iv _ => L.length - (intOf iv).toNat)
    case atStart => exact ⟨0, rfl, Nat.zero_le _, Gr.refl _⟩
    case round =>
      obtain ⟨i, rfl, hi, hr⟩ := hrel
      have hgw := hg.trans hr
      cases hx : L[i]? with
      | none =>
        have hil : i = L.length := by
          rcases Nat.lt_or_ge i L.length with h | h
          · rw [List.getElem?_eq_getElem h] at hx; cases hx
          · omega
        subst hil
        clear hx hi
        go_wp2_with (go_at_call 8; (with_reducible refine (wakes4_any es ed _ (HS.out.later hgw)).mono ?_); rintro e w8 ⟨rfl, hg8⟩)
        go_ret
        exact ⟨rfl, hgw.trans hg8⟩
      | some x =>
        have hil : i < L.length := (List.getElem?_eq_some_iff.1 hx).1
        have hiI : (i : Int) < (L.length : Int) := by omega
        by_cases h60 : (i : Int) < 60
        · obtain ⟨b, rfl, hb, hcell⟩ := HROW.out i x hx
          have hex : L[i] = x := (List.getElem?_eq_some_iff.1 hx).2
          obtain ⟨k1, k2, k3, k4⟩ := HCut.out i hil
          clear k1
          rw [hex, Nat.sub_zero] at k2 k3 k4
          have hk2 := hr.cell (hcell 2 _ rfl)
          have hbr : b < wr.heap.size := Nat.lt_of_lt_of_le hb hr.size
          obtain ⟨E, hEE⟩ : ∃ E, x.fin = E := ⟨_, rfl⟩
          rw [hEE] at hk2 k2 k3 k4
          have hsl := fun w' => run_upto (P := Tryd.prog) w' 9 t E Tryd.underlying9 k2
          have hL2 := fun (W : World) (hW : Gr w W) => lex_any (t.take E) es ed W (by rw [List.length_take]; omega) (HS.out.later hW)
          rw [k4] at hL2
          have HL2 := Lib.hid hL2
          have hiw : IntKind.i64.wrap ((i : Int) + 1) = ((i + 1 : Nat) : Int) := by rw [IntWalk.i64_in _ (by omega)]; omega
          have hcap := (owns_capN HOWN.out).1
          have HLT := Lib.hid hil
          have HR := Lib.hid hr
          have HH := Lib.hid (sl_head (n := i + 1) HSL.out hil)
          have hcap1 : i + 1 ≤ cap := by omega
          have hcapI : ((i + 1 : Nat) : Int) ≤ (cap : Int) := by omega
          obtain ⟨i1, hi1⟩ : ∃ x, i + 1 = x := ⟨_, rfl⟩
          rw [hi1] at HL2 hiw HH hcap1 hcapI
          obtain ⟨LT, hLT⟩ : ∃ x, L.take i1 = x := ⟨_, rfl⟩
          rw [hLT] at HL2 HH
          obtain ⟨tE, htE⟩ : ∃ x, t.take E = x := ⟨_, rfl⟩
          rw [htE] at HL2 hsl
          have HI1 := Lib.hid hi1
          clear hx hil hcell hex k2 k3 k4 hEE hL2 hi hr hi1 hLT htE hcap
          go_wp2_with fail
          go_at_call 9
          refine (HL2.out _ hgw).mono ?_
          rintro e w2 ⟨hg2, v2, hown2, rfl⟩
          simp only at hown2
          obtain ⟨p2, cap2, hv2, _⟩ := lex_row hown2
          subst hv2
          have HO2 := Lib.hid (Sl.of_owns hown2)
          clear hown2
          have hg12 := HR.out.trans hg2
          go_wp2_with (go_at_call 11; (with_reducible refine (eqLexemes_same LT _ _ _ HO2.out (HH.out.later hg12)).mono ?_); rintro e w3 ⟨rfl, hg3⟩)
          go_roundw
          case rel => exact ⟨i1, rfl, by have := HLT.out; have := HI1.out; omega, hg12.trans hg3⟩
          case measure => have := HLT.out; have := HI1.out; simp [intOf]; omega
        · have h60N : ¬ i < 60 := by omega
          clear hx hi
          go_wp2_with (go_at_call 8; (with_reducible refine (wakes4_any es ed _ (HS.out.later hgw)).mono ?_); rintro e w8 ⟨rfl, hg8⟩)
          go_ret
          exact ⟨rfl, hgw.trans hg8⟩

end Go.Proofs.YtdjankfcmoblhaaDoor
