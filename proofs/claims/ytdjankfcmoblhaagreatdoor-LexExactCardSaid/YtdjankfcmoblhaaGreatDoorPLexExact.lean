/- LexExact of bolterlaw4, walked: it answers true. No condition but the errors' variables. -/
import Derived.Test.YtdjankfcmoblhaaGreatDoorPGk
import Derived.Test.YtdjankfcmoblhaaGreatDoorPGi
import Derived.Test.YtdjankfcmoblhaaGreatDoorPEqLex
import Derived.Test.YtdjankfcmoblhaaGreatDoorPGe
namespace Go.Proofs.YtdjankfcmoblhaaGreatDoor
open Go Go.RowKit

/-- What LexExact asks of the two readers, of one text. -/
structure LexPair (w : World) (t : List UInt8) : Prop where
  pair : ∃ (L : List Tok) (cf pf : Int),
    (∀ W, Gr w W → Calls Tryz.prog 4 #[.string (st t)] W fun e w' => Gr W w' ∧ ∃ q cap, e = .returned (.tuple #[.slice q L.length cap, .agg #[.int .i64 cf, .int .i64 0, .int .i64 0, .int .i64 pf, .slice none 0 0]]) ∧ Sl w' (.slice q L.length cap) 9 L.length (L.flatMap tokC)) ∧
    (∀ W, Gr w W → Calls Tryz.prog 5 #[.string (st t)] W fun e w' => Gr W w' ∧ ∃ q cap err, e = .returned (.tuple #[.slice q L.length cap, err]) ∧ w'.ownsRow W.heap.size 38 9 (.slice q L.length cap) L.length (L.flatMap tokC) ∧
      ∀ W2, Gr w' W2 → Calls Tryz.prog 7 #[err, .agg #[.int .i64 cf, .int .i64 0, .int .i64 0, .int .i64 pf, .slice none 0 0]] W2 fun e w2 => e = .returned (.bool true) ∧ Gr W2 w2)
theorem lex_pair (t : List UInt8) (s : Nat → Addr) (w : World) (hF : FaultsIn w s) (hm : ∃ m, w.cell? ⟨17, 0, none⟩ = some (.int .i64 m)) : LexPair w t := by
  by_cases hl : (t.length : Int) ≤ 65536
  · refine ⟨(lexF t 0).1, (codeO (lexF t 0).2 : Int), (placeO (lexF t 0).2 : Int), fun W hW => ?_, fun W hW => ?_⟩
    · refine (lex4_any t W hl).mono ?_
      rintro e w' ⟨hg, v, hown, rfl⟩
      obtain ⟨p, cap, rfl, _⟩ := lex_row hown
      exact ⟨hg, p, cap, rfl, Sl.of_owns hown⟩
    · refine (lex_any t _ _ W hl ((hF.later hW).sy0 (by obtain ⟨m, hm⟩ := hm; exact ⟨m, hW.cell hm⟩))).mono ?_
      intro e w' h
      obtain ⟨hg, p, cap, err, rfl, hown, hin⟩ := h.parts
      exact ⟨hg, p, cap, err, rfl, hown, fun W2 h2 => same_in (hF.later ((hW.trans hg).trans h2)) _ err (hin.later h2)⟩
  · have hlt : (65536 : Int) < (t.length : Int) := by omega
    refine ⟨[], 2, 0, fun W hW => ?_, fun W hW => ?_⟩
    · refine (lex4_long t W hlt).mono ?_
      rintro e w' ⟨rfl, hg⟩
      exact ⟨hg, none, 0, rfl, Sl.of_owns (World.ownsRow_nil w' w'.heap.size 38 9)⟩
    · refine (lex_too_long t _ W hlt ((hF.later hW).var 2 (by omega) (by omega))).mono ?_
      rintro e w' ⟨rfl, hg⟩
      refine ⟨hg, none, 0, _, rfl, World.ownsRow_nil w' W.heap.size 38 9, fun W2 h2 => ?_⟩
      have hF2 := hF.later ((hW.trans hg).trans h2)
      refine same_err _ _ 2 0 0 0 W2 (by decide) (fun W3 h3 => ?_)
      exact tell_any (hF2.later h3) (.leaf (s 2)) ((hF2.later h3).leaf 2 (by omega) (by omega)) trivial 2 (by omega) (by omega) rfl rfl

theorem box_puts9 {w : World} {g n m : Nat} {xs : List Value} (h : boxAt w g xs) (hx : xs.length = m * 9) (hn : n < m) (v0 v1 v2 v3 v4 v5 v6 v7 v8 : Value) :
    ∃ ys : List Value, ys.length = m * 9 ∧ boxAt (((((((((w.setCell ⟨g, n * 9, none⟩ v0).setCell ⟨g, n * 9 + 1, none⟩ v1).setCell ⟨g, n * 9 + 2, none⟩ v2).setCell ⟨g, n * 9 + 3, none⟩ v3).setCell ⟨g, n * 9 + 4, none⟩ v4).setCell ⟨g, n * 9 + 5, none⟩ v5).setCell ⟨g, n * 9 + 6, none⟩ v6).setCell ⟨g, n * 9 + 7, none⟩ v7).setCell ⟨g, n * 9 + 8, none⟩ v8) g ys := by
  have hk : n * 9 + 8 < m * 9 := by omega
  refine ⟨_, ?_, ((((((((h.put (n * 9) v0 (by omega)).put (n * 9 + 1) v1 (by simp; omega)).put (n * 9 + 2) v2 (by simp; omega)).put (n * 9 + 3) v3 (by simp; omega)).put (n * 9 + 4) v4 (by simp; omega)).put (n * 9 + 5) v5 (by simp; omega)).put (n * 9 + 6) v6 (by simp; omega)).put (n * 9 + 7) v7 (by simp; omega)).put (n * 9 + 8) v8 (by simp; omega)⟩
  simp only [List.length_set]; exact hx

set_option maxRecDepth 100000 in
set_option maxHeartbeats 8000000 in
theorem lexExact_any (ls : List (List UInt8)) (p : Option Addr) (c0 : Nat) (s : Nat → Addr) (w : World) (hs : Sl w (.slice p ls.length c0) 1 ls.length (ls.map vS)) (hF : FaultsIn w s) (hm : ∃ m, w.cell? ⟨17, 0, none⟩ = some (.int .i64 m)) :
    Calls Tryz.prog 3 #[.slice p ls.length c0] w fun e w' => e = .returned (.bool true) ∧ Gr w w' := by
  have HSS := Lib.hid hs
  have HS := Lib.hid (hF.sy0 hm)
  have HP := Lib.hid (fun t W (hW : Gr w W) => lex_pair t s W (hF.later hW) (by obtain ⟨m, hm⟩ := hm; exact ⟨m, hW.cell hm⟩))
  clear hs hF hm
  go_enter Tryz.func3, Tryz.ntmps3
  go_wp2_with fail
  go_loopw [3] (fun i wr => ∃ k : Nat, k ≤ ls.length ∧ k ≤ 16 ∧ i = .int .i64 k ∧ Gr w wr) (fun i _ => ls.length - (intOf i).toNat)
  case atStart => exact ⟨0, by omega, by omega, rfl, Gr.refl _⟩
  case round =>
    obtain ⟨k, hk, hk16, rfl, hg⟩ := hrel
    by_cases hlt : k < ls.length ∧ k < 16
    rotate_left
    · have hx : (ls.length ≤ k) ∨ ((k : Int) < (ls.length : Int) ∧ (k : Int) = 16) := by omega
      clear hlt hk hk16
      rcases hx with hx | ⟨hx1, hx2⟩
      · have hb1 : decide ((k : Int) < (ls.length : Int)) = false := by simp; omega
        have hb2 : decide (k < ls.length) = false := by simp; omega
        clear hx
        go_wp2_with (go_at_call 8; (with_reducible refine (wakes4_any _ _ _ (HS.out.later hg)).mono ?_); rintro e w5 ⟨rfl, hb⟩)
        go_ret
        exact ⟨rfl, hg.trans hb⟩
      · go_wp2_with (go_at_call 8; (with_reducible refine (wakes4_any _ _ _ (HS.out.later hg)).mono ?_); rintro e w5 ⟨rfl, hb⟩)
        go_ret
        exact ⟨rfl, hg.trans hb⟩
    obtain ⟨t, hkt⟩ : ∃ x, ls[k]? = some x := ⟨_, List.getElem?_eq_getElem hlt.1⟩
    obtain ⟨bl, off, rfl, hbl, d0⟩ := str_at HSS.out hkt
    replace d0 := hg.cell d0
    have hsz := st_size t
    have hbr : bl < wr.heap.size := by have := hg.size; omega
    have hkI : (k : Int) < (ls.length : Int) := by omega
    have hk2 : (k : Int) < 16 := by omega
    obtain ⟨k1, hk1⟩ : ∃ x, k + 1 = x := ⟨_, rfl⟩
    have hw1 : IntKind.i64.wrap ((k : Int) + 1) = (k1 : Int) := by rw [IntWalk.i64_in _ (by omega)]; omega
    have HK1 := Lib.hid (show k + 1 = k1 ∧ k < ls.length ∧ k < 16 from ⟨hk1, hlt.1, hlt.2⟩)
    clear hlt hk hk16 hkt hk1
    by_cases hA : (6000 : Int) < (t.length : Int) ∧ (t.length : Int) ≤ 65536
    · obtain ⟨a1, a2⟩ := hA
      go_wp2_with fail
      go_roundw
      case rel => exact ⟨k1, by have := HK1.out; omega, by have := HK1.out; omega, rfl, hg⟩
      case measure => have := HK1.out; simp [intOf]; omega
    have hB : ¬ (6000 : Int) < (t.length : Int) ∨ (6000 : Int) < (t.length : Int) ∧ ¬ (t.length : Int) ≤ 65536 := by omega
    obtain ⟨L, cf, pf, h4, hl4⟩ := (HP.out t wr hg).pair
    have H4 := Lib.hid h4
    have HL := Lib.hid hl4
    clear hA h4 hl4
    rcases hB with hB | ⟨hB, hB2⟩
    all_goals
      go_wp2_with fail
      go_at_call 4
      refine (H4.out wr (Gr.refl _)).mono ?_; rintro e w1 ⟨hg1, q, cap, rfl, hsl⟩
      replace d0 := hg1.cell d0
      have HSL := Lib.hid hsl
      clear hsl
      go_upto_block 2 with fail
      refine name_world (fun W1 hW => ?_)
      have xf : boxAt W1 w1.heap.size [.int .i64 cf, .int .i64 0, .int .i64 0, .int .i64 pf, .slice none 0 0] := boxAt.new _ _ hW
      have hb : Gr w1 W1 := by rw [hW]; exact Gr.alloc _ _
      have hgr : Gr wr W1 := hg1.trans hb
      replace d0 := hb.cell d0
      have HSL1 := Lib.hid (HSL.out.later hb)
      have hbW : bl < W1.heap.size := by have := hgr.size; omega
      clear hW hb hg1 HSL hB
      go_wp2_with fail
      go_loopw [6] (fun i w2 => ∃ m : Nat, m ≤ 2 ∧ i = .int .i64 m ∧ Gr W1 w2) (fun i _ => 2 - (intOf i).toNat)
      case atStart => exact ⟨0, by omega, rfl, Gr.refl _⟩
      case round =>
        obtain ⟨m, hm, rfl, hg2⟩ := hrel
        by_cases hm2 : m < 2
        rotate_left
        · obtain rfl : m = 2 := by omega
          clear hm2 hm
          go_wp2_with fail
          go_roundw
          case rel => exact ⟨k1, by have := HK1.out; omega, by have := HK1.out; omega, rfl, (hg.trans hgr).trans hg2⟩
          case measure => have := HK1.out; simp [intOf]; omega
        have hm2I : (m : Int) < 2 := by omega
        obtain ⟨m1, hm1⟩ : ∃ x, m + 1 = x := ⟨_, rfl⟩
        have hwm : IntKind.i64.wrap ((m : Int) + 1) = (m1 : Int) := by rw [IntWalk.i64_in _ (by omega)]; omega
        have HM1 := Lib.hid (show m + 1 = m1 ∧ m < 2 from ⟨hm1, hm2⟩)
        have e0 := hg2.cell d0
        have hbz : bl < wr.heap.size := by have := hg2.size; omega
        have HXF := Lib.hid (xf.later hg2)
        clear hm2 hm hm1
        go_wp2_with fail
        go_at_call 5
        refine (HL.out wr (hgr.trans hg2)).mono ?_; rintro e w3 ⟨hg3, q3, cap3, err, rfl, hown, hsame⟩
        have HSM := Lib.hid hsame
        have HO := Lib.hid hown
        have hsl3 := Sl.of_owns hown
        clear hsame hown e0 hbz
        go_wp2_with fail
        go_at_call 6
        refine (eqLexemes_same L _ _ w3 hsl3 (HSL1.out.later (hg2.trans hg3))).mono ?_; rintro e w4 ⟨rfl, hg4⟩
        have xf4 := HXF.out.later (hg3.trans hg4)
        clear hsl3
        have c_f0 := xf4.cell 0 _ rfl
        have c_f1 := xf4.cell 1 _ rfl
        have c_f2 := xf4.cell 2 _ rfl
        have c_f3 := xf4.cell 3 _ rfl
        have c_f4 := xf4.cell 4 _ rfl
        have m_f0 := xf4.mark 0 _ rfl
        have m_f1 := xf4.mark 1 _ rfl
        have m_f2 := xf4.mark 2 _ rfl
        have m_f3 := xf4.mark 3 _ rfl
        have m_f4 := xf4.mark 4 _ rfl
        have l_f := xf4.lt (Nat.succ_pos _)
        go_wp2_with fail
        go_at_call 7
        refine (HSM.out w4 hg4).mono ?_; rintro e w5 ⟨rfl, hg5⟩
        clear c_f0 c_f1 c_f2 c_f3 c_f4 m_f0 m_f1 m_f2 m_f3 m_f4 l_f
        obtain ⟨g, hqg⟩ : ∃ g, 0 < L.length → q3 = some ⟨g, 0, none⟩ ∧ wr.heap.size ≤ g ∧ ∃ xs : List Value, xs.length = L.length * 9 ∧ boxAt w5 g xs := by
          rcases Nat.eq_zero_or_pos L.length with h0 | h0
          · exact ⟨0, fun h => by omega⟩
          · obtain ⟨g, cap, hv, hB, _, _⟩ := owns_block HO.out h0
            injection hv with h1 _ h2
            subst h1 h2
            refine ⟨g, fun _ => ⟨rfl, hB, L.flatMap tokC, flatMap_len tokC 9 tokC_len L, fun j u hj => ?_⟩⟩
            have hh : w3.cell? ⟨g, j, none⟩ = some u := owns_cell HO.out j u hj
            have hb : g < w3.heap.size := World.block_lt_of_cell? w3 _ hh
            exact ⟨(hg4.trans hg5).cell hh, (hg4.trans hg5).frozen hb (owns_mark HO.out j)⟩
        have HQ := Lib.hid hqg
        have hg6 : Gr W1 w5 := ((hg2.trans hg3).trans hg4).trans hg5
        have HW6 : Hid (wr.heap.size ≤ w5.heap.size ∧ W1.heap.size ≤ wr.heap.size) := Lib.hid ⟨((hg3.trans hg4).trans hg5).size, hg2.size⟩
        clear hqg xf4 hg3 hg4 hg5
        go_wp2_with fail
        go_loopw [9] (fun i w7 => ∃ n : Nat, n ≤ L.length ∧ i = .int .i64 n ∧ Gr W1 w7 ∧ Hid (0 < L.length → ∃ xs : List Value, xs.length = L.length * 9 ∧ boxAt w7 g xs)) (fun i _ => L.length - (intOf i).toNat)
        case atStart => exact ⟨0, by omega, rfl, hg6, Lib.hid (fun h => (HQ.out h).2.2)⟩
        case round =>
          clear hg6
          obtain ⟨n, hn, rfl, hg7, hbx⟩ := hrel
          by_cases hnl : n < L.length
          rotate_left
          · obtain rfl : n = L.length := by omega
            clear hnl hn
            go_wp2_with fail
            go_roundw
            case rel => exact ⟨m1, by have := HM1.out; omega, rfl, hg7⟩
            case measure => have := HM1.out; simp [intOf]; omega
          have hnI : (n : Int) < (L.length : Int) := by omega
          obtain ⟨rfl, hgB, _⟩ := HQ.out (by omega)
          obtain ⟨xs, hxl, xb⟩ := hbx.out (by omega)
          obtain ⟨n1, hn1⟩ : ∃ x, n + 1 = x := ⟨_, rfl⟩
          have hmax : (L.length : Int) ≤ 9223372036854775807 := by have := (Sl.of_owns HO.out).2.1; unfold maxLen at this; omega
          have hwn : IntKind.i64.wrap ((n : Int) + 1) = (n1 : Int) := by rw [IntWalk.i64_in _ (by omega)]; omega
          have HN1 := Lib.hid (show n + 1 = n1 ∧ n < L.length from ⟨hn1, hnl⟩)
          have hat : ∀ j, j < 9 → ∃ u, xs[n * 9 + j]? = some u := fun j hj => ⟨_, List.getElem?_eq_getElem (by omega)⟩
          obtain ⟨u0, y0⟩ := hat 0 (by omega)
          obtain ⟨u1, y1⟩ := hat 1 (by omega)
          obtain ⟨u2, y2⟩ := hat 2 (by omega)
          obtain ⟨u3, y3⟩ := hat 3 (by omega)
          obtain ⟨u4, y4⟩ := hat 4 (by omega)
          obtain ⟨u5, y5⟩ := hat 5 (by omega)
          obtain ⟨u6, y6⟩ := hat 6 (by omega)
          obtain ⟨u7, y7⟩ := hat 7 (by omega)
          obtain ⟨u8, y8⟩ := hat 8 (by omega)
          have c0 := xb.cell _ _ y0
          have c1 := xb.cell _ _ y1
          have c2 := xb.cell _ _ y2
          have c3 := xb.cell _ _ y3
          have c4 := xb.cell _ _ y4
          have c5 := xb.cell _ _ y5
          have c6 := xb.cell _ _ y6
          have c7 := xb.cell _ _ y7
          have c8 := xb.cell _ _ y8
          have m0 := xb.mark _ _ y0
          have m1' := xb.mark _ _ y1
          have m2 := xb.mark _ _ y2
          have m3 := xb.mark _ _ y3
          have m4 := xb.mark _ _ y4
          have m5 := xb.mark _ _ y5
          have m6 := xb.mark _ _ y6
          have m7 := xb.mark _ _ y7
          have m8 := xb.mark _ _ y8
          rw [Nat.add_zero] at c0 m0
          have lg := World.block_lt_of_cell? _ _ c0
          have HXB := Lib.hid (And.intro hxl xb)
          clear y0 y1 y2 y3 y4 y5 y6 y7 y8 hat hnl hn hxl xb hn1
          go_wp2_with fail
          go_roundw
          case rel =>
            obtain ⟨ys, h1, h2⟩ := box_puts9 HXB.out.2 HXB.out.1 HN1.out.2 (.int .i64 99) (.int .i64 0) (.int .i64 0) (.string { data := #[] }) (.int .i64 0) (.int .u64 0) (.int .u64 0) (.int .u64 0) (.int .u64 0)
            refine ⟨n1, by have := HN1.out; omega, rfl, ?_, Lib.hid (fun _ => ⟨ys, h1, h2⟩)⟩
            have hgW : W1.heap.size ≤ g := by have := HW6.out; omega
            exact ((((((((hg7.setCell (p := ⟨g, _, none⟩) hgW _).setCell (p := ⟨g, _, none⟩) hgW _).setCell (p := ⟨g, _, none⟩) hgW _).setCell (p := ⟨g, _, none⟩) hgW _).setCell (p := ⟨g, _, none⟩) hgW _).setCell (p := ⟨g, _, none⟩) hgW _).setCell (p := ⟨g, _, none⟩) hgW _).setCell (p := ⟨g, _, none⟩) hgW _).setCell (p := ⟨g, _, none⟩) hgW _
          case measure => have := HN1.out; simp [intOf]; omega

end Go.Proofs.YtdjankfcmoblhaaGreatDoor
