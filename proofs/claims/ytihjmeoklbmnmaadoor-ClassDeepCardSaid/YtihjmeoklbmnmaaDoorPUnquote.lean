/- class: Unquote. No condition but a length's bound and the errors' variables. -/
import Derived.Test.YtihjmeoklbmnmaaDoorPGe
import Derived.Deep.DeepCutAuto
namespace Go.Proofs.YtihjmeoklbmnmaaDoor
open Go Go.RowKit

theorem quotedP_fuel : ∀ (n m : Nat) (l acc : List UInt8), l.length < n → l.length < m → quotedP n l acc = quotedP m l acc
  | 0, _, _, _, h, _ => absurd h (Nat.not_lt_zero _)
  | _ + 1, 0, _, _, _, h => absurd h (Nat.not_lt_zero _)
  | n + 1, m + 1, [], acc, _, _ => rfl
  | n + 1, m + 1, c :: r, acc, h1, h2 => by
    simp only [List.length_cons] at h1 h2
    rw [quotedP_cons, quotedP_cons]
    split
    · rfl
    · split
      · rfl
      · split
        · cases he : escP r with
          | none => rfl
          | some x =>
            obtain ⟨v, q⟩ := x
            obtain ⟨k, _, hk, rfl⟩ := escP_len he
            exact quotedP_fuel n m _ _ (by rw [List.length_drop]; omega) (by rw [List.length_drop]; omega)
        · exact quotedP_fuel n m _ _ (by omega) (by omega)
def quotedF (l acc : List UInt8) : Rq := quotedP (l.length + 1) l acc
theorem quotedF_nil (acc : List UInt8) : quotedF [] acc = .bad [] := rfl
theorem quotedF_lf (r acc : List UInt8) : quotedF (10 :: r) acc = .bad (10 :: r) := rfl
theorem quotedF_end (r acc : List UInt8) : quotedF (34 :: r) acc = .ok acc r := rfl
theorem quotedF_bad (r acc : List UInt8) (h : escP r = none) : quotedF (92 :: r) acc = .bad (92 :: r) := by
  unfold quotedF; rw [quotedP_cons, if_neg (by decide), if_neg (by decide), if_pos rfl, h]
theorem quotedF_esc (r q acc : List UInt8) (v : UInt8) (h : escP r = some (v, q)) : quotedF (92 :: r) acc = quotedF q (acc ++ [v]) := by
  obtain ⟨k, h1, hk, rfl⟩ := escP_len h
  unfold quotedF
  rw [quotedP_cons, if_neg (by decide), if_neg (by decide), if_pos rfl, h]
  exact quotedP_fuel _ _ _ _ (by rw [List.length_drop, List.length_cons]; omega) (by omega)
theorem quotedF_byte (c : UInt8) (r acc : List UInt8) (h1 : ¬ c = 10) (h2 : ¬ c = 34) (h3 : ¬ c = 92) : quotedF (c :: r) acc = quotedF r (acc ++ [c]) := by
  unfold quotedF
  rw [quotedP_cons, if_neg h1, if_neg h2, if_neg h3]
  exact quotedP_fuel _ _ _ _ (by rw [List.length_cons]; omega) (by omega)
/-- What Unquote tells. -/
def UnqEnd (es : Value) (t : List UInt8) (w : World) (x : Rq) (e : Ending) (w' : World) : Prop :=
  Gr w w' ∧ match x with
    | .ok s r => e = .returned (.tuple #[.string (st s), .int .i64 ((t.length - r.length : Nat) : Int), .nilIface])
    | .bad r => ∃ er, e = .returned (.tuple #[.string { data := #[] }, .int .i64 0, er]) ∧ Refused w' w.heap.size es er ((t.length - r.length : Nat) : Int)
theorem UnqEnd.bad {es er : Value} {t : List UInt8} {w w' : World} {x : Rq} {j : Nat} (he : x = .bad (t.drop j)) (hj : j ≤ t.length) (hG : Gr w w') (hR : Refused w' w.heap.size es er (j : Int)) :
    UnqEnd es t w x (.returned (.tuple #[.string { data := #[] }, .int .i64 0, er])) w' := by
  subst he
  refine ⟨hG, er, rfl, ?_⟩
  rw [List.length_drop, show t.length - (t.length - j) = j by omega]; exact hR
theorem UnqEnd.ok {es : Value} {t s : List UInt8} {w w' : World} {x : Rq} {j : Nat} (he : x = .ok s (t.drop j)) (hj : j ≤ t.length) (hG : Gr w w') :
    UnqEnd es t w x (.returned (.tuple #[.string (st s), .int .i64 (j : Int), .nilIface])) w' := by
  subst he
  refine ⟨hG, ?_⟩
  show _ = _
  rw [List.length_drop, show t.length - (t.length - j) = j by omega]
theorem owns_kp {w w' : World} {B e n k p : Nat} {v : Value} {xs : List Value} (h : w.ownsRow B e k v n xs) (hK : Kp p w w') (hp : p < B) : w'.ownsRow B e k v n xs := by
  obtain ⟨h1, h2⟩ := h
  refine ⟨h1, h2.imp id ?_⟩
  rintro ⟨g, cap, cur, hv, hb, hh, r⟩
  exact ⟨g, cap, cur, hv, hb, by rw [hK.block g (Array.getElem?_eq_some_iff.1 hh).1 (by omega)]; exact hh, r⟩
/-- An owned row of bytes, turned to a string. -/
theorem conv_owned {P : Program} {w : World} (W : World) (src dst e : TypeId) {B : Nat} {v : Value} {l : List UInt8} (h : w.ownsRow B e 1 v l.length (l.map vB)) (hs : P.underlying src = some (.slice e)) (he : P.underlying e = some (.int .u8)) (hd : P.underlying dst = some .string) (hW : ∀ a : Addr, W.cell? a = w.cell? a) :
    (convert src dst v).run P W = .ok (.string (st l)) W := by
  rcases h.2 with ⟨rfl, h0⟩ | ⟨g, cap, cur, rfl, _⟩
  · rw [List.eq_nil_of_length_eq_zero h0]; exact conv_none W src dst e 0 hs he hd
  · refine conv_bytes W src dst e ⟨g, 0, none⟩ cap l.length l hs he hd rfl (fun j u hj => ?_)
    rw [addr_add0, hW]; exact owns_cell h j u hj

set_option maxRecDepth 100000 in
set_option maxHeartbeats 8000000 in
theorem unquote_any (t : List UInt8) (a : Int) (es ed : Value) (w : World) (hT : (t.length : Int) ≤ 4294967280) (hS : Sy0 w es ed) :
    Calls Tryd.prog 18 #[.string (st t), .int .i64 a] w (UnqEnd es t w (unquoteP t a)) := by
  obtain ⟨i0, hi, hz0, hz1, hz2⟩ := info_parts info_u8
  obtain ⟨n, hn⟩ : ∃ n, (if a < 0 ∨ (t.length : Int) < a then t.length else a.toNat) = n := ⟨_, rfl⟩
  have hnl : n ≤ t.length := by rw [← hn]; split <;> omega
  obtain ⟨X, hX⟩ : ∃ X, unquoteP t a = X := ⟨_, rfl⟩
  rw [hX]
  unfold unquoteP at hX
  rw [hn] at hX
  dsimp only at hX
  have HS := Lib.hid hS
  clear hS
  go_enter Tryd.func18, Tryd.ntmps18
  go_wp2_with fail
  go_at_call 30
  refine (first_any t a 34 n es ed w HS.out hn).mono ?_; rintro e w1 ⟨hg, ⟨hc, rfl, hR⟩ | ⟨hc, er, rfl, hr⟩⟩
  · have hp : pre [34] (t.drop n) = true := by rw [drop_at t n 34 hc]; rfl
    rw [if_pos hp] at hX
    have hnlt : n < t.length := (List.getElem?_eq_some_iff.1 hc).1
    obtain ⟨n1, hn1⟩ : ∃ x, n + 1 = x := ⟨_, rfl⟩
    rw [hn1] at hX
    have hX0 : quotedF (t.drop n1) [] = X := by
      rw [← hX]; unfold quotedF
      exact quotedP_fuel _ _ _ _ (by omega) (by rw [List.length_drop]; omega)
    have HX0 := Lib.hid hX0
    have hw1 : IntKind.i64.wrap ((n : Int) + 1) = (n1 : Int) := by rw [IntWalk.i64_in _ (by omega)]; omega
    have hn1l : n1 ≤ t.length := by omega
    have hpl : w.heap.size < w1.heap.size := boxAt.lt hR (Nat.succ_pos _)
    have c1 := boxAt.cell hR 1 _ rfl
    have m1 := boxAt.mark hR 1 _ rfl
    have HR := Lib.hid hR
    clear hn hc hp hX hX0 hn1 hR
    go_wp2_with fail
    refine name_world (fun W hW => ?_)
    have hR : Rdr W w.heap.size t n1 := by rw [hW]; exact boxAt.put HR.out 1 _ (by simp)
    have hgW : Gr w W := by rw [hW]; exact hg.setCell (p := ⟨w.heap.size, 1, none⟩) (Nat.le_refl _) _
    have hszW : W.heap.size = w1.heap.size := by rw [hW, size_set]
    clear hW c1 m1 hw1 HR hg
    go_loopw [8] (fun b wr => ∃ (acc : List UInt8) (j : Nat), n1 ≤ j ∧ j ≤ t.length ∧ acc.length ≤ t.length ∧ acc.length + n1 ≤ j ∧ Hid (quotedF (t.drop j) acc = X) ∧ wr.ownsRow w1.heap.size 5 1 b acc.length (acc.map vB) ∧ Rdr wr w.heap.size t j ∧ Gr w wr ∧ w1.heap.size ≤ wr.heap.size) (fun _ wr => t.length - atOf w.heap.size wr)
    case atStart => exact ⟨[], n1, by omega, hn1l, by simp, by simp, HX0.out, World.ownsRow_nil _ _ _ _, hR, hgW, by omega⟩
    case round =>
      clear hR hgW
      obtain ⟨acc, j, hnj, hj, hal, haj, hY, hown, hR, hgr, hs1⟩ := hrel
      have HAT := Lib.hid (Rdr.at hR)
      have HB := Lib.hid (show n1 ≤ j ∧ acc.length + n1 ≤ j from ⟨hnj, haj⟩)
      have HO := Lib.hid hown
      obtain ⟨ao, cb, rfl⟩ := (Sl.of_owns hown).len
      clear hown hnj haj
      cases hc : t[j]? with
      | none =>
        have hl : t.length ≤ j := by
          rcases Nat.lt_or_ge j t.length with h | h
          · rw [List.getElem?_eq_getElem h] at hc; cases hc
          · exact h
        have HX : Hid (X = .bad (t.drop j)) := by unfold Hid; rw [← hY.out, List.drop_of_length_le hl]; rfl
        clear hc
        go_wp2_with fail
        go_at_call 32
        refine (here_none w.heap.size j t wr hR hl).mono ?_; rintro e w2 ⟨rfl, hg2⟩
        replace hR : Rdr w2 w.heap.size t j := boxAt.later hR hg2
        replace hgr := hgr.trans hg2
        replace hs1 : w1.heap.size ≤ w2.heap.size := by have := hg2.size; omega
        have hown := owns_later HO.out hg2
        have HO2 := Lib.hid hown
        clear hown hg2
        clear hl
        have c1 := boxAt.cell hR 1 _ rfl
        have lp2 := boxAt.lt hR (Nat.succ_pos _)
        go_wp2_with (go_at_call 33; (with_reducible refine (syntax_any _ w.heap.size es ed w2 (HS.out.sy hgr (Nat.le_refl _)) lp2).mono ?_); rintro e w3 ⟨er, rfl, hr, hg3⟩)
        refine bodyPost_ret (v := .tuple #[.string { data := #[] }, .int .i64 0, er]) (by simp [results, Tryd.results18, go_sem]) rfl ?_
        exact UnqEnd.bad HX.out hj (hgr.trans hg3) (hr.mono (by omega))
      | some c =>
        have hjl : j < t.length := (List.getElem?_eq_some_iff.1 hc).1
        have hd := drop_at t j c hc
        have HD := Lib.hid hd
        have hh := Lib.hid (here_some w.heap.size j t c wr hR hc)
        clear hd hc
        have hc256 := c.toNat_lt
        have eq : ∀ k, k < 256 → ¬ c.toNat = k → ¬ c = UInt8.ofNat k := fun k hk h e => h ((u8_eq c k hk).1 e)
        obtain ⟨j1, hj1⟩ : ∃ x, j + 1 = x := ⟨_, rfl⟩
        have hwj : IntKind.i64.wrap ((j : Int) + 1) = (j1 : Int) := by rw [IntWalk.i64_in _ (by omega)]; omega
        have HJ1 := Lib.hid (show j + 1 = j1 ∧ j1 ≤ t.length from ⟨hj1, by omega⟩)
        by_cases h10 : c.toNat = 10
        · have HX : Hid (X = .bad (t.drop j)) := by
            unfold Hid
            rw [← hY.out, HD.out, show c = 10 from (u8_eq c 10 (by omega)).2 h10]; rfl
          have hh2 := hh.out
          rw [h10] at hh2
          simp only [Int.cast_ofNat_Int] at hh2
          have HH2 := Lib.hid hh2
          clear hh hh2 h10 eq hc256 hj1
          go_wp2_with fail
          go_at_call 32
          refine (HH2.out).mono ?_; rintro e w2 ⟨rfl, hg2⟩
          replace hR : Rdr w2 w.heap.size t j := boxAt.later hR hg2
          replace hgr := hgr.trans hg2
          replace hs1 : w1.heap.size ≤ w2.heap.size := by have := hg2.size; omega
          have hown := owns_later HO.out hg2
          have HO2 := Lib.hid hown
          clear hown hg2
          have c1 := boxAt.cell hR 1 _ rfl
          have lp2 := boxAt.lt hR (Nat.succ_pos _)
          go_wp2_with (go_at_call 33; (with_reducible refine (syntax_any _ w.heap.size es ed w2 (HS.out.sy hgr (Nat.le_refl _)) lp2).mono ?_); rintro e w3 ⟨er, rfl, hr, hg3⟩)
          refine bodyPost_ret (v := .tuple #[.string { data := #[] }, .int .i64 0, er]) (by simp [results, Tryd.results18, go_sem]) rfl ?_
          exact UnqEnd.bad HX.out hj (hgr.trans hg3) (hr.mono (by omega))
        have e10 : ((c.toNat : Int) == 10) = false := by simp; omega
        by_cases h34 : c.toNat = 34
        · have HX : Hid (X = .ok acc (t.drop j1)) := by
            unfold Hid
            rw [← hY.out, HD.out, show c = 34 from (u8_eq c 34 (by omega)).2 h34, quotedF_end, hj1]
          have hh2 := hh.out
          rw [h34] at hh2
          simp only [Int.cast_ofNat_Int] at hh2
          have HH2 := Lib.hid hh2
          clear hh hh2 h34 h10 e10 eq hc256 hj1
          go_wp2_with fail
          go_at_call 32
          refine (HH2.out).mono ?_; rintro e w2 ⟨rfl, hg2⟩
          replace hR : Rdr w2 w.heap.size t j := boxAt.later hR hg2
          replace hgr := hgr.trans hg2
          replace hs1 : w1.heap.size ≤ w2.heap.size := by have := hg2.size; omega
          have hown := owns_later HO.out hg2
          have HO2 := Lib.hid hown
          clear hown hg2
          have hcv := conv_owned w2.drew 46 9 5 HO2.out Tryd.underlying46 Tryd.underlying5 Tryd.underlying9 (fun _ => rfl)
          have c1 := boxAt.cell hR 1 _ rfl
          have lp2 := boxAt.lt hR (Nat.succ_pos _)
          go_wp2_with fail
          go_region
          all_goals
            go_wp2
            refine bodyPost_ret (v := .tuple #[.string (st acc), .int .i64 (j1 : Int), .nilIface]) (by simp [results, Tryd.results18, go_sem]) rfl ?_
            exact UnqEnd.ok HX.out HJ1.out.2 (hgr.trans (Gr.drew _))
        have e34 : ((c.toNat : Int) == 34) = false := by simp; omega
        by_cases h92 : c.toNat = 92
        · have hc92 : c = 92 := (u8_eq c 92 (by omega)).2 h92
          have hh2 := hh.out
          rw [h92] at hh2
          simp only [Int.cast_ofNat_Int] at hh2
          have HH2 := Lib.hid hh2
          rw [hj1, hc92] at HD
          clear hh hh2 h92 h34 e34 h10 e10 eq hc256 hj1
          go_wp2_with fail
          go_at_call 32
          refine (HH2.out).mono ?_; rintro e w2 ⟨rfl, hg2⟩
          replace hR : Rdr w2 w.heap.size t j := boxAt.later hR hg2
          replace hgr := hgr.trans hg2
          replace hs1 : w1.heap.size ≤ w2.heap.size := by have := hg2.size; omega
          have hown := owns_later HO.out hg2
          have HO2 := Lib.hid hown
          clear hown hg2
          go_wp2_with fail
          go_at_call 34
          refine (escape_any w.heap.size j t es ed w2 hR hjl hT (HS.out.sy hgr (Nat.le_refl _))).mono ?_; rintro e w4 ⟨hK, hm⟩
          have hgr4 := hK.of_gr hgr (Nat.le_refl _)
          have hszK := hK.size
          have hp2 : w.heap.size < w2.heap.size := boxAt.lt hR (Nat.succ_pos _)
          cases hep : escP (t.drop (j + 1)) with
          | none =>
            rw [hep] at hm
            obtain ⟨er, rfl, hr, _⟩ := hm
            obtain ⟨ty, y, rfl⟩ := hr.iface
            have HX : Hid (X = .bad (t.drop j)) := by
              unfold Hid
              rw [← hY.out, HD.out, quotedF_bad _ _ (by rw [← HJ1.out.1]; exact hep)]
            have HR := Lib.hid hr
            clear hep hr
            go_wp2_with fail
            refine bodyPost_ret (v := .tuple #[.string { data := #[] }, .int .i64 0, .iface ty y]) (by simp [results, Tryd.results18, go_sem]) rfl ?_
            exact UnqEnd.bad HX.out hj hgr4 (HR.out.mono (by omega))
          | some x =>
            obtain ⟨v, r⟩ := x
            rw [hep] at hm
            obtain ⟨rfl, hR4⟩ := hm
            obtain ⟨q, hq1, hq2, rfl⟩ := escP_len hep
            rw [List.length_drop] at hq2
            obtain ⟨j2, hj2⟩ : ∃ x, j + 1 + q = x := ⟨_, rfl⟩
            rw [List.drop_drop, hj2, List.length_drop, show t.length - (t.length - j2) = j2 by omega] at hR4
            have HY2 : Hid (quotedF (t.drop j2) (acc ++ [v]) = X) := by
              unfold Hid
              rw [← hY.out, HD.out, quotedF_esc _ (t.drop j2) _ v (by rw [← HJ1.out.1, hep, List.drop_drop, hj2])]
            have HJ := Lib.hid (show j < j2 ∧ j2 ≤ t.length from by omega)
            have hR5 : Rdr w4 w.heap.size t j2 := hR4
            have HO5 := Lib.hid (owns_kp HO2.out hK (by omega))
            clear hep hR4 hR hgr hK hq1 hq2 hj2
            have hgr := hgr4
            replace hs1 : w1.heap.size ≤ w4.heap.size := Nat.le_trans hs1 hszK
            clear hgr4
            go_wp2_with (at_builtin; refine wpList_append_own _ rfl (.tmp 70) (.tmp 72) 46 rfl w1.heap.size 5 i0 (.int .u8 0) 1 1 Tryd.underlying46 hi hz0 hz1 hz2 rfl (by decide) _ _ _ rfl (HO5.out.alloc _) ⟨w4.heap.size, 0, none⟩ 1 1 [.int .u8 (v.toNat : Int)] rfl rfl ?c1 ?c2 ?c3 ?c4 ?c5 ?_)
            case c1 => exact new1_cell _ _ _
            case c2 => exact one_one _
            case c3 => unfold maxLen; omega
            case c4 => omega
            case c5 => simp; omega
            intro v6 w6 hown6 hgrow _
            have hown' : w6.ownsRow w1.heap.size 5 1 v6 (acc ++ [v]).length ((acc ++ [v]).map vB) := by
              rw [List.length_append, List.map_append]; exact hown6
            have hg6 : Gr w w6 := Gr.grown (hgr.trans (Gr.alloc _ _)) hgrow (fun g hgb => by have := (World.ownsRow.lt HO5.out g hgb).1; omega)
            have hR6 : Rdr w6 w.heap.size t j2 := boxAt.grown (boxAt.later hR5 (Gr.alloc _ _)) hgrow (by simp) (fun e => by have := (World.ownsRow.lt HO5.out _ e).1; omega)
            have HO6 := Lib.hid hown'
            have hs6 : w1.heap.size ≤ w6.heap.size := by have := hgrow.size; simp at this; omega
            clear hown' hown6 hgrow
            go_wp2_with fail
            go_roundw
            case rel => exact ⟨acc ++ [v], j2, by have := HJ.out; have := HB.out; omega, by have := HJ.out; omega, by rw [List.length_append]; simp; have := HJ.out; have := HB.out; omega, by rw [List.length_append]; simp; have := HJ.out; have := HB.out; omega, HY2.out, HO6.out, hR6, hg6, hs6⟩
            case measure =>
              rw [Rdr.at hR6, HAT.out]
              have := HJ.out; omega
        have hc92 : ¬ c = 92 := eq 92 (by omega) h92
        have e92 : ((c.toNat : Int) == 92) = false := by simp; omega
        have HY2 : Hid (quotedF (t.drop j1) (acc ++ [c]) = X) := by
          unfold Hid
          rw [← hY.out, HD.out, quotedF_byte c _ _ (eq 10 (by omega) h10) (eq 34 (by omega) h34) hc92, hj1]
        clear hc92 h92 h34 h10 eq hc256 hj1
        go_wp2_with fail
        go_at_call 32
        refine (hh.out).mono ?_; rintro e w2 ⟨rfl, hg2⟩
        replace hR : Rdr w2 w.heap.size t j := boxAt.later hR hg2
        replace hgr := hgr.trans hg2
        replace hs1 : w1.heap.size ≤ w2.heap.size := by have := hg2.size; omega
        have hown := owns_later HO.out hg2
        have HO2 := Lib.hid hown
        clear hown hg2
        have c1 := boxAt.cell hR 1 _ rfl
        have m1 := boxAt.mark hR 1 _ rfl
        have lp2 := boxAt.lt hR (Nat.succ_pos _)
        go_upto_region 17 with fail
        refine name_world (fun W5 hW => ?_)
        have hR5 : Rdr W5 w.heap.size t j1 := by rw [hW]; exact boxAt.put hR 1 _ (by simp)
        have HO5 := Lib.hid (show W5.ownsRow w1.heap.size 5 1 _ _ _ from by rw [hW]; exact owns_kp HO2.out ((Kp.refl _ _).at_p 1 _) (by omega))
        replace hgr : Gr w W5 := by rw [hW]; exact hgr.setCell (p := ⟨w.heap.size, 1, none⟩) (Nat.le_refl _) _
        replace hs1 : w1.heap.size ≤ W5.heap.size := by rw [hW, size_set]; exact hs1
        have HJ := Lib.hid (show j < j1 ∧ j1 ≤ t.length from ⟨by have := HJ1.out; omega, HJ1.out.2⟩)
        clear hW c1 m1 lp2 hR
        go_wp2_with (at_builtin; refine wpList_append_own _ rfl (.tmp 70) (.tmp 72) 46 rfl w1.heap.size 5 i0 (.int .u8 0) 1 1 Tryd.underlying46 hi hz0 hz1 hz2 rfl (by decide) _ _ _ rfl (HO5.out.alloc _) ⟨W5.heap.size, 0, none⟩ 1 1 [.int .u8 (c.toNat : Int)] rfl rfl ?c1 ?c2 ?c3 ?c4 ?c5 ?_)
        case c1 => exact new1_cell _ _ _
        case c2 => exact one_one _
        case c3 => unfold maxLen; omega
        case c4 => omega
        case c5 => simp; omega
        intro v6 w6 hown6 hgrow _
        have hown' : w6.ownsRow w1.heap.size 5 1 v6 (acc ++ [c]).length ((acc ++ [c]).map vB) := by
          rw [List.length_append, List.map_append]; exact hown6
        have hg6 : Gr w w6 := Gr.grown (hgr.trans (Gr.alloc _ _)) hgrow (fun g hgb => by have := (World.ownsRow.lt HO5.out g hgb).1; omega)
        have hR6 : Rdr w6 w.heap.size t j1 := boxAt.grown (boxAt.later hR5 (Gr.alloc _ _)) hgrow (by simp) (fun e => by have := (World.ownsRow.lt HO5.out _ e).1; omega)
        have HO6 := Lib.hid hown'
        have hs6 : w1.heap.size ≤ w6.heap.size := by have := hgrow.size; simp at this; omega
        clear hown' hown6 hgrow
        go_wp2_with fail
        go_roundw
        case rel => exact ⟨acc ++ [c], j1, by have := HJ.out; have := HB.out; omega, by have := HJ.out; omega, by rw [List.length_append]; simp; have := HJ.out; have := HB.out; omega, by rw [List.length_append]; simp; have := HJ.out; have := HB.out; omega, HY2.out, HO6.out, hR6, hg6, hs6⟩
        case measure =>
          rw [Rdr.at hR6, HAT.out]
          have := HJ.out; omega
  · obtain ⟨ty, y, rfl⟩ := hr.iface
    have HX : Hid (X = .bad (t.drop n)) := by
      unfold Hid
      rw [← hX, if_neg]
      intro h
      cases hd : t[n]? with
      | none =>
        have hl : t.length ≤ n := by
          rcases Nat.lt_or_ge n t.length with h | h
          · rw [List.getElem?_eq_getElem h] at hd; cases hd
          · exact h
        rw [List.drop_of_length_le hl] at h; cases h
      | some c =>
        rw [drop_at t n c hd, pre_no (fun h => hc (by rw [hd, h]))] at h; cases h
    have HR := Lib.hid hr
    clear hr hc hn hX
    go_wp2_with fail
    refine bodyPost_ret (v := .tuple #[.string { data := #[] }, .int .i64 0, .iface ty y]) (by simp [results, Tryd.results18, go_sem]) rfl ?_
    exact UnqEnd.bad HX.out hnl hg HR.out

end Go.Proofs.YtihjmeoklbmnmaaDoor
