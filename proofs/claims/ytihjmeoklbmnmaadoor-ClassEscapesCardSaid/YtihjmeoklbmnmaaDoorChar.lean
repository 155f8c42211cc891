/- class: char. No condition but a length's bound. -/
import Derived.Test.YtihjmeoklbmnmaaDoorEscape
namespace Go.Proofs.YtihjmeoklbmnmaaDoor
open Go Go.RowKit

/-- How a byte of a class ends. -/
def CharEnd (es : Value) (p k : Nat) (t : List UInt8) (w : World) (e : Ending) (w' : World) : Prop :=
  Kp p w w' ∧ match charP (t.drop k) with
    | some (v, r) => e = .returned (.tuple #[.int .u8 (v.toNat : Int), .nilIface]) ∧ Rdr w' p t (t.length - r.length)
    | none => ∃ er, e = .returned (.tuple #[.int .u8 0, er]) ∧ Refused w' w.heap.size es er (k : Int) ∧ Any w' p t
theorem CharEnd.ok {es : Value} {p k j : Nat} {t : List UInt8} {w w' : World} {v : UInt8} (he : charP (t.drop k) = some (v, t.drop j)) (hj : j ≤ t.length) (hK : Kp p w w') (hR : Rdr w' p t j) :
    CharEnd es p k t w (.returned (.tuple #[.int .u8 (v.toNat : Int), .nilIface])) w' := by
  refine ⟨hK, ?_⟩
  rw [he]
  refine ⟨rfl, ?_⟩
  rw [List.length_drop, show t.length - (t.length - j) = j by omega]; exact hR
theorem CharEnd.bad {es er : Value} {p k : Nat} {t : List UInt8} {w w1 w' : World} (he : charP (t.drop k) = none) (hK : Kp p w w1) (hK2 : Kp p w1 w') (hR : Refused w' w1.heap.size es er (k : Int)) (hA : Any w' p t) :
    CharEnd es p k t w (.returned (.tuple #[.int .u8 0, er])) w' := by
  refine ⟨hK.trans hK2, ?_⟩
  rw [he]
  exact ⟨er, rfl, hR.mono hK.size, hA⟩

set_option maxRecDepth 100000 in
set_option maxHeartbeats 8000000 in
theorem char_any (p k : Nat) (t : List UInt8) (es ed : Value) (w : World) (h : Rdr w p t k) (hT : (t.length : Int) ≤ 4294967280) (hS : Sy w p es ed) :
    Calls Tryd.prog 67 #[.pointer (some ⟨p, 0, none⟩)] w (CharEnd es p k t w) := by
  have hS' := Lib.hid hS
  have H0 := Lib.hid h
  have lp := boxAt.lt h (Nat.succ_pos _)
  clear hS
  cases hc : t[k]? with
  | none =>
    have hl : t.length ≤ k := by
      rcases Nat.lt_or_ge k t.length with h | h
      · rw [List.getElem?_eq_getElem h] at hc; cases hc
      · exact h
    have hh := Lib.hid (here_none p k t w h hl)
    clear h hc
    go_enter Tryd.func67, Tryd.ntmps67
    go_wp2_with fail
    go_at_call 32
    refine (hh.out).mono ?_; rintro e w1 ⟨rfl, hg⟩
    have hK1 : Kp p w w1 := Kp.gr hg
    have hR1 : Rdr w1 p t k := boxAt.later H0.out hg
    have hS1 := Lib.hid (hS'.out.kept hK1)
    have c1 := boxAt.cell hR1 1 _ rfl
    have lp1 := boxAt.lt hR1 (Nat.succ_pos _)
    go_wp2_with (go_at_call 33; (with_reducible refine (syntax_any _ p es ed _ hS1.out lp1).mono ?_); rintro e w2 ⟨er, rfl, hr, hg2⟩)
    refine bodyPost_ret (v := .tuple #[.int .u8 0, er]) (by simp [results, Tryd.results67, go_sem]) rfl ?_
    refine CharEnd.bad ?_ hK1 (Kp.gr hg2) hr ⟨_, boxAt.later hR1 hg2⟩
    rw [List.drop_of_length_le hl]; rfl
  | some c =>
    have hl : k < t.length := (List.getElem?_eq_some_iff.1 hc).1
    have hd := drop_at t k c hc
    have hcp : charP (t.drop k) = if c = 91 ∨ c = 93 ∨ c = 45 ∨ c = 10 then none else if c = 92 then escP (t.drop (k + 1)) else some (c, t.drop (k + 1)) := by rw [hd, charP_cons]
    have hh := Lib.hid (here_some p k t c w h hc)
    have HL := Lib.hid hl
    clear h hd hc hl
    have hc256 := c.toNat_lt
    have eq : ∀ k, k < 256 → ¬ c.toNat = k → ¬ c = UInt8.ofNat k := fun k hk h e => h ((u8_eq c k hk).1 e)
    by_cases hb : c.toNat = 91 ∨ c.toNat = 93 ∨ c.toNat = 45 ∨ c.toNat = 10
    · have HB : Hid (charP (t.drop k) = none) := by
        refine Lib.hid ?_
        rw [hcp, if_pos]
        rw [← u8_eq c 91 (by omega), ← u8_eq c 93 (by omega), ← u8_eq c 45 (by omega), ← u8_eq c 10 (by omega)] at hb
        exact hb
      clear hcp eq hc256
      have fin : ∀ (w1 : World), Gr w w1 → ∀ er w2, Refused w2 w1.heap.size es er (k : Int) → Gr w1 w2 → CharEnd es p k t w (.returned (.tuple #[.int .u8 0, er])) w2 := fun w1 hg er w2 hr hg2 => CharEnd.bad HB.out (Kp.gr hg) (Kp.gr hg2) hr ⟨_, boxAt.later (boxAt.later H0.out hg) hg2⟩
      have FIN := Lib.hid fin
      clear fin
      rcases hb with hb | hb | hb | hb
      all_goals
        rw [hb] at hh
        have hh2 := hh.out
        simp only [Int.cast_ofNat_Int] at hh2
        have HH2 := Lib.hid hh2
        clear hh hh2 hb
        go_enter Tryd.func67, Tryd.ntmps67
        go_wp2_with fail
        go_at_call 32
        refine (HH2.out).mono ?_; rintro e w1 ⟨rfl, hg⟩
        have hR1 : Rdr w1 p t k := boxAt.later H0.out hg
        have hS1 := Lib.hid (hS'.out.kept (Kp.gr hg))
        have c1 := boxAt.cell hR1 1 _ rfl
        have lp1 := boxAt.lt hR1 (Nat.succ_pos _)
        go_wp2_with (go_at_call 33; (with_reducible refine (syntax_any _ p es ed _ hS1.out lp1).mono ?_); rintro e w2 ⟨er, rfl, hr, hg2⟩)
        refine bodyPost_ret (v := .tuple #[.int .u8 0, er]) (by simp [results, Tryd.results67, go_sem]) rfl ?_
        exact FIN.out _ hg _ _ hr hg2
    · simp only [not_or] at hb
      have e91 : ((c.toNat : Int) == 91) = false := by simp; omega
      have e93 : ((c.toNat : Int) == 93) = false := by simp; omega
      have e45 : ((c.toNat : Int) == 45) = false := by simp; omega
      have e10 : ((c.toNat : Int) == 10) = false := by simp; omega
      rw [if_neg (by
        rintro (h | h | h | h)
        · exact eq 91 (by omega) hb.1 h
        · exact eq 93 (by omega) hb.2.1 h
        · exact eq 45 (by omega) hb.2.2.1 h
        · exact eq 10 (by omega) hb.2.2.2 h)] at hcp
      by_cases h92 : c.toNat = 92
      · rw [if_pos (show c = 92 from (u8_eq c 92 (by omega)).2 h92)] at hcp
        have HCP := Lib.hid hcp
        have hh2 := hh.out
        rw [h92] at hh2
        simp only [Int.cast_ofNat_Int] at hh2
        have HH2 := Lib.hid hh2
        clear hh2 hh hb e91 e93 e45 e10 eq hcp h92 hc256
        go_enter Tryd.func67, Tryd.ntmps67
        go_wp2_with fail
        go_at_call 32
        refine (HH2.out).mono ?_; rintro e w1 ⟨rfl, hg⟩
        have hK1 : Kp p w w1 := Kp.gr hg
        have hR1 : Rdr w1 p t k := boxAt.later H0.out hg
        have hS1 := hS'.out.kept hK1
        go_wp2_with fail
        go_at_call 34
        refine (escape_any p k t es ed w1 hR1 HL.out hT hS1).mono ?_; rintro e w2 ⟨hK2, hm⟩
        cases hep : escP (t.drop (k + 1)) with
        | none =>
          rw [hep] at hm
          obtain ⟨er, rfl, hr, hA⟩ := hm
          have HE := Lib.hid hep
          clear hep
          go_wp2_with fail
          refine bodyPost_ret (v := .tuple #[.int .u8 0, er]) (by simp [results, Tryd.results67, go_sem]) rfl ?_
          exact CharEnd.bad (by rw [HCP.out]; exact HE.out) hK1 hK2 hr hA
        | some x =>
          obtain ⟨v, r⟩ := x
          rw [hep] at hm
          obtain ⟨rfl, hr⟩ := hm
          obtain ⟨j, hj1, hj2, rfl⟩ := escP_len hep
          have HE := Lib.hid hep
          rw [List.length_drop] at hj2
          have HJ := Lib.hid (show k + 1 + j ≤ t.length by omega)
          have hr2 : Rdr w2 p t (k + 1 + j) := by
            rw [List.drop_drop, List.length_drop, show t.length - (t.length - (k + 1 + j)) = k + 1 + j by have := HJ.out; omega] at hr; exact hr
          have HR := Lib.hid hr2
          clear hep hr hr2 hj1 hj2
          go_wp2_with fail
          refine bodyPost_ret (v := .tuple #[.int .u8 (v.toNat : Int), .nilIface]) (by simp [results, Tryd.results67, go_sem]) rfl ?_
          exact CharEnd.ok (j := k + 1 + j) (by rw [HCP.out, HE.out, List.drop_drop]) HJ.out (hK1.trans hK2) HR.out
      · rw [if_neg (show ¬ c = 92 from eq 92 (by omega) h92)] at hcp
        have e92 : ((c.toNat : Int) == 92) = false := by simp; omega
        have HCP := Lib.hid hcp
        obtain ⟨k1, hk1⟩ : ∃ x, k + 1 = x := ⟨_, rfl⟩
        have hw1 : IntKind.i64.wrap ((k : Int) + 1) = (k1 : Int) := by rw [IntWalk.i64_in _ (by have := HL.out; omega)]; omega
        have HK1 := Lib.hid hk1
        clear hk1 hb eq hcp h92 hc256
        go_enter Tryd.func67, Tryd.ntmps67
        go_wp2_with fail
        go_at_call 32
        refine (hh.out).mono ?_; rintro e w1 ⟨rfl, hg⟩
        have hK1 : Kp p w w1 := Kp.gr hg
        have hR1 : Rdr w1 p t k := boxAt.later H0.out hg
        have HR1 := Lib.hid hR1
        have c1 := boxAt.cell hR1 1 _ rfl
        have m1 := boxAt.mark hR1 1 _ rfl
        have lp1 := boxAt.lt hR1 (Nat.succ_pos _)
        clear hR1
        go_wp2_with fail
        refine bodyPost_ret (v := .tuple #[.int .u8 (c.toNat : Int), .nilIface]) (by simp [results, Tryd.results67, go_sem]) rfl ?_
        exact CharEnd.ok (j := k1) (by rw [HCP.out, HK1.out]) (by have := HL.out; have := HK1.out; omega) (hK1.at_p 1 _) (boxAt.put HR1.out 1 _ (by simp))

end Go.Proofs.YtihjmeoklbmnmaaDoor
