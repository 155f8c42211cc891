/- Texts of mine, put together: Char, Named, Name. No condition but what each says. -/
import Derived.Test.YtihjmeoklbmnmaaDoorPEscape
import Derived.RegionTactic

/- class: char. No condition but a length's bound. -/
namespace Go.Proofs.YtihjmeoklbmnmaaDoor
open Go Go.RowKit

/-- How a byte of a class ends. -/
def CharEnd (es : Value) (p k : Nat) (t : List UInt8) (w : World) (e : Ending) (w' : World) : Prop :=
  Kp p w w' ∧ match charP (t.drop k) with
    | some (v, r) => e = .returned (.tuple #[.int .u8 (v.toNat : Int), .nilIface]) ∧ Rdr w' p t (t.length - r.length)
    | none => ∃ er, e = .returned (.tuple #[.int .u8 0, er]) ∧ Refused w' w.heap.size es er (k : Int) ∧ Any w' p t
theorem CharEnd.ok {es : Value} {p k j : Nat} {t : List UInt8} {w w' : World} {v : UInt8} (he : charP (t.drop k) = some (v, t.drop j)) (hj : j ≤ t.length) (hK : Kp p w w') (hR : Rdr w' p t j) :
    CharEnd es p k t w (.returned (.tuple #[.int .u8 (v.toNat : Int), .nilIface])) w' := by
  refine ⟨hK, ?_⟩
  rw [he]
  refine ⟨rfl, ?_⟩
  rw [List.length_drop, show t.length - (t.length - j) = j by omega]; exact hR
theorem CharEnd.bad {es er : Value} {p k : Nat} {t : List UInt8} {w w1 w' : World} (he : charP (t.drop k) = none) (hK : Kp p w w1) (hK2 : Kp p w1 w') (hR : Refused w' w1.heap.size es er (k : Int)) (hA : Any w' p t) :
    CharEnd es p k t w (.returned (.tuple #[.int .u8 0, er])) w' := by
  refine ⟨hK.trans hK2, ?_⟩
  rw [he]
  exact ⟨er, rfl, hR.mono hK.size, hA⟩

set_option maxRecDepth 100000 in
set_option maxHeartbeats 8000000 in
theorem char_any (p k : Nat) (t : List UInt8) (es ed : Value) (w : World) (h : Rdr w p t k) (hT : (t.length : Int) ≤ 4294967280) (hS : Sy w p es ed) :
    Calls Tryd.prog 67 #[.pointer (some ⟨p, 0, none⟩)] w (CharEnd es p k t w) := by
  have hS' := Lib.hid hS
  have H0 := Lib.hid h
  have lp := boxAt.lt h (Nat.succ_pos _)
  clear hS
  cases hc : t[k]? with
  | none =>
    have hl : t.length ≤ k := by
      rcases Nat.lt_or_ge k t.length with h | h
      · rw [List.getElem?_eq_getElem h] at hc; cases hc
      · exact h
    have hh := Lib.hid (here_none p k t w h hl)
    clear h hc
    go_enter Tryd.func67, Tryd.ntmps67
    go_wp2_with fail
    go_at_call 32
    refine (hh.out).mono ?_; rintro e w1 ⟨rfl, hg⟩
    have hK1 : Kp p w w1 := Kp.gr hg
    have hR1 : Rdr w1 p t k := boxAt.later H0.out hg
    have hS1 := Lib.hid (hS'.out.kept hK1)
    have c1 := boxAt.cell hR1 1 _ rfl
    have lp1 := boxAt.lt hR1 (Nat.succ_pos _)
    go_wp2_with (go_at_call 33; (with_reducible refine (syntax_any _ p es ed _ hS1.out lp1).mono ?_); rintro e w2 ⟨er, rfl, hr, hg2⟩)
    refine bodyPost_ret (v := .tuple #[.int .u8 0, er]) (by simp [results, Tryd.results67, go_sem]) rfl ?_
    refine CharEnd.bad ?_ hK1 (Kp.gr hg2) hr ⟨_, boxAt.later hR1 hg2⟩
    rw [List.drop_of_length_le hl]; rfl
  | some c =>
    have hl : k < t.length := (List.getElem?_eq_some_iff.1 hc).1
    have hd := drop_at t k c hc
    have hcp : charP (t.drop k) = if c = 91 ∨ c = 93 ∨ c = 45 ∨ c = 10 then none else if c = 92 then escP (t.drop (k + 1)) else some (c, t.drop (k + 1)) := by rw [hd, charP_cons]
    have hh := Lib.hid (here_some p k t c w h hc)
    have HL := Lib.hid hl
    clear h hd hc hl
    have hc256 := c.toNat_lt
    have eq : ∀ k, k < 256 → ¬ c.toNat = k → ¬ c = UInt8.ofNat k := fun k hk h e => h ((u8_eq c k hk).1 e)
    by_cases hb : c.toNat = 91 ∨ c.toNat = 93 ∨ c.toNat = 45 ∨ c.toNat = 10
    · have HB : Hid (charP (t.drop k) = none) := by
        refine Lib.hid ?_
        rw [hcp, if_pos]
        rw [← u8_eq c 91 (by omega), ← u8_eq c 93 (by omega), ← u8_eq c 45 (by omega), ← u8_eq c 10 (by omega)] at hb
        exact hb
      clear hcp eq hc256
      have fin : ∀ (w1 : World), Gr w w1 → ∀ er w2, Refused w2 w1.heap.size es er (k : Int) → Gr w1 w2 → CharEnd es p k t w (.returned (.tuple #[.int .u8 0, er])) w2 := fun w1 hg er w2 hr hg2 => CharEnd.bad HB.out (Kp.gr hg) (Kp.gr hg2) hr ⟨_, boxAt.later (boxAt.later H0.out hg) hg2⟩
      have FIN := Lib.hid fin
      clear fin
      rcases hb with hb | hb | hb | hb
      all_goals
        rw [hb] at hh
        have hh2 := hh.out
        simp only [Int.cast_ofNat_Int] at hh2
        have HH2 := Lib.hid hh2
        clear hh hh2 hb
        go_enter Tryd.func67, Tryd.ntmps67
        go_wp2_with fail
        go_at_call 32
        refine (HH2.out).mono ?_; rintro e w1 ⟨rfl, hg⟩
        have hR1 : Rdr w1 p t k := boxAt.later H0.out hg
        have hS1 := Lib.hid (hS'.out.kept (Kp.gr hg))
        have c1 := boxAt.cell hR1 1 _ rfl
        have lp1 := boxAt.lt hR1 (Nat.succ_pos _)
        go_wp2_with (go_at_call 33; (with_reducible refine (syntax_any _ p es ed _ hS1.out lp1).mono ?_); rintro e w2 ⟨er, rfl, hr, hg2⟩)
        refine bodyPost_ret (v := .tuple #[.int .u8 0, er]) (by simp [results, Tryd.results67, go_sem]) rfl ?_
        exact FIN.out _ hg _ _ hr hg2
    · simp only [not_or] at hb
      have e91 : ((c.toNat : Int) == 91) = false := by simp; omega
      have e93 : ((c.toNat : Int) == 93) = false := by simp; omega
      have e45 : ((c.toNat : Int) == 45) = false := by simp; omega
      have e10 : ((c.toNat : Int) == 10) = false := by simp; omega
      rw [if_neg (by
        rintro (h | h | h | h)
        · exact eq 91 (by omega) hb.1 h
        · exact eq 93 (by omega) hb.2.1 h
        · exact eq 45 (by omega) hb.2.2.1 h
        · exact eq 10 (by omega) hb.2.2.2 h)] at hcp
      by_cases h92 : c.toNat = 92
      · rw [if_pos (show c = 92 from (u8_eq c 92 (by omega)).2 h92)] at hcp
        have HCP := Lib.hid hcp
        have hh2 := hh.out
        rw [h92] at hh2
        simp only [Int.cast_ofNat_Int] at hh2
        have HH2 := Lib.hid hh2
        clear hh2 hh hb e91 e93 e45 e10 eq hcp h92 hc256
        go_enter Tryd.func67, Tryd.ntmps67
        go_wp2_with fail
        go_at_call 32
        refine (HH2.out).mono ?_; rintro e w1 ⟨rfl, hg⟩
        have hK1 : Kp p w w1 := Kp.gr hg
        have hR1 : Rdr w1 p t k := boxAt.later H0.out hg
        have hS1 := hS'.out.kept hK1
        go_wp2_with fail
        go_at_call 34
        refine (escape_any p k t es ed w1 hR1 HL.out hT hS1).mono ?_; rintro e w2 ⟨hK2, hm⟩
        cases hep : escP (t.drop (k + 1)) with
        | none =>
          rw [hep] at hm
          obtain ⟨er, rfl, hr, hA⟩ := hm
          have HE := Lib.hid hep
          clear hep
          go_wp2_with fail
          refine bodyPost_ret (v := .tuple #[.int .u8 0, er]) (by simp [results, Tryd.results67, go_sem]) rfl ?_
          exact CharEnd.bad (by rw [HCP.out]; exact HE.out) hK1 hK2 hr hA
        | some x =>
          obtain ⟨v, r⟩ := x
          rw [hep] at hm
          obtain ⟨rfl, hr⟩ := hm
          obtain ⟨j, hj1, hj2, rfl⟩ := escP_len hep
          have HE := Lib.hid hep
          rw [List.length_drop] at hj2
          have HJ := Lib.hid (show k + 1 + j ≤ t.length by omega)
          have hr2 : Rdr w2 p t (k + 1 + j) := by
            rw [List.drop_drop, List.length_drop, show t.length - (t.length - (k + 1 + j)) = k + 1 + j by have := HJ.out; omega] at hr; exact hr
          have HR := Lib.hid hr2
          clear hep hr hr2 hj1 hj2
          go_wp2_with fail
          refine bodyPost_ret (v := .tuple #[.int .u8 (v.toNat : Int), .nilIface]) (by simp [results, Tryd.results67, go_sem]) rfl ?_
          exact CharEnd.ok (j := k + 1 + j) (by rw [HCP.out, HE.out, List.drop_drop]) HJ.out (hK1.trans hK2) HR.out
      · rw [if_neg (show ¬ c = 92 from eq 92 (by omega) h92)] at hcp
        have e92 : ((c.toNat : Int) == 92) = false := by simp; omega
        have HCP := Lib.hid hcp
        obtain ⟨k1, hk1⟩ : ∃ x, k + 1 = x := ⟨_, rfl⟩
        have hw1 : IntKind.i64.wrap ((k : Int) + 1) = (k1 : Int) := by rw [IntWalk.i64_in _ (by have := HL.out; omega)]; omega
        have HK1 := Lib.hid hk1
        clear hk1 hb eq hcp h92 hc256
        go_enter Tryd.func67, Tryd.ntmps67
        go_wp2_with fail
        go_at_call 32
        refine (hh.out).mono ?_; rintro e w1 ⟨rfl, hg⟩
        have hK1 : Kp p w w1 := Kp.gr hg
        have hR1 : Rdr w1 p t k := boxAt.later H0.out hg
        have HR1 := Lib.hid hR1
        have c1 := boxAt.cell hR1 1 _ rfl
        have m1 := boxAt.mark hR1 1 _ rfl
        have lp1 := boxAt.lt hR1 (Nat.succ_pos _)
        clear hR1
        go_wp2_with fail
        refine bodyPost_ret (v := .tuple #[.int .u8 (c.toNat : Int), .nilIface]) (by simp [results, Tryd.results67, go_sem]) rfl ?_
        exact CharEnd.ok (j := k1) (by rw [HCP.out, HK1.out]) (by have := HL.out; have := HK1.out; omega) (hK1.at_p 1 _) (boxAt.put HR1.out 1 _ (by simp))

end Go.Proofs.YtihjmeoklbmnmaaDoor

/- class: named. No condition. Printed by gen_named.py. -/
namespace Go.Proofs.YtihjmeoklbmnmaaDoor
open Go Go.RowKit

theorem sl_alloc (w : World) (cs : List Value) (e : TypeId) (k n : Nat) (h : cs.length = n * k) (hn : n ≤ maxLen) : Sl (w.alloc (.cells cs.toArray e)) (.slice (some ⟨w.heap.size, 0, none⟩) n n) k n cs :=
  ⟨h, hn, .inr ⟨w.heap.size, 0, n, rfl, fun _ => by simp, fun j u hj => by rw [Nat.zero_add]; exact (boxAt.new cs e rfl j u hj).1⟩⟩

set_option maxRecDepth 100000 in
set_option maxHeartbeats 2000000 in
theorem named_digit (w : World) : Calls Tryd.prog 74 #[.string (st [100, 105, 103, 105, 116])] w fun e w' => e = .returned (.tuple #[.agg #[.int .u64 (wd digitS 0), .int .u64 (wd digitS 1), .int .u64 (wd digitS 2), .int .u64 (wd digitS 3)], .bool true]) ∧ Gr w w' := by
  have hst := st_list [100, 105, 103, 105, 116]
  go_enter Tryd.func74, Tryd.ntmps74
  go_wp2_with fail
  go_at_call 55
  refine name_calls (fun W0 hW => ?_)
  have xr : boxAt W0 w.heap.size [.int .u64 0, .int .u64 0, .int .u64 0, .int .u64 0] := boxAt.new _ _ hW
  have hgW : Gr w W0 := by rw [hW]; exact Gr.alloc _ _
  clear hW
  refine (digit_any W0).mono ?_; rintro e w_0 ⟨rfl, hb⟩
  have xr := xr.later hb
  replace hgW := hgW.trans hb
  clear hb
  have c_r0 := xr.cell 0 _ rfl
  have c_r1 := xr.cell 1 _ rfl
  have c_r2 := xr.cell 2 _ rfl
  have c_r3 := xr.cell 3 _ rfl
  have m_r0 := xr.mark 0 _ rfl
  have m_r1 := xr.mark 1 _ rfl
  have m_r2 := xr.mark 2 _ rfl
  have m_r3 := xr.mark 3 _ rfl
  have l_r := xr.lt (Nat.succ_pos _)
  go_wp2
  refine bodyPost_ret (v := .tuple #[.agg #[.int .u64 (wd digitS 0), .int .u64 (wd digitS 1), .int .u64 (wd digitS 2), .int .u64 (wd digitS 3)], .bool true]) (by simp [results, Tryd.results74, go_sem, c_r0, c_r1, c_r2, c_r3]) rfl ⟨rfl, ?_⟩
  exact Below.put4 hgW (Nat.le_refl _) _ _ _ _
set_option maxRecDepth 100000 in
set_option maxHeartbeats 2000000 in
theorem named_lower (w : World) : Calls Tryd.prog 74 #[.string (st [108, 111, 119, 101, 114])] w fun e w' => e = .returned (.tuple #[.agg #[.int .u64 (wd lowerS 0), .int .u64 (wd lowerS 1), .int .u64 (wd lowerS 2), .int .u64 (wd lowerS 3)], .bool true]) ∧ Gr w w' := by
  have hst := st_list [108, 111, 119, 101, 114]
  go_enter Tryd.func74, Tryd.ntmps74
  go_wp2_with fail
  go_at_call 56
  refine name_calls (fun W0 hW => ?_)
  have xr : boxAt W0 w.heap.size [.int .u64 0, .int .u64 0, .int .u64 0, .int .u64 0] := boxAt.new _ _ hW
  have hgW : Gr w W0 := by rw [hW]; exact Gr.alloc _ _
  clear hW
  refine (lower_any W0).mono ?_; rintro e w_0 ⟨rfl, hb⟩
  have xr := xr.later hb
  replace hgW := hgW.trans hb
  clear hb
  have c_r0 := xr.cell 0 _ rfl
  have c_r1 := xr.cell 1 _ rfl
  have c_r2 := xr.cell 2 _ rfl
  have c_r3 := xr.cell 3 _ rfl
  have m_r0 := xr.mark 0 _ rfl
  have m_r1 := xr.mark 1 _ rfl
  have m_r2 := xr.mark 2 _ rfl
  have m_r3 := xr.mark 3 _ rfl
  have l_r := xr.lt (Nat.succ_pos _)
  go_wp2
  refine bodyPost_ret (v := .tuple #[.agg #[.int .u64 (wd lowerS 0), .int .u64 (wd lowerS 1), .int .u64 (wd lowerS 2), .int .u64 (wd lowerS 3)], .bool true]) (by simp [results, Tryd.results74, go_sem, c_r0, c_r1, c_r2, c_r3]) rfl ⟨rfl, ?_⟩
  exact Below.put4 hgW (Nat.le_refl _) _ _ _ _
set_option maxRecDepth 100000 in
set_option maxHeartbeats 2000000 in
theorem named_upper (w : World) : Calls Tryd.prog 74 #[.string (st [117, 112, 112, 101, 114])] w fun e w' => e = .returned (.tuple #[.agg #[.int .u64 (wd upperS 0), .int .u64 (wd upperS 1), .int .u64 (wd upperS 2), .int .u64 (wd upperS 3)], .bool true]) ∧ Gr w w' := by
  have hst := st_list [117, 112, 112, 101, 114]
  go_enter Tryd.func74, Tryd.ntmps74
  go_wp2_with fail
  go_at_call 57
  refine name_calls (fun W0 hW => ?_)
  have xr : boxAt W0 w.heap.size [.int .u64 0, .int .u64 0, .int .u64 0, .int .u64 0] := boxAt.new _ _ hW
  have hgW : Gr w W0 := by rw [hW]; exact Gr.alloc _ _
  clear hW
  refine (upper_any W0).mono ?_; rintro e w_0 ⟨rfl, hb⟩
  have xr := xr.later hb
  replace hgW := hgW.trans hb
  clear hb
  have c_r0 := xr.cell 0 _ rfl
  have c_r1 := xr.cell 1 _ rfl
  have c_r2 := xr.cell 2 _ rfl
  have c_r3 := xr.cell 3 _ rfl
  have m_r0 := xr.mark 0 _ rfl
  have m_r1 := xr.mark 1 _ rfl
  have m_r2 := xr.mark 2 _ rfl
  have m_r3 := xr.mark 3 _ rfl
  have l_r := xr.lt (Nat.succ_pos _)
  go_wp2
  refine bodyPost_ret (v := .tuple #[.agg #[.int .u64 (wd upperS 0), .int .u64 (wd upperS 1), .int .u64 (wd upperS 2), .int .u64 (wd upperS 3)], .bool true]) (by simp [results, Tryd.results74, go_sem, c_r0, c_r1, c_r2, c_r3]) rfl ⟨rfl, ?_⟩
  exact Below.put4 hgW (Nat.le_refl _) _ _ _ _
set_option maxRecDepth 100000 in
set_option maxHeartbeats 2000000 in
theorem named_alpha (w : World) : Calls Tryd.prog 74 #[.string (st [97, 108, 112, 104, 97])] w fun e w' => e = .returned (.tuple #[.agg #[.int .u64 (wd (lowerS ||| upperS) 0), .int .u64 (wd (lowerS ||| upperS) 1), .int .u64 (wd (lowerS ||| upperS) 2), .int .u64 (wd (lowerS ||| upperS) 3)], .bool true]) ∧ Gr w w' := by
  have hst := st_list [97, 108, 112, 104, 97]
  go_enter Tryd.func74, Tryd.ntmps74
  go_wp2_with fail
  go_at_call 56
  refine name_calls (fun W0 hW => ?_)
  have xr : boxAt W0 w.heap.size [.int .u64 0, .int .u64 0, .int .u64 0, .int .u64 0] := boxAt.new _ _ hW
  have hgW : Gr w W0 := by rw [hW]; exact Gr.alloc _ _
  clear hW
  refine (lower_any W0).mono ?_; rintro e w_0 ⟨rfl, hb⟩
  have xr := xr.later hb
  replace hgW := hgW.trans hb
  clear hb
  go_wp2_with fail
  go_at_call 57
  refine name_calls (fun W1 hW => ?_)
  have hgi : Gr w_0 W1 := by rw [hW]; exact Gr.refl _
  have xr := xr.later hgi
  replace hgW := hgW.trans hgi
  clear hW
  refine (upper_any W1).mono ?_; rintro e w_1 ⟨rfl, hb⟩
  have xr := xr.later hb
  replace hgW := hgW.trans hb
  clear hb
  go_wp2_with fail
  go_at_call 15
  refine name_calls (fun W2 hW => ?_)
  have hgi : Gr w_1 W2 := by rw [hW]; exact Gr.refl _
  have xr := xr.later hgi
  replace hgW := hgW.trans hgi
  clear hW
  refine (union_any _ _ W2).mono ?_; rintro e w_2 ⟨rfl, hb⟩
  have xr := xr.later hb
  replace hgW := hgW.trans hb
  clear hb
  have c_r0 := xr.cell 0 _ rfl
  have c_r1 := xr.cell 1 _ rfl
  have c_r2 := xr.cell 2 _ rfl
  have c_r3 := xr.cell 3 _ rfl
  have m_r0 := xr.mark 0 _ rfl
  have m_r1 := xr.mark 1 _ rfl
  have m_r2 := xr.mark 2 _ rfl
  have m_r3 := xr.mark 3 _ rfl
  have l_r := xr.lt (Nat.succ_pos _)
  go_wp2
  refine bodyPost_ret (v := .tuple #[.agg #[.int .u64 (wd (lowerS ||| upperS) 0), .int .u64 (wd (lowerS ||| upperS) 1), .int .u64 (wd (lowerS ||| upperS) 2), .int .u64 (wd (lowerS ||| upperS) 3)], .bool true]) (by simp [results, Tryd.results74, go_sem, c_r0, c_r1, c_r2, c_r3]) rfl ⟨rfl, ?_⟩
  exact Below.put4 hgW (Nat.le_refl _) _ _ _ _
set_option maxRecDepth 100000 in
set_option maxHeartbeats 2000000 in
theorem named_alnum (w : World) : Calls Tryd.prog 74 #[.string (st [97, 108, 110, 117, 109])] w fun e w' => e = .returned (.tuple #[.agg #[.int .u64 (wd alnumS 0), .int .u64 (wd alnumS 1), .int .u64 (wd alnumS 2), .int .u64 (wd alnumS 3)], .bool true]) ∧ Gr w w' := by
  have hst := st_list [97, 108, 110, 117, 109]
  go_enter Tryd.func74, Tryd.ntmps74
  go_wp2_with fail
  go_at_call 46
  refine name_calls (fun W0 hW => ?_)
  have xr : boxAt W0 w.heap.size [.int .u64 0, .int .u64 0, .int .u64 0, .int .u64 0] := boxAt.new _ _ hW
  have hgW : Gr w W0 := by rw [hW]; exact Gr.alloc _ _
  clear hW
  refine (alnum_any W0).mono ?_; rintro e w_0 ⟨rfl, hb⟩
  have xr := xr.later hb
  replace hgW := hgW.trans hb
  clear hb
  have c_r0 := xr.cell 0 _ rfl
  have c_r1 := xr.cell 1 _ rfl
  have c_r2 := xr.cell 2 _ rfl
  have c_r3 := xr.cell 3 _ rfl
  have m_r0 := xr.mark 0 _ rfl
  have m_r1 := xr.mark 1 _ rfl
  have m_r2 := xr.mark 2 _ rfl
  have m_r3 := xr.mark 3 _ rfl
  have l_r := xr.lt (Nat.succ_pos _)
  go_wp2
  refine bodyPost_ret (v := .tuple #[.agg #[.int .u64 (wd alnumS 0), .int .u64 (wd alnumS 1), .int .u64 (wd alnumS 2), .int .u64 (wd alnumS 3)], .bool true]) (by simp [results, Tryd.results74, go_sem, c_r0, c_r1, c_r2, c_r3]) rfl ⟨rfl, ?_⟩
  exact Below.put4 hgW (Nat.le_refl _) _ _ _ _
set_option maxRecDepth 100000 in
set_option maxHeartbeats 2000000 in
theorem named_word (w : World) : Calls Tryd.prog 74 #[.string (st [119, 111, 114, 100])] w fun e w' => e = .returned (.tuple #[.agg #[.int .u64 (wd (alnumS ||| ofList [95]) 0), .int .u64 (wd (alnumS ||| ofList [95]) 1), .int .u64 (wd (alnumS ||| ofList [95]) 2), .int .u64 (wd (alnumS ||| ofList [95]) 3)], .bool true]) ∧ Gr w w' := by
  have hst := st_list [119, 111, 114, 100]
  go_enter Tryd.func74, Tryd.ntmps74
  go_wp2_with fail
  go_at_call 46
  refine name_calls (fun W0 hW => ?_)
  have xr : boxAt W0 w.heap.size [.int .u64 0, .int .u64 0, .int .u64 0, .int .u64 0] := boxAt.new _ _ hW
  have hgW : Gr w W0 := by rw [hW]; exact Gr.alloc _ _
  clear hW
  refine (alnum_any W0).mono ?_; rintro e w_0 ⟨rfl, hb⟩
  have xr := xr.later hb
  replace hgW := hgW.trans hb
  clear hb
  go_wp2_with fail
  go_at_call 19
  refine name_calls (fun W1 hW => ?_)
  have hgi : Gr w_0 W1 := by rw [hW]; exact Gr.alloc _ _
  have xr := xr.later hgi
  replace hgW := hgW.trans hgi
  have hsl : Sl W1 (.slice (some ⟨w_0.heap.size, 0, none⟩) 1 1) 1 1 (([95] : List UInt8).map vB) := by
    rw [hW]; have := sl_alloc w_0 (([95] : List UInt8).map vB) 5 1 1 rfl (by unfold maxLen; omega)
    rw [show w_0.heap.size = w_0.heap.size by simp] at this; exact this
  clear hW
  refine (of_is [95] (ofList [95]) _ W1 hsl rfl).mono ?_; rintro e w_1 ⟨rfl, hb⟩
  have xr := xr.later hb
  replace hgW := hgW.trans hb
  clear hb
  go_wp2_with fail
  go_at_call 15
  refine name_calls (fun W2 hW => ?_)
  have hgi : Gr w_1 W2 := by rw [hW]; exact Gr.refl _
  have xr := xr.later hgi
  replace hgW := hgW.trans hgi
  clear hW
  refine (union_any _ _ W2).mono ?_; rintro e w_2 ⟨rfl, hb⟩
  have xr := xr.later hb
  replace hgW := hgW.trans hb
  clear hb
  have c_r0 := xr.cell 0 _ rfl
  have c_r1 := xr.cell 1 _ rfl
  have c_r2 := xr.cell 2 _ rfl
  have c_r3 := xr.cell 3 _ rfl
  have m_r0 := xr.mark 0 _ rfl
  have m_r1 := xr.mark 1 _ rfl
  have m_r2 := xr.mark 2 _ rfl
  have m_r3 := xr.mark 3 _ rfl
  have l_r := xr.lt (Nat.succ_pos _)
  go_wp2
  refine bodyPost_ret (v := .tuple #[.agg #[.int .u64 (wd (alnumS ||| ofList [95]) 0), .int .u64 (wd (alnumS ||| ofList [95]) 1), .int .u64 (wd (alnumS ||| ofList [95]) 2), .int .u64 (wd (alnumS ||| ofList [95]) 3)], .bool true]) (by simp [results, Tryd.results74, go_sem, c_r0, c_r1, c_r2, c_r3]) rfl ⟨rfl, ?_⟩
  exact Below.put4 hgW (Nat.le_refl _) _ _ _ _
set_option maxRecDepth 100000 in
set_option maxHeartbeats 2000000 in
theorem named_xdigit (w : World) : Calls Tryd.prog 74 #[.string (st [120, 100, 105, 103, 105, 116])] w fun e w' => e = .returned (.tuple #[.agg #[.int .u64 (wd (ofSpans [(48, 57), (97, 102), (65, 70)]) 0), .int .u64 (wd (ofSpans [(48, 57), (97, 102), (65, 70)]) 1), .int .u64 (wd (ofSpans [(48, 57), (97, 102), (65, 70)]) 2), .int .u64 (wd (ofSpans [(48, 57), (97, 102), (65, 70)]) 3)], .bool true]) ∧ Gr w w' := by
  have hst := st_list [120, 100, 105, 103, 105, 116]
  go_enter Tryd.func74, Tryd.ntmps74
  go_wp2_with fail
  go_at_call 76
  refine name_calls (fun W0 hW => ?_)
  have xr : boxAt W0 w.heap.size [.int .u64 0, .int .u64 0, .int .u64 0, .int .u64 0] := by rw [hW]; exact (boxAt.new _ _ rfl).later (Gr.alloc _ _)
  have hgW : Gr w W0 := by rw [hW]; exact (Gr.alloc _ _).trans (Gr.alloc _ _)
  have hsl : Sl W0 (.slice (some ⟨w.heap.size + 1, 0, none⟩) 3 3) 2 3 (spsCells [(48, 57), (97, 102), (65, 70)]) := by
    rw [hW]; have := sl_alloc (w.alloc (.cells #[.int .u64 0, .int .u64 0, .int .u64 0, .int .u64 0] 29)) (spsCells [(48, 57), (97, 102), (65, 70)]) 53 2 3 rfl (by unfold maxLen; omega)
    rw [show (w.alloc (.cells #[.int .u64 0, .int .u64 0, .int .u64 0, .int .u64 0] 29)).heap.size = w.heap.size + 1 by simp] at this; exact this
  clear hW
  refine (ofSpans_is [(48, 57), (97, 102), (65, 70)] _ _ W0 hsl rfl).mono ?_; rintro e w_0 ⟨rfl, hb⟩
  have xr := xr.later hb
  replace hgW := hgW.trans hb
  clear hb
  have c_r0 := xr.cell 0 _ rfl
  have c_r1 := xr.cell 1 _ rfl
  have c_r2 := xr.cell 2 _ rfl
  have c_r3 := xr.cell 3 _ rfl
  have m_r0 := xr.mark 0 _ rfl
  have m_r1 := xr.mark 1 _ rfl
  have m_r2 := xr.mark 2 _ rfl
  have m_r3 := xr.mark 3 _ rfl
  have l_r := xr.lt (Nat.succ_pos _)
  go_wp2
  refine bodyPost_ret (v := .tuple #[.agg #[.int .u64 (wd (ofSpans [(48, 57), (97, 102), (65, 70)]) 0), .int .u64 (wd (ofSpans [(48, 57), (97, 102), (65, 70)]) 1), .int .u64 (wd (ofSpans [(48, 57), (97, 102), (65, 70)]) 2), .int .u64 (wd (ofSpans [(48, 57), (97, 102), (65, 70)]) 3)], .bool true]) (by simp [results, Tryd.results74, go_sem, c_r0, c_r1, c_r2, c_r3]) rfl ⟨rfl, ?_⟩
  exact Below.put4 hgW (Nat.le_refl _) _ _ _ _
set_option maxRecDepth 100000 in
set_option maxHeartbeats 2000000 in
theorem named_blank (w : World) : Calls Tryd.prog 74 #[.string (st [98, 108, 97, 110, 107])] w fun e w' => e = .returned (.tuple #[.agg #[.int .u64 (wd (ofList [32, 9]) 0), .int .u64 (wd (ofList [32, 9]) 1), .int .u64 (wd (ofList [32, 9]) 2), .int .u64 (wd (ofList [32, 9]) 3)], .bool true]) ∧ Gr w w' := by
  have hst := st_list [98, 108, 97, 110, 107]
  go_enter Tryd.func74, Tryd.ntmps74
  go_wp2_with fail
  go_at_call 19
  refine name_calls (fun W0 hW => ?_)
  have xr : boxAt W0 w.heap.size [.int .u64 0, .int .u64 0, .int .u64 0, .int .u64 0] := by rw [hW]; exact (boxAt.new _ _ rfl).later (Gr.alloc _ _)
  have hgW : Gr w W0 := by rw [hW]; exact (Gr.alloc _ _).trans (Gr.alloc _ _)
  have hsl : Sl W0 (.slice (some ⟨w.heap.size + 1, 0, none⟩) 2 2) 1 2 (([32, 9] : List UInt8).map vB) := by
    rw [hW]; have := sl_alloc (w.alloc (.cells #[.int .u64 0, .int .u64 0, .int .u64 0, .int .u64 0] 29)) (([32, 9] : List UInt8).map vB) 5 1 2 rfl (by unfold maxLen; omega)
    rw [show (w.alloc (.cells #[.int .u64 0, .int .u64 0, .int .u64 0, .int .u64 0] 29)).heap.size = w.heap.size + 1 by simp] at this; exact this
  clear hW
  refine (of_is [32, 9] (ofList [32, 9]) _ W0 hsl rfl).mono ?_; rintro e w_0 ⟨rfl, hb⟩
  have xr := xr.later hb
  replace hgW := hgW.trans hb
  clear hb
  have c_r0 := xr.cell 0 _ rfl
  have c_r1 := xr.cell 1 _ rfl
  have c_r2 := xr.cell 2 _ rfl
  have c_r3 := xr.cell 3 _ rfl
  have m_r0 := xr.mark 0 _ rfl
  have m_r1 := xr.mark 1 _ rfl
  have m_r2 := xr.mark 2 _ rfl
  have m_r3 := xr.mark 3 _ rfl
  have l_r := xr.lt (Nat.succ_pos _)
  go_wp2
  refine bodyPost_ret (v := .tuple #[.agg #[.int .u64 (wd (ofList [32, 9]) 0), .int .u64 (wd (ofList [32, 9]) 1), .int .u64 (wd (ofList [32, 9]) 2), .int .u64 (wd (ofList [32, 9]) 3)], .bool true]) (by simp [results, Tryd.results74, go_sem, c_r0, c_r1, c_r2, c_r3]) rfl ⟨rfl, ?_⟩
  exact Below.put4 hgW (Nat.le_refl _) _ _ _ _
set_option maxRecDepth 100000 in
set_option maxHeartbeats 2000000 in
theorem named_space (w : World) : Calls Tryd.prog 74 #[.string (st [115, 112, 97, 99, 101])] w fun e w' => e = .returned (.tuple #[.agg #[.int .u64 (wd (rangeSet 9 13 ||| ofList [32]) 0), .int .u64 (wd (rangeSet 9 13 ||| ofList [32]) 1), .int .u64 (wd (rangeSet 9 13 ||| ofList [32]) 2), .int .u64 (wd (rangeSet 9 13 ||| ofList [32]) 3)], .bool true]) ∧ Gr w w' := by
  have hst := st_list [115, 112, 97, 99, 101]
  go_enter Tryd.func74, Tryd.ntmps74
  go_wp2_with fail
  go_at_call 68
  refine name_calls (fun W0 hW => ?_)
  have xr : boxAt W0 w.heap.size [.int .u64 0, .int .u64 0, .int .u64 0, .int .u64 0] := boxAt.new _ _ hW
  have hgW : Gr w W0 := by rw [hW]; exact Gr.alloc _ _
  clear hW
  refine (range_any 9 13 W0 (by decide) (by decide)).mono ?_; rintro e w_0 ⟨rfl, hb⟩
  have xr := xr.later hb
  replace hgW := hgW.trans hb
  clear hb
  go_wp2_with fail
  go_at_call 19
  refine name_calls (fun W1 hW => ?_)
  have hgi : Gr w_0 W1 := by rw [hW]; exact Gr.alloc _ _
  have xr := xr.later hgi
  replace hgW := hgW.trans hgi
  have hsl : Sl W1 (.slice (some ⟨w_0.heap.size, 0, none⟩) 1 1) 1 1 (([32] : List UInt8).map vB) := by
    rw [hW]; have := sl_alloc w_0 (([32] : List UInt8).map vB) 5 1 1 rfl (by unfold maxLen; omega)
    rw [show w_0.heap.size = w_0.heap.size by simp] at this; exact this
  clear hW
  refine (of_is [32] (ofList [32]) _ W1 hsl rfl).mono ?_; rintro e w_1 ⟨rfl, hb⟩
  have xr := xr.later hb
  replace hgW := hgW.trans hb
  clear hb
  go_wp2_with fail
  go_at_call 15
  refine name_calls (fun W2 hW => ?_)
  have hgi : Gr w_1 W2 := by rw [hW]; exact Gr.refl _
  have xr := xr.later hgi
  replace hgW := hgW.trans hgi
  clear hW
  refine (union_any _ _ W2).mono ?_; rintro e w_2 ⟨rfl, hb⟩
  have xr := xr.later hb
  replace hgW := hgW.trans hb
  clear hb
  have c_r0 := xr.cell 0 _ rfl
  have c_r1 := xr.cell 1 _ rfl
  have c_r2 := xr.cell 2 _ rfl
  have c_r3 := xr.cell 3 _ rfl
  have m_r0 := xr.mark 0 _ rfl
  have m_r1 := xr.mark 1 _ rfl
  have m_r2 := xr.mark 2 _ rfl
  have m_r3 := xr.mark 3 _ rfl
  have l_r := xr.lt (Nat.succ_pos _)
  go_wp2
  refine bodyPost_ret (v := .tuple #[.agg #[.int .u64 (wd (rangeSet 9 13 ||| ofList [32]) 0), .int .u64 (wd (rangeSet 9 13 ||| ofList [32]) 1), .int .u64 (wd (rangeSet 9 13 ||| ofList [32]) 2), .int .u64 (wd (rangeSet 9 13 ||| ofList [32]) 3)], .bool true]) (by simp [results, Tryd.results74, go_sem, c_r0, c_r1, c_r2, c_r3]) rfl ⟨rfl, ?_⟩
  exact Below.put4 hgW (Nat.le_refl _) _ _ _ _
set_option maxRecDepth 100000 in
set_option maxHeartbeats 2000000 in
theorem named_punct (w : World) : Calls Tryd.prog 74 #[.string (st [112, 117, 110, 99, 116])] w fun e w' => e = .returned (.tuple #[.agg #[.int .u64 (wd (rangeSet 33 126 &&& ~~~alnumS) 0), .int .u64 (wd (rangeSet 33 126 &&& ~~~alnumS) 1), .int .u64 (wd (rangeSet 33 126 &&& ~~~alnumS) 2), .int .u64 (wd (rangeSet 33 126 &&& ~~~alnumS) 3)], .bool true]) ∧ Gr w w' := by
  have hst := st_list [112, 117, 110, 99, 116]
  go_enter Tryd.func74, Tryd.ntmps74
  go_wp2_with fail
  go_at_call 68
  refine name_calls (fun W0 hW => ?_)
  have xr : boxAt W0 w.heap.size [.int .u64 0, .int .u64 0, .int .u64 0, .int .u64 0] := boxAt.new _ _ hW
  have hgW : Gr w W0 := by rw [hW]; exact Gr.alloc _ _
  clear hW
  refine (range_any 33 126 W0 (by decide) (by decide)).mono ?_; rintro e w_0 ⟨rfl, hb⟩
  have xr := xr.later hb
  replace hgW := hgW.trans hb
  clear hb
  go_wp2_with fail
  go_at_call 46
  refine name_calls (fun W1 hW => ?_)
  have hgi : Gr w_0 W1 := by rw [hW]; exact Gr.refl _
  have xr := xr.later hgi
  replace hgW := hgW.trans hgi
  clear hW
  refine (alnum_any W1).mono ?_; rintro e w_1 ⟨rfl, hb⟩
  have xr := xr.later hb
  replace hgW := hgW.trans hb
  clear hb
  go_wp2_with fail
  go_at_call 17
  refine name_calls (fun W2 hW => ?_)
  have hgi : Gr w_1 W2 := by rw [hW]; exact Gr.refl _
  have xr := xr.later hgi
  replace hgW := hgW.trans hgi
  clear hW
  refine (minus_any _ _ W2).mono ?_; rintro e w_2 ⟨rfl, hb⟩
  have xr := xr.later hb
  replace hgW := hgW.trans hb
  clear hb
  have c_r0 := xr.cell 0 _ rfl
  have c_r1 := xr.cell 1 _ rfl
  have c_r2 := xr.cell 2 _ rfl
  have c_r3 := xr.cell 3 _ rfl
  have m_r0 := xr.mark 0 _ rfl
  have m_r1 := xr.mark 1 _ rfl
  have m_r2 := xr.mark 2 _ rfl
  have m_r3 := xr.mark 3 _ rfl
  have l_r := xr.lt (Nat.succ_pos _)
  go_wp2
  refine bodyPost_ret (v := .tuple #[.agg #[.int .u64 (wd (rangeSet 33 126 &&& ~~~alnumS) 0), .int .u64 (wd (rangeSet 33 126 &&& ~~~alnumS) 1), .int .u64 (wd (rangeSet 33 126 &&& ~~~alnumS) 2), .int .u64 (wd (rangeSet 33 126 &&& ~~~alnumS) 3)], .bool true]) (by simp [results, Tryd.results74, go_sem, c_r0, c_r1, c_r2, c_r3]) rfl ⟨rfl, ?_⟩
  exact Below.put4 hgW (Nat.le_refl _) _ _ _ _
set_option maxRecDepth 100000 in
set_option maxHeartbeats 2000000 in
theorem named_print (w : World) : Calls Tryd.prog 74 #[.string (st [112, 114, 105, 110, 116])] w fun e w' => e = .returned (.tuple #[.agg #[.int .u64 (wd (rangeSet 32 126) 0), .int .u64 (wd (rangeSet 32 126) 1), .int .u64 (wd (rangeSet 32 126) 2), .int .u64 (wd (rangeSet 32 126) 3)], .bool true]) ∧ Gr w w' := by
  have hst := st_list [112, 114, 105, 110, 116]
  go_enter Tryd.func74, Tryd.ntmps74
  go_wp2_with fail
  go_at_call 68
  refine name_calls (fun W0 hW => ?_)
  have xr : boxAt W0 w.heap.size [.int .u64 0, .int .u64 0, .int .u64 0, .int .u64 0] := boxAt.new _ _ hW
  have hgW : Gr w W0 := by rw [hW]; exact Gr.alloc _ _
  clear hW
  refine (range_any 32 126 W0 (by decide) (by decide)).mono ?_; rintro e w_0 ⟨rfl, hb⟩
  have xr := xr.later hb
  replace hgW := hgW.trans hb
  clear hb
  have c_r0 := xr.cell 0 _ rfl
  have c_r1 := xr.cell 1 _ rfl
  have c_r2 := xr.cell 2 _ rfl
  have c_r3 := xr.cell 3 _ rfl
  have m_r0 := xr.mark 0 _ rfl
  have m_r1 := xr.mark 1 _ rfl
  have m_r2 := xr.mark 2 _ rfl
  have m_r3 := xr.mark 3 _ rfl
  have l_r := xr.lt (Nat.succ_pos _)
  go_wp2
  refine bodyPost_ret (v := .tuple #[.agg #[.int .u64 (wd (rangeSet 32 126) 0), .int .u64 (wd (rangeSet 32 126) 1), .int .u64 (wd (rangeSet 32 126) 2), .int .u64 (wd (rangeSet 32 126) 3)], .bool true]) (by simp [results, Tryd.results74, go_sem, c_r0, c_r1, c_r2, c_r3]) rfl ⟨rfl, ?_⟩
  exact Below.put4 hgW (Nat.le_refl _) _ _ _ _
set_option maxRecDepth 100000 in
set_option maxHeartbeats 2000000 in
theorem named_cntrl (w : World) : Calls Tryd.prog 74 #[.string (st [99, 110, 116, 114, 108])] w fun e w' => e = .returned (.tuple #[.agg #[.int .u64 (wd (rangeSet 0 31 ||| ofList [127]) 0), .int .u64 (wd (rangeSet 0 31 ||| ofList [127]) 1), .int .u64 (wd (rangeSet 0 31 ||| ofList [127]) 2), .int .u64 (wd (rangeSet 0 31 ||| ofList [127]) 3)], .bool true]) ∧ Gr w w' := by
  have hst := st_list [99, 110, 116, 114, 108]
  go_enter Tryd.func74, Tryd.ntmps74
  go_wp2_with fail
  go_at_call 68
  refine name_calls (fun W0 hW => ?_)
  have xr : boxAt W0 w.heap.size [.int .u64 0, .int .u64 0, .int .u64 0, .int .u64 0] := boxAt.new _ _ hW
  have hgW : Gr w W0 := by rw [hW]; exact Gr.alloc _ _
  clear hW
  refine (range_any 0 31 W0 (by decide) (by decide)).mono ?_; rintro e w_0 ⟨rfl, hb⟩
  have xr := xr.later hb
  replace hgW := hgW.trans hb
  clear hb
  go_wp2_with fail
  go_at_call 19
  refine name_calls (fun W1 hW => ?_)
  have hgi : Gr w_0 W1 := by rw [hW]; exact Gr.alloc _ _
  have xr := xr.later hgi
  replace hgW := hgW.trans hgi
  have hsl : Sl W1 (.slice (some ⟨w_0.heap.size, 0, none⟩) 1 1) 1 1 (([127] : List UInt8).map vB) := by
    rw [hW]; have := sl_alloc w_0 (([127] : List UInt8).map vB) 5 1 1 rfl (by unfold maxLen; omega)
    rw [show w_0.heap.size = w_0.heap.size by simp] at this; exact this
  clear hW
  refine (of_is [127] (ofList [127]) _ W1 hsl rfl).mono ?_; rintro e w_1 ⟨rfl, hb⟩
  have xr := xr.later hb
  replace hgW := hgW.trans hb
  clear hb
  go_wp2_with fail
  go_at_call 15
  refine name_calls (fun W2 hW => ?_)
  have hgi : Gr w_1 W2 := by rw [hW]; exact Gr.refl _
  have xr := xr.later hgi
  replace hgW := hgW.trans hgi
  clear hW
  refine (union_any _ _ W2).mono ?_; rintro e w_2 ⟨rfl, hb⟩
  have xr := xr.later hb
  replace hgW := hgW.trans hb
  clear hb
  have c_r0 := xr.cell 0 _ rfl
  have c_r1 := xr.cell 1 _ rfl
  have c_r2 := xr.cell 2 _ rfl
  have c_r3 := xr.cell 3 _ rfl
  have m_r0 := xr.mark 0 _ rfl
  have m_r1 := xr.mark 1 _ rfl
  have m_r2 := xr.mark 2 _ rfl
  have m_r3 := xr.mark 3 _ rfl
  have l_r := xr.lt (Nat.succ_pos _)
  go_wp2
  refine bodyPost_ret (v := .tuple #[.agg #[.int .u64 (wd (rangeSet 0 31 ||| ofList [127]) 0), .int .u64 (wd (rangeSet 0 31 ||| ofList [127]) 1), .int .u64 (wd (rangeSet 0 31 ||| ofList [127]) 2), .int .u64 (wd (rangeSet 0 31 ||| ofList [127]) 3)], .bool true]) (by simp [results, Tryd.results74, go_sem, c_r0, c_r1, c_r2, c_r3]) rfl ⟨rfl, ?_⟩
  exact Below.put4 hgW (Nat.le_refl _) _ _ _ _
set_option maxRecDepth 100000 in
set_option maxHeartbeats 2000000 in
theorem named_any (w : World) : Calls Tryd.prog 74 #[.string (st [97, 110, 121])] w fun e w' => e = .returned (.tuple #[.agg #[.int .u64 (wd (~~~emptyS) 0), .int .u64 (wd (~~~emptyS) 1), .int .u64 (wd (~~~emptyS) 2), .int .u64 (wd (~~~emptyS) 3)], .bool true]) ∧ Gr w w' := by
  have hst := st_list [97, 110, 121]
  go_enter Tryd.func74, Tryd.ntmps74
  go_wp2_with fail
  go_at_call 77
  refine name_calls (fun W0 hW => ?_)
  have xr : boxAt W0 w.heap.size [.int .u64 0, .int .u64 0, .int .u64 0, .int .u64 0] := boxAt.new _ _ hW
  have hgW : Gr w W0 := by rw [hW]; exact Gr.alloc _ _
  clear hW
  refine (all_any W0).mono ?_; rintro e w_0 ⟨rfl, hb⟩
  have xr := xr.later hb
  replace hgW := hgW.trans hb
  clear hb
  have c_r0 := xr.cell 0 _ rfl
  have c_r1 := xr.cell 1 _ rfl
  have c_r2 := xr.cell 2 _ rfl
  have c_r3 := xr.cell 3 _ rfl
  have m_r0 := xr.mark 0 _ rfl
  have m_r1 := xr.mark 1 _ rfl
  have m_r2 := xr.mark 2 _ rfl
  have m_r3 := xr.mark 3 _ rfl
  have l_r := xr.lt (Nat.succ_pos _)
  go_wp2
  refine bodyPost_ret (v := .tuple #[.agg #[.int .u64 (wd (~~~emptyS) 0), .int .u64 (wd (~~~emptyS) 1), .int .u64 (wd (~~~emptyS) 2), .int .u64 (wd (~~~emptyS) 3)], .bool true]) (by simp [results, Tryd.results74, go_sem, c_r0, c_r1, c_r2, c_r3]) rfl ⟨rfl, ?_⟩
  exact Below.put4 hgW (Nat.le_refl _) _ _ _ _
set_option maxRecDepth 100000 in
set_option maxHeartbeats 2000000 in
theorem named_none (n : List UInt8) (w : World) (h_digit : (n == [100, 105, 103, 105, 116]) = false) (h_lower : (n == [108, 111, 119, 101, 114]) = false) (h_upper : (n == [117, 112, 112, 101, 114]) = false) (h_alpha : (n == [97, 108, 112, 104, 97]) = false) (h_alnum : (n == [97, 108, 110, 117, 109]) = false) (h_word : (n == [119, 111, 114, 100]) = false) (h_xdigit : (n == [120, 100, 105, 103, 105, 116]) = false) (h_blank : (n == [98, 108, 97, 110, 107]) = false) (h_space : (n == [115, 112, 97, 99, 101]) = false) (h_punct : (n == [112, 117, 110, 99, 116]) = false) (h_print : (n == [112, 114, 105, 110, 116]) = false) (h_cntrl : (n == [99, 110, 116, 114, 108]) = false) (h_any : (n == [97, 110, 121]) = false) : Calls Tryd.prog 74 #[.string (st n)] w fun e w' => e = .returned (.tuple #[.agg #[.int .u64 (wd emptyS 0), .int .u64 (wd emptyS 1), .int .u64 (wd emptyS 2), .int .u64 (wd emptyS 3)], .bool false]) ∧ Gr w w' := by
  have hst := st_list n
  go_enter Tryd.func74, Tryd.ntmps74
  go_wp2
  refine bodyPost_ret (v := .tuple #[.agg #[.int .u64 (wd emptyS 0), .int .u64 (wd emptyS 1), .int .u64 (wd emptyS 2), .int .u64 (wd emptyS 3)], .bool false]) (by simp [results, Tryd.results74, go_sem, wd_zero]) rfl ⟨rfl, ?_⟩
  exact Gr.alloc _ _
/-- What a name stands for. -/
theorem named_all (n : List UInt8) (w : World) : Calls Tryd.prog 74 #[.string (st n)] w fun e w' => (match namedS n with
    | some s => e = .returned (.tuple #[.agg #[.int .u64 (wd s 0), .int .u64 (wd s 1), .int .u64 (wd s 2), .int .u64 (wd s 3)], .bool true])
    | none => e = .returned (.tuple #[.agg #[.int .u64 (wd emptyS 0), .int .u64 (wd emptyS 1), .int .u64 (wd emptyS 2), .int .u64 (wd emptyS 3)], .bool false])) ∧ Gr w w' := by
  unfold namedS
  by_cases h_digit : n = [100, 105, 103, 105, 116]
  · rw [if_pos h_digit, h_digit]; exact named_digit w
  rw [if_neg h_digit]
  by_cases h_lower : n = [108, 111, 119, 101, 114]
  · rw [if_pos h_lower, h_lower]; exact named_lower w
  rw [if_neg h_lower]
  by_cases h_upper : n = [117, 112, 112, 101, 114]
  · rw [if_pos h_upper, h_upper]; exact named_upper w
  rw [if_neg h_upper]
  by_cases h_alpha : n = [97, 108, 112, 104, 97]
  · rw [if_pos h_alpha, h_alpha]; exact named_alpha w
  rw [if_neg h_alpha]
  by_cases h_alnum : n = [97, 108, 110, 117, 109]
  · rw [if_pos h_alnum, h_alnum]; exact named_alnum w
  rw [if_neg h_alnum]
  by_cases h_word : n = [119, 111, 114, 100]
  · rw [if_pos h_word, h_word]; exact named_word w
  rw [if_neg h_word]
  by_cases h_xdigit : n = [120, 100, 105, 103, 105, 116]
  · rw [if_pos h_xdigit, h_xdigit]; exact named_xdigit w
  rw [if_neg h_xdigit]
  by_cases h_blank : n = [98, 108, 97, 110, 107]
  · rw [if_pos h_blank, h_blank]; exact named_blank w
  rw [if_neg h_blank]
  by_cases h_space : n = [115, 112, 97, 99, 101]
  · rw [if_pos h_space, h_space]; exact named_space w
  rw [if_neg h_space]
  by_cases h_punct : n = [112, 117, 110, 99, 116]
  · rw [if_pos h_punct, h_punct]; exact named_punct w
  rw [if_neg h_punct]
  by_cases h_print : n = [112, 114, 105, 110, 116]
  · rw [if_pos h_print, h_print]; exact named_print w
  rw [if_neg h_print]
  by_cases h_cntrl : n = [99, 110, 116, 114, 108]
  · rw [if_pos h_cntrl, h_cntrl]; exact named_cntrl w
  rw [if_neg h_cntrl]
  by_cases h_any : n = [97, 110, 121]
  · rw [if_pos h_any, h_any]; exact named_any w
  rw [if_neg h_any]
  exact named_none n w (beq_false_of_ne h_digit) (beq_false_of_ne h_lower) (beq_false_of_ne h_upper) (beq_false_of_ne h_alpha) (beq_false_of_ne h_alnum) (beq_false_of_ne h_word) (beq_false_of_ne h_xdigit) (beq_false_of_ne h_blank) (beq_false_of_ne h_space) (beq_false_of_ne h_punct) (beq_false_of_ne h_print) (beq_false_of_ne h_cntrl) (beq_false_of_ne h_any)

end Go.Proofs.YtihjmeoklbmnmaaDoor

/- class: name. No condition but a length's bound. -/
namespace Go.Proofs.YtihjmeoklbmnmaaDoor
open Go Go.RowKit

/-- How a reading ends. -/
def refE (es ed : Value) (d : Bool) : Value := if d then ed else es
def RdEnd (es ed : Value) (p : Nat) (t : List UInt8) (w : World) (x : Rd) (e : Ending) (w' : World) : Prop :=
  Kp p w w' ∧ match x with
    | .ok s r => e = .returned (.tuple #[.agg #[.int .u64 (wd s 0), .int .u64 (wd s 1), .int .u64 (wd s 2), .int .u64 (wd s 3)], .nilIface]) ∧ Rdr w' p t (t.length - r.length)
    | .bad d r => ∃ (s : BitVec 256) (er : Value), e = .returned (.tuple #[.agg #[.int .u64 (wd s 0), .int .u64 (wd s 1), .int .u64 (wd s 2), .int .u64 (wd s 3)], er]) ∧ Refused w' w.heap.size (refE es ed d) er ((t.length - r.length : Nat) : Int) ∧ Any w' p t
theorem RdEnd.ok {es ed : Value} {p j : Nat} {t : List UInt8} {w w' : World} {s : BitVec 256} {x : Rd} (he : x = .ok s (t.drop j)) (hj : j ≤ t.length) (hK : Kp p w w') (hR : Rdr w' p t j) :
    RdEnd es ed p t w x (.returned (.tuple #[.agg #[.int .u64 (wd s 0), .int .u64 (wd s 1), .int .u64 (wd s 2), .int .u64 (wd s 3)], .nilIface])) w' := by
  subst he
  refine ⟨hK, rfl, ?_⟩
  rw [List.length_drop, show t.length - (t.length - j) = j by omega]; exact hR
theorem RdEnd.bad {es ed er : Value} {p j : Nat} {t : List UInt8} {w w' : World} {s : BitVec 256} {x : Rd} {d : Bool} (he : x = .bad d (t.drop j)) (hj : j ≤ t.length) (hK : Kp p w w') (hR : Refused w' w.heap.size (refE es ed d) er (j : Int)) (hA : Any w' p t) :
    RdEnd es ed p t w x (.returned (.tuple #[.agg #[.int .u64 (wd s 0), .int .u64 (wd s 1), .int .u64 (wd s 2), .int .u64 (wd s 3)], er])) w' := by
  subst he
  refine ⟨hK, s, er, rfl, ?_, hA⟩
  rw [List.length_drop, show t.length - (t.length - j) = j by omega]; exact hR

/-! ### strings.Cut at ':]' -/

theorem cut_index : ∀ l : List UInt8, (∀ b, cutAt l = some b → Lib.index l [58, 93] = (b.length : Int) ∧ l.take b.length = b) ∧ (cutAt l = none → Lib.index l [58, 93] = -1)
  | [] => ⟨fun b h => (by cases h), fun _ => rfl⟩
  | c :: l => by
    obtain ⟨h1, h2⟩ := cut_index l
    rw [cutAt_cons]
    unfold Lib.index
    by_cases h : pre [58, 93] (c :: l) = true
    · rw [if_pos h]
      unfold pre at h
      rw [if_pos h]
      exact ⟨fun b hb => by injection hb with hb; subst hb; exact ⟨rfl, rfl⟩, fun hb => (by cases hb)⟩
    · rw [if_neg h]
      unfold pre at h
      rw [if_neg h]
      cases hc : cutAt l with
      | none =>
        refine ⟨fun b hb => (by cases hb), fun _ => ?_⟩
        rw [h2 hc]; rfl
      | some b' =>
        obtain ⟨h3, h4⟩ := h1 b' hc
        refine ⟨fun b hb => ?_, fun hb => (by cases hb)⟩
        injection hb with hb
        subst hb
        rw [h3]
        have : ((b'.length : Int) == -1) = false := by rw [beq_eq_false_iff_ne]; omega
        rw [this]
        refine ⟨by simp, ?_⟩
        rw [List.length_cons, List.take_succ_cons, h4]
theorem cut_some (l b : List UInt8) (m : Int) (w : World) (h : cutAt l = some b) (hl : l.length < 4294967281) (hm : w.cell? ⟨17, 0, none⟩ = some (.int .i64 m)) :
    Calls Tryd.prog 73 #[.string (st l), .string { data := #[58, 93] }] w fun e w' => (∃ r, e = .returned (.tuple #[.string (st b), .string (st r), .bool true])) ∧ Gr w w' := by
  obtain ⟨h1, h2⟩ := (cut_index l).1 b h
  refine (Tryd.strings_Cut (st l) { data := #[58, 93] } m w (by rw [st_size]; exact hl) hm).mono ?_
  rintro e w' ⟨rfl, n, rfl⟩
  refine ⟨⟨l.drop (b.length + 2), ?_⟩, Gr.drewN _ n⟩
  rw [st_data, show ({ data := #[58, 93] } : ByteArray).data.toList = [58, 93] from rfl]
  unfold Lib.cut
  rw [h1, if_pos (by omega), Int.toNat_natCast, h2]
  rfl
theorem cut_none (l : List UInt8) (m : Int) (w : World) (h : cutAt l = none) (hl : l.length < 4294967281) (hm : w.cell? ⟨17, 0, none⟩ = some (.int .i64 m)) :
    Calls Tryd.prog 73 #[.string (st l), .string { data := #[58, 93] }] w fun e w' => (∃ r, e = .returned (.tuple #[.string (st l), .string (st r), .bool false])) ∧ Gr w w' := by
  have h1 := (cut_index l).2 h
  refine (Tryd.strings_Cut (st l) { data := #[58, 93] } m w (by rw [st_size]; exact hl) hm).mono ?_
  rintro e w' ⟨rfl, n, rfl⟩
  refine ⟨⟨[], ?_⟩, Gr.drewN _ n⟩
  rw [st_data, show ({ data := #[58, 93] } : ByteArray).data.toList = [58, 93] from rfl]
  unfold Lib.cut
  rw [h1, if_neg (by omega)]
  rfl

theorem name_end {P : Program} {f : Func} {R : Ending → World → Prop} {x : Exit} {a : Act} {w0 : World} (h : ∀ W, W = w0 → bodyPost P f R x a W) : bodyPost P f R x a w0 := h _ rfl
set_option maxRecDepth 100000 in
set_option maxHeartbeats 8000000 in
theorem name_any (p k : Nat) (t : List UInt8) (es ed : Value) (w : World) (h : Rdr w p t k) (hk : k + 2 ≤ t.length) (hT : (t.length : Int) ≤ 4294967280) (hS : Sy w p es ed) :
    Calls Tryd.prog 66 #[.pointer (some ⟨p, 0, none⟩)] w (RdEnd es ed p t w (nameP (t.drop k))) := by
  obtain ⟨m, hm⟩ := hS.max
  obtain ⟨k2, hk2⟩ : ∃ x, k + 2 = x := ⟨_, rfl⟩
  have hw2 : IntKind.i64.wrap ((k : Int) + 2) = (k2 : Int) := by rw [IntWalk.i64_in _ (by omega)]; omega
  have hsl := fun w' => run_from (P := Tryd.prog) w' 9 t k2 .i64 Tryd.underlying9 (by omega)
  obtain ⟨l, hl⟩ : ∃ l, t.drop k2 = l := ⟨_, rfl⟩
  have hll : l.length < 4294967281 := by rw [← hl, List.length_drop]; omega
  rw [hl] at hsl
  have hS' := Lib.hid hS
  have HM := Lib.hid hm
  have H0 := Lib.hid h
  have HK := Lib.hid (show k + 2 = k2 ∧ k2 ≤ t.length ∧ t.drop k2 = l ∧ l.length < 4294967281 from ⟨hk2, by omega, hl, hll⟩)
  have hnp : nameP (t.drop k) = (match cutAt l with
      | none => .bad false (t.drop k)
      | some b => match namedS b with
        | none => .bad false (t.drop k)
        | some s => .ok s ((t.drop k).drop (b.length + 4))) := by
    unfold nameP
    rw [List.drop_drop, hk2, hl]
    cases cutAt l with
    | none => rfl
    | some b => cases namedS b <;> rfl
  have c0 := boxAt.cell h 0 _ rfl
  have c1 := boxAt.cell h 1 _ rfl
  have lp := boxAt.lt h (Nat.succ_pos _)
  clear hS hm h hk hk2 hl hll
  cases hcut : cutAt l with
  | none =>
    rw [hcut] at hnp
    have HC := Lib.hid hcut
    have HN := Lib.hid hnp
    clear hcut hnp
    go_enter Tryd.func66, Tryd.ntmps66
    go_wp2_with fail
    refine name_world (fun W hW => ?_)
    have xr : boxAt W w.heap.size [.int .u64 0, .int .u64 0, .int .u64 0, .int .u64 0] := boxAt.new _ _ hW
    have hgW : Gr w W := by rw [hW]; exact Gr.alloc _ _
    have d0 := hgW.cell c0
    have d1 := hgW.cell c1
    have lW : p < W.heap.size := by have := hgW.size; omega
    have HM2 := Lib.hid (hgW.cell HM.out)
    clear hW c0 c1
    refine wp_region_G (.take 0 (.take 1 (.take 2 (.take 3 (.take 4 (.take 5 (.take 6 (.take 7 (.take 8 (.take 9 (.run 10 false (.take 11 (.take 12 (.take 13 (.take 14 (.run 15 false (.run 16 false (.run 17 true .nil)))))))))))))))))) (by kernel_rfl) (by kernel_rfl) ?_
    simp only [pickOps, nthOp]
    intro wq hG
    repeat (first | (refine wpG_skip_take ?_ ?_; (focus rfl); try simp only [Act.put, List.setIfInBounds_toArray, List.set_cons_zero, List.set_cons_succ]) | (refine wpG_skip_run ?_ ?_; (focus rfl); try simp only [Act.put, List.setIfInBounds_toArray, List.set_cons_zero, List.set_cons_succ]) | (refine wpG_take ?_ ?_; (focus rfl); apply Exists.intro; refine ⟨fun w' hw' => ?_, ?_⟩; (focus (have hc := Gr.cells hw'; go_simp; (try rfl); done)); try simp only [Act.put, List.setIfInBounds_toArray, List.set_cons_zero, List.set_cons_succ]) | (refine wpG_run ?_ (fun K hK => ?_); (focus rfl); go_simp; (first | (go_at_call 73; (with_reducible refine (cut_none l m _ HC.out HK.out.2.2.2 (hG.cell HM2.out)).mono ?_); rintro e w' ⟨⟨r, rfl⟩, hb⟩) | (have hb := Gr.refl w')); (try dsimp only); replace hG := hG.trans hb; refine hK.out _ _ hG ?_; clear hK K hb; try simp only [Act.put, List.setIfInBounds_toArray, List.set_cons_zero, List.set_cons_succ]))
    refine wpG_last ?_ (fun K hK => ?_); (focus rfl)
    have hc := hG.cells
    have hm := hG.marks
    go_simp
    refine hK.out _ _ ?_
    try simp only [Act.put, List.setIfInBounds_toArray, List.set_cons_zero, List.set_cons_succ]
    clear hK K hc hm
    refine wpG_done ?_
    obtain ⟨w3, hw3⟩ : ∃ x, x = w' := ⟨_, rfl⟩
    rw [← hw3] at hG ⊢
    clear hw3
    have hg3 := hgW.trans hG
    have xr3 := xr.later hG
    have hR3 : Rdr w3 p t k := boxAt.later H0.out hg3
    clear hG
    go_wp2_with fail
    go_at_call 74
    refine (named_all l w3).mono ?_; rintro e w4 ⟨hm4, hg4⟩
    obtain ⟨s, q, rfl⟩ : ∃ (s : BitVec 256) (q : Bool), e = .returned (.tuple #[.agg #[.int .u64 (wd s 0), .int .u64 (wd s 1), .int .u64 (wd s 2), .int .u64 (wd s 3)], .bool q]) := by
      cases hq : namedS l with
      | none => rw [hq] at hm4; exact ⟨_, _, hm4⟩
      | some s => rw [hq] at hm4; exact ⟨_, _, hm4⟩
    clear hm4
    go_wp2_with fail
    refine name_world (fun W5 hW5 => ?_)
    have xs : boxAt W5 w4.heap.size [.int .u64 (wd s 0), .int .u64 (wd s 1), .int .u64 (wd s 2), .int .u64 (wd s 3)] := boxAt.new _ _ hW5
    have hg5 : Gr w4 W5 := by rw [hW5]; exact Gr.alloc _ _
    have hgw5 := (hg3.trans hg4).trans hg5
    have xr5 := (xr3.later hg4).later hg5
    have hR5 : Rdr W5 p t k := boxAt.later H0.out hgw5
    have HS5 : Hid (∀ W6, Gr W5 W6 → Sy W6 p es ed ∧ p < W6.heap.size) := fun W6 h6 => ⟨hS'.out.kept (Kp.gr (hgw5.trans h6)), by have := (hgw5.trans h6).size; omega⟩
    clear hW5
    have c1 := boxAt.cell hR5 1 _ rfl
    have lp5 := boxAt.lt hR5 (Nat.succ_pos _)
    have c_s0 := xs.cell 0 _ rfl
    have c_s1 := xs.cell 1 _ rfl
    have c_s2 := xs.cell 2 _ rfl
    have c_s3 := xs.cell 3 _ rfl
    have m_s0 := xs.mark 0 _ rfl
    have m_s1 := xs.mark 1 _ rfl
    have m_s2 := xs.mark 2 _ rfl
    have m_s3 := xs.mark 3 _ rfl
    have l_s := xs.lt (Nat.succ_pos _)
    have c_r0 := xr5.cell 0 _ rfl
    have c_r1 := xr5.cell 1 _ rfl
    have c_r2 := xr5.cell 2 _ rfl
    have c_r3 := xr5.cell 3 _ rfl
    have m_r0 := xr5.mark 0 _ rfl
    have m_r1 := xr5.mark 1 _ rfl
    have m_r2 := xr5.mark 2 _ rfl
    have m_r3 := xr5.mark 3 _ rfl
    have l_r := xr5.lt (Nat.succ_pos _)
    go_region_with (go_at_call 33; (with_reducible refine (syntax_any _ p es ed _ (HS5.out _ (Gr.drew _)).1 (HS5.out _ (Gr.drew _)).2).mono ?_); rintro e w2 ⟨er, rfl, hr, hg2⟩; have hc := ((Gr.drew W5).trans hg2).cells; have hm := ((Gr.drew W5).trans hg2).marks)
    all_goals
      go_wp2
      refine bodyPost_ret (v := .tuple #[.agg #[.int .u64 (wd s 0), .int .u64 (wd s 1), .int .u64 (wd s 2), .int .u64 (wd s 3)], er]) (by simp [results, Tryd.results66, go_sem, hc, l_r, c_r0, c_r1, c_r2, c_r3]) rfl ?_
      refine RdEnd.bad HN.out (by have := HK.out; omega) (((Kp.gr hgw5).trans (Kp.gr ((Gr.drew W5).trans hg2))).put4 (Nat.le_refl _) _ _ _ _) ?_ (Any.far4 ⟨_, boxAt.later hR5 ((Gr.drew W5).trans hg2)⟩ (by omega) _ _ _ _)
      refine Refused.mono (B := W5.heap.size) ?_ (hgw5.size)
      exact Refused.put4 hr _ l_r _ _ _ _
  | some b =>
    rw [hcut] at hnp
    dsimp only at hnp
    have HC := Lib.hid hcut
    obtain ⟨nb, hnb⟩ : ∃ x, b.length = x := ⟨_, rfl⟩
    have hszb : (st b).size = nb := by rw [st_size, hnb]
    have hcl := cutAt_len hcut
    obtain ⟨n4, hn4⟩ : ∃ x, nb + 4 = x := ⟨_, rfl⟩
    obtain ⟨k5, hk5⟩ : ∃ x, k + n4 = x := ⟨_, rfl⟩
    have hkk := HK.out
    have hll : l.length = t.length - k2 := by rw [← hkk.2.2.1, List.length_drop]
    have hw4 : IntKind.i64.wrap ((nb : Int) + 4) = (n4 : Int) := by rw [IntWalk.i64_in _ (by omega)]; omega
    have hw5 : IntKind.i64.wrap ((k : Int) + (n4 : Int)) = (k5 : Int) := by rw [IntWalk.i64_in _ (by omega)]; omega
    have HK5 := Lib.hid (show k5 ≤ t.length ∧ (t.drop k).drop (b.length + 4) = t.drop k5 from ⟨by omega, by rw [List.drop_drop, hnb, show k + (nb + 4) = k5 by omega]⟩)
    clear hcut hnb hcl hn4 hk5 hkk hll
    cases hns : namedS b with
    | none =>
      rw [hns] at hnp
      dsimp only at hnp
      have HN := Lib.hid hnp
      have HNS := Lib.hid hns
      clear hnp hns
      go_enter Tryd.func66, Tryd.ntmps66
      go_wp2_with fail
      refine name_world (fun W hW => ?_)
      have xr : boxAt W w.heap.size [.int .u64 0, .int .u64 0, .int .u64 0, .int .u64 0] := boxAt.new _ _ hW
      have hgW : Gr w W := by rw [hW]; exact Gr.alloc _ _
      have d0 := hgW.cell c0
      have d1 := hgW.cell c1
      have lW : p < W.heap.size := by have := hgW.size; omega
      have HM2 := Lib.hid (hgW.cell HM.out)
      clear hW c0 c1
      refine wp_region_G (.take 0 (.take 1 (.take 2 (.take 3 (.take 4 (.take 5 (.take 6 (.take 7 (.take 8 (.take 9 (.run 10 false (.take 11 (.take 12 (.take 13 (.take 14 (.run 15 false (.run 16 false (.run 17 true .nil)))))))))))))))))) (by kernel_rfl) (by kernel_rfl) ?_
      simp only [pickOps, nthOp]
      intro wq hG
      repeat (first | (refine wpG_skip_take ?_ ?_; (focus rfl); try simp only [Act.put, List.setIfInBounds_toArray, List.set_cons_zero, List.set_cons_succ]) | (refine wpG_skip_run ?_ ?_; (focus rfl); try simp only [Act.put, List.setIfInBounds_toArray, List.set_cons_zero, List.set_cons_succ]) | (refine wpG_take ?_ ?_; (focus rfl); apply Exists.intro; refine ⟨fun w' hw' => ?_, ?_⟩; (focus (have hc := Gr.cells hw'; go_simp; (try rfl); done)); try simp only [Act.put, List.setIfInBounds_toArray, List.set_cons_zero, List.set_cons_succ]) | (refine wpG_run ?_ (fun K hK => ?_); (focus rfl); go_simp; (first | (go_at_call 73; (with_reducible refine (cut_some l b m _ HC.out HK.out.2.2.2 (hG.cell HM2.out)).mono ?_); rintro e w' ⟨⟨r, rfl⟩, hb⟩) | (have hb := Gr.refl w')); (try dsimp only); replace hG := hG.trans hb; refine hK.out _ _ hG ?_; clear hK K hb; try simp only [Act.put, List.setIfInBounds_toArray, List.set_cons_zero, List.set_cons_succ]))
      refine wpG_last ?_ (fun K hK => ?_); (focus rfl)
      have hc := hG.cells
      have hm := hG.marks
      go_simp
      refine hK.out _ _ ?_
      try simp only [Act.put, List.setIfInBounds_toArray, List.set_cons_zero, List.set_cons_succ]
      clear hK K hc hm
      refine wpG_done ?_
      obtain ⟨w3, hw3⟩ : ∃ x, x = w' := ⟨_, rfl⟩
      rw [← hw3] at hG ⊢
      clear hw3
      have hg3 := hgW.trans hG
      have xr3 := xr.later hG
      have hR3 : Rdr w3 p t k := boxAt.later H0.out hg3
      clear hG
      go_wp2_with fail
      go_at_call 74
      have hna := named_all b w3
      rw [HNS.out] at hna
      refine hna.mono ?_; clear hna; rintro e w4 ⟨rfl, hg4⟩
      obtain ⟨s, hs0⟩ : ∃ s, emptyS = s := ⟨_, rfl⟩
      rw [hs0]
      clear hs0
      go_wp2_with fail
      refine name_world (fun W5 hW5 => ?_)
      have xs : boxAt W5 w4.heap.size [.int .u64 (wd s 0), .int .u64 (wd s 1), .int .u64 (wd s 2), .int .u64 (wd s 3)] := boxAt.new _ _ hW5
      have hg5 : Gr w4 W5 := by rw [hW5]; exact Gr.alloc _ _
      have hgw5 := (hg3.trans hg4).trans hg5
      have xr5 := (xr3.later hg4).later hg5
      have hR5 : Rdr W5 p t k := boxAt.later H0.out hgw5
      have HS5 : Hid (∀ W6, Gr W5 W6 → Sy W6 p es ed ∧ p < W6.heap.size) := fun W6 h6 => ⟨hS'.out.kept (Kp.gr (hgw5.trans h6)), by have := (hgw5.trans h6).size; omega⟩
      clear hW5
      have c1 := boxAt.cell hR5 1 _ rfl
      have lp5 := boxAt.lt hR5 (Nat.succ_pos _)
      have c_s0 := xs.cell 0 _ rfl
      have c_s1 := xs.cell 1 _ rfl
      have c_s2 := xs.cell 2 _ rfl
      have c_s3 := xs.cell 3 _ rfl
      have m_s0 := xs.mark 0 _ rfl
      have m_s1 := xs.mark 1 _ rfl
      have m_s2 := xs.mark 2 _ rfl
      have m_s3 := xs.mark 3 _ rfl
      have l_s := xs.lt (Nat.succ_pos _)
      have c_r0 := xr5.cell 0 _ rfl
      have c_r1 := xr5.cell 1 _ rfl
      have c_r2 := xr5.cell 2 _ rfl
      have c_r3 := xr5.cell 3 _ rfl
      have m_r0 := xr5.mark 0 _ rfl
      have m_r1 := xr5.mark 1 _ rfl
      have m_r2 := xr5.mark 2 _ rfl
      have m_r3 := xr5.mark 3 _ rfl
      have l_r := xr5.lt (Nat.succ_pos _)
      go_region_with (go_at_call 33; (with_reducible refine (syntax_any _ p es ed _ (HS5.out _ (Gr.drew _)).1 (HS5.out _ (Gr.drew _)).2).mono ?_); rintro e w2 ⟨er, rfl, hr, hg2⟩; have hc := ((Gr.drew W5).trans hg2).cells; have hm := ((Gr.drew W5).trans hg2).marks)
      all_goals
        go_wp2
        refine bodyPost_ret (v := .tuple #[.agg #[.int .u64 (wd s 0), .int .u64 (wd s 1), .int .u64 (wd s 2), .int .u64 (wd s 3)], er]) (by simp [results, Tryd.results66, go_sem, hc, l_r, c_r0, c_r1, c_r2, c_r3]) rfl ?_
        refine RdEnd.bad HN.out (by have := HK.out; omega) (((Kp.gr hgw5).trans (Kp.gr ((Gr.drew W5).trans hg2))).put4 (Nat.le_refl _) _ _ _ _) ?_ (Any.far4 ⟨_, boxAt.later hR5 ((Gr.drew W5).trans hg2)⟩ (by omega) _ _ _ _)
        refine Refused.mono (B := W5.heap.size) ?_ (hgw5.size)
        exact Refused.put4 hr _ l_r _ _ _ _
    | some s =>
      rw [hns] at hnp
      dsimp only at hnp
      have HN := Lib.hid hnp
      have HNS := Lib.hid hns
      clear hnp hns
      go_enter Tryd.func66, Tryd.ntmps66
      go_wp2_with fail
      refine name_world (fun W hW => ?_)
      have xr : boxAt W w.heap.size [.int .u64 0, .int .u64 0, .int .u64 0, .int .u64 0] := boxAt.new _ _ hW
      have hgW : Gr w W := by rw [hW]; exact Gr.alloc _ _
      have d0 := hgW.cell c0
      have d1 := hgW.cell c1
      have lW : p < W.heap.size := by have := hgW.size; omega
      have HM2 := Lib.hid (hgW.cell HM.out)
      clear hW c0 c1
      refine wp_region_G (.take 0 (.take 1 (.take 2 (.take 3 (.take 4 (.take 5 (.take 6 (.take 7 (.take 8 (.take 9 (.run 10 false (.take 11 (.take 12 (.take 13 (.take 14 (.run 15 false (.run 16 false (.run 17 true .nil)))))))))))))))))) (by kernel_rfl) (by kernel_rfl) ?_
      simp only [pickOps, nthOp]
      intro wq hG
      repeat (first | (refine wpG_skip_take ?_ ?_; (focus rfl); try simp only [Act.put, List.setIfInBounds_toArray, List.set_cons_zero, List.set_cons_succ]) | (refine wpG_skip_run ?_ ?_; (focus rfl); try simp only [Act.put, List.setIfInBounds_toArray, List.set_cons_zero, List.set_cons_succ]) | (refine wpG_take ?_ ?_; (focus rfl); apply Exists.intro; refine ⟨fun w' hw' => ?_, ?_⟩; (focus (have hc := Gr.cells hw'; go_simp; (try rfl); done)); try simp only [Act.put, List.setIfInBounds_toArray, List.set_cons_zero, List.set_cons_succ]) | (refine wpG_run ?_ (fun K hK => ?_); (focus rfl); go_simp; (first | (go_at_call 73; (with_reducible refine (cut_some l b m _ HC.out HK.out.2.2.2 (hG.cell HM2.out)).mono ?_); rintro e w' ⟨⟨r, rfl⟩, hb⟩) | (have hb := Gr.refl w')); (try dsimp only); replace hG := hG.trans hb; refine hK.out _ _ hG ?_; clear hK K hb; try simp only [Act.put, List.setIfInBounds_toArray, List.set_cons_zero, List.set_cons_succ]))
      refine wpG_last ?_ (fun K hK => ?_); (focus rfl)
      have hc := hG.cells
      have hm := hG.marks
      go_simp
      refine hK.out _ _ ?_
      try simp only [Act.put, List.setIfInBounds_toArray, List.set_cons_zero, List.set_cons_succ]
      clear hK K hc hm
      refine wpG_done ?_
      obtain ⟨w3, hw3⟩ : ∃ x, x = w' := ⟨_, rfl⟩
      rw [← hw3] at hG ⊢
      clear hw3
      have hg3 := hgW.trans hG
      have xr3 := xr.later hG
      have hR3 : Rdr w3 p t k := boxAt.later H0.out hg3
      clear hG
      go_wp2_with fail
      go_at_call 74
      have hna := named_all b w3
      rw [HNS.out] at hna
      refine hna.mono ?_; clear hna; rintro e w4 ⟨rfl, hg4⟩
      have hg4w := hg3.trans hg4
      have xr4 := xr3.later hg4
      have hR4 : Rdr w4 p t k := boxAt.later hR3 hg4
      have HR4 := Lib.hid hR4
      have HX4 := Lib.hid xr4
      have c1 := boxAt.cell hR4 1 _ rfl
      have m1 := boxAt.mark hR4 1 _ rfl
      have lp4 := boxAt.lt hR4 (Nat.succ_pos _)
      have c_r0 := xr4.cell 0 _ rfl
      have c_r1 := xr4.cell 1 _ rfl
      have c_r2 := xr4.cell 2 _ rfl
      have c_r3 := xr4.cell 3 _ rfl
      have m_r0 := xr4.mark 0 _ rfl
      have m_r1 := xr4.mark 1 _ rfl
      have m_r2 := xr4.mark 2 _ rfl
      have m_r3 := xr4.mark 3 _ rfl
      have l_r := xr4.lt (Nat.succ_pos _)
      clear xr4 hR4 hR3 xr3 xr
      go_wp2
      refine name_end (fun W6 hW6 => ?_)
      have xr6 : boxAt W6 w.heap.size [.int .u64 (wd s 0), .int .u64 (wd s 1), .int .u64 (wd s 2), .int .u64 (wd s 3)] := by
        rw [hW6]; exact boxAt.later ((HX4.out.far ⟨p, 1, none⟩ _ (by show p ≠ _; omega)).put4 _ _ _ _) (Gr.alloc _ _)
      clear c_r0 c_r1 c_r2 c_r3 m_r0 m_r1 m_r2 m_r3 l_r
      have c_r0 := xr6.cell 0 _ rfl
      have c_r1 := xr6.cell 1 _ rfl
      have c_r2 := xr6.cell 2 _ rfl
      have c_r3 := xr6.cell 3 _ rfl
      have m_r0 := xr6.mark 0 _ rfl
      have m_r1 := xr6.mark 1 _ rfl
      have m_r2 := xr6.mark 2 _ rfl
      have m_r3 := xr6.mark 3 _ rfl
      have l_r := xr6.lt (Nat.succ_pos _)
      refine bodyPost_ret (v := .tuple #[.agg #[.int .u64 (wd s 0), .int .u64 (wd s 1), .int .u64 (wd s 2), .int .u64 (wd s 3)], .nilIface]) (by simp [results, Tryd.results66, go_sem, c_r0, c_r1, c_r2, c_r3]) rfl ?_
      rw [hW6]
      refine RdEnd.ok (by rw [HN.out, HK5.out.2]) HK5.out.1 ((((Kp.gr hg4w).at_p 1 _).put4 (Nat.le_refl _) _ _ _ _).trans (Kp.gr (Gr.alloc _ _))) ?_
      exact boxAt.later ((boxAt.put HR4.out 1 _ (by simp)).far4 (by omega) _ _ _ _) (Gr.alloc _ _)

end Go.Proofs.YtihjmeoklbmnmaaDoor
