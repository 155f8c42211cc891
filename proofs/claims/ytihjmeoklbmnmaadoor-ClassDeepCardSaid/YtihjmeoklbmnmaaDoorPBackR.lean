/- What is written is read as it, whatever stands ahead and behind; unlike is written unlike. Plain; no condition. -/
import Derived.Test.YtihjmeoklbmnmaaDoorPAlgP
import Derived.Test.YtihjmeoklbmnmaaDoorPUnquote
namespace Go.Proofs.YtihjmeoklbmnmaaDoor
open Go

theorem drop_ahead (A T : List UInt8) (M : List UInt8) : (A ++ T ++ M).drop A.length = T ++ M := by
  rw [List.append_assoc, List.drop_left]
theorem parse_back (A M : List UInt8) (r : List Sp) (hr : ∀ p ∈ r, p.1.toNat ≤ p.2.toNat) : parseP (A ++ textL r ++ M) (A.length : Int) = .ok (ofSpans r) M := by
  rw [parseP_eq, if_neg (by simp only [List.length_append]; omega), Int.toNat_natCast, drop_ahead]
  exact class_text 0 (by omega) r M hr
theorem unq_back (A M s : List UInt8) : unquoteP (A ++ quoteL s ++ M) (A.length : Int) = .ok s M := by
  have hn : (if (A.length : Int) < 0 ∨ ((A ++ quoteL s ++ M).length : Int) < (A.length : Int) then (A ++ quoteL s ++ M).length else (A.length : Int).toNat) = A.length := by
    rw [if_neg (by simp only [List.length_append]; omega), Int.toNat_natCast]
  unfold unquoteP
  dsimp only
  rw [hn]
  clear hn
  have e : A ++ quoteL s ++ M = A ++ (34 :: (s.flatMap wrQ ++ (34 :: M))) := by unfold quoteL; simp
  rw [e, List.drop_left, ← List.drop_drop, List.drop_left]
  rw [if_pos (by rfl), List.drop_succ_cons, List.drop_zero]
  have := quoted_all s ((A ++ (34 :: (s.flatMap wrQ ++ (34 :: M)))).length + 1) M [] (by
    have h : s.length ≤ (s.flatMap wrQ).length := by
      clear e
      induction s with
      | nil => simp
      | cons c s ih =>
        rw [List.flatMap_cons, List.length_append, List.length_cons]
        have : 1 ≤ (wrQ c).length := by
          unfold wrQ wr
          split
          · simp
          · split
            · simp
            · split
              · simp
              · split
                · simp
                · split <;> simp
        omega
    simp only [List.length_append, List.length_cons]; omega)
  rw [List.nil_append] at this; exact this
theorem text_same {s1 s2 : BitVec 256} {r1 r2 : List Sp} (h1 : Runs r1 (bytesOf s1)) (h2 : Runs r2 (bytesOf s2)) (e1 : ofSpans r1 = s1) (e2 : ofSpans r2 = s2) (l1 : ∀ p ∈ r1, p.1.toNat ≤ p.2.toNat) (l2 : ∀ p ∈ r2, p.1.toNat ≤ p.2.toNat) :
    (textL r1 == textL r2) = (s1 == s2) := by
  rw [Bool.eq_iff_iff]
  simp only [beq_iff_eq]
  constructor
  · intro h
    have a := class_text 0 (by omega) r1 [] l1
    have b := class_text 0 (by omega) r2 [] l2
    rw [h, b] at a
    injection a with a
    rw [← e1, ← e2, a]
  · rintro rfl
    rw [h1.one _ h2]
theorem quote_same (a b : List UInt8) : (quoteL a == quoteL b) = (a == b) := by
  rw [Bool.eq_iff_iff]
  simp only [beq_iff_eq]
  constructor
  · intro h
    have x := unq_back [] [] a
    have y := unq_back [] [] b
    rw [h, y] at x
    injection x with x
    exact x.symm
  · rintro rfl; rfl

theorem parse_at (t : List UInt8) (a : Int) (s : BitVec 256) (r : List UInt8) (es ed : Value) (w : World) (hT : (t.length : Int) ≤ 4294967280) (hS : Sy0 w es ed) (h : parseP t a = .ok s r) (m : Int) (hm : ((t.length - r.length : Nat) : Int) = m) :
    Calls Tryd.prog 13 #[.string (st t), .int .i64 a] w fun e w' => e = .returned (.tuple #[.agg #[.int .u64 (wd s 0), .int .u64 (wd s 1), .int .u64 (wd s 2), .int .u64 (wd s 3)], .int .i64 m, .nilIface]) ∧ Gr w w' := by
  have := parse_any t a es ed w hT hS
  rw [h] at this
  refine this.mono ?_
  rintro e w' ⟨hg, rfl⟩
  rw [hm]; exact ⟨rfl, hg⟩
theorem unq_at (t : List UInt8) (a : Int) (s r : List UInt8) (es ed : Value) (w : World) (hT : (t.length : Int) ≤ 4294967280) (hS : Sy0 w es ed) (h : unquoteP t a = .ok s r) (m : Int) (hm : ((t.length - r.length : Nat) : Int) = m) :
    Calls Tryd.prog 18 #[.string (st t), .int .i64 a] w fun e w' => e = .returned (.tuple #[.string (st s), .int .i64 m, .nilIface]) ∧ Gr w w' := by
  have := unquote_any t a es ed w hT hS
  rw [h] at this
  refine this.mono ?_
  rintro e w' ⟨hg, rfl⟩
  rw [hm]; exact ⟨rfl, hg⟩

end Go.Proofs.YtihjmeoklbmnmaaDoor
