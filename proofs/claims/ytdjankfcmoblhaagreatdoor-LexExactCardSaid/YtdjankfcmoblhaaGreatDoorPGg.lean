/- Texts of mine, put together: LexR, LexA, LexK, LexG. No condition but what each says. -/
import Derived.Test.YtdjankfcmoblhaaGreatDoorPLexeme
import Derived.Lib.MapLaws
import Derived.Lib.TrimUEq
import Derived.WalkSmall

/- lex: one lexeme of whatever kind; runes of a text. No condition but a length's bound and the errors' variables. -/
namespace Go.Proofs.YtdjankfcmoblhaaGreatDoor
open Go Go.RowKit

/-! ### Runes -/

theorem rune_ascii (t : List UInt8) (p : Nat) (c : UInt8) (hc : t[p]? = some c) (h : c.toNat < 128) : Utf8.decode (st t) p = (c.toNat, 1) := by
  obtain ⟨hl, rfl⟩ := List.getElem?_eq_some_iff.1 hc
  have hs : p < (st t).size := by rw [st_size]; exact hl
  have := decode_ascii (st t) p hs (by rw [st_get]; exact h)
  rw [st_get] at this
  exact this
theorem rune_high (t : List UInt8) (p : Nat) (c : UInt8) (hc : t[p]? = some c) (h : 128 ≤ c.toNat) : 128 ≤ (Utf8.decode (st t) p).1 := by
  obtain ⟨hl, rfl⟩ := List.getElem?_eq_some_iff.1 hc
  have hs : p < (st t).size := by rw [st_size]; exact hl
  exact (decode_high (st t) p hs (by rw [st_get]; exact h)).1
/-- A rune's bytes: it has one at least; none but the first one is below 128, nor is the first one where there are more; it does not go beyond the end. -/
theorem rune_wide (t : List UInt8) (p : Nat) (hp : p < t.length) : 1 ≤ (Utf8.decode (st t) p).2 ∧ p + (Utf8.decode (st t) p).2 ≤ t.length ∧ (1 < (Utf8.decode (st t) p).2 → ∀ j, p ≤ j → j < p + (Utf8.decode (st t) p).2 → 128 ≤ (t.getD j 0).toNat) := by
  rw [Lib.decode_N, st_data]
  have k0 := (t.getD p 0).toNat_lt
  have k1 := (t.getD (p + 1) 0).toNat_lt
  have k2 := (t.getD (p + 2) 0).toNat_lt
  have k3 := (t.getD (p + 3) 0).toNat_lt
  rcases Lib.decodeN_shape (t.length - p) (t.getD p 0).toNat (t.getD (p + 1) 0).toNat (t.getD (p + 2) 0).toNat (t.getD (p + 3) 0).toNat with ⟨c, e⟩ | ⟨c1, c2, c3, cv, e⟩ | ⟨c1, c2, c3, c4, cv, cs, e⟩ | ⟨c1, c2, c3, c4, c5, cv, cw, e⟩ | e
  all_goals
    rw [e]
    refine ⟨by simp, by simp; omega, fun h j h1 h2 => ?_⟩
  · simp at h
  · simp at h2
    rcases (show j = p ∨ j = p + 1 by omega) with rfl | rfl <;> omega
  · simp at h2
    rcases (show j = p ∨ j = p + 1 ∨ j = p + 2 by omega) with rfl | rfl | rfl <;> omega
  · simp at h2
    rcases (show j = p ∨ j = p + 1 ∨ j = p + 2 ∨ j = p + 3 by omega) with rfl | rfl | rfl | rfl <;> omega
  · simp at h
/-- No rune goes beyond where a rune may end. -/
theorem rune_bd (t : List UInt8) (p n : Nat) (hp : p < t.length) (hpn : p < n) (hn : BdL t n) : p + (Utf8.decode (st t) p).2 ≤ n := by
  obtain ⟨h1, h2, h3⟩ := rune_wide t p hp
  rcases Nat.lt_or_ge n (p + (Utf8.decode (st t) p).2) with h | h
  · exfalso
    have hw : 1 < (Utf8.decode (st t) p).2 := by omega
    have key := h3 hw
    rcases hn with rfl | ⟨c, hc, h128⟩ | ⟨c, h0, hc, h128⟩
    · omega
    · have := key n (by omega) h
      rw [List.getD_eq_getElem?_getD, hc] at this
      simp at this; omega
    · have := key (n - 1) (by omega) (by omega)
      rw [List.getD_eq_getElem?_getD, hc] at this
      simp at this; omega
  · exact h

/-! ### One lexeme -/

theorem runL_while (f : UInt8 → Bool) (h : ∀ c, f c = true → c.toNat < 128) (l : List UInt8) : runL f l = (l.takeWhile f).length := by
  induction l with
  | nil => rfl
  | cons c l ih =>
    rw [runL_cons, List.takeWhile_cons]
    cases hf : f c with
    | true => rw [show decide (c.toNat < 128) = true from by simpa using h c hf, Bool.true_and, if_pos rfl, if_pos rfl, List.length_cons, ih]
    | false => rw [Bool.and_false, if_neg (by decide), if_neg (by decide)]; rfl
theorem take_while (f : UInt8 → Bool) (l : List UInt8) : l.take (l.takeWhile f).length = l.takeWhile f := by
  induction l with
  | nil => rfl
  | cons c l ih =>
    rw [List.takeWhile_cons]
    split
    · rw [List.length_cons, List.take_succ_cons, ih]
    · rfl
/-- What lexeme answers at a place. -/
def LexEnd (es ed : Value) (a : Nat) (w : World) (o : One) (e : Ending) (w' : World) : Prop :=
  Gr w w' ∧ match o with
    | .skip k => e = .returned (.tuple #[lxV 0 a (a + k : Nat) { data := #[] } 0 emptyS, .nilIface])
    | .tok kd k tx n s => e = .returned (.tuple #[lxV kd a (a + k : Nat) (st tx) n s, .nilIface])
    | .bad d k => ∃ (kd f : Int) (tx : ByteArray) (er : Value), e = .returned (.tuple #[lxV kd a f tx 0 emptyS, er]) ∧ Refused w' w.heap.size (refE es ed d) er ((a + k : Nat) : Int)
theorem cast_ne (k m : Nat) (h : ¬ k = m) : ((k : Int) == (m : Int)) = false := by rw [beq_eq_false_iff_ne]; omega
theorem cast_neL {k m : Nat} (h : ¬ k = m) {x : Int} (hx : x = (m : Int)) : ((k : Int) == x) = false := by rw [hx]; exact cast_ne k m h
theorem letK_let (c : UInt8) : letK c.toNat = letC c := rfl
theorem digK_dig (c : UInt8) : digK c.toNat = digC c := rfl
theorem unq_le (t : List UInt8) (a : Nat) (ha : a < t.length) (h34 : t.drop a = 34 :: t.drop (a + 1)) : unquoteP t (a : Int) = quotedF (t.drop (a + 1)) [] := by
  have hn : (if (a : Int) < 0 ∨ (t.length : Int) < (a : Int) then t.length else (a : Int).toNat) = a := by rw [if_neg (by omega), Int.toNat_natCast]
  unfold unquoteP
  simp only [hn]
  rw [h34, if_pos (by rw [pre_cons1]; rfl)]
  unfold quotedF
  exact quotedP_fuel _ _ _ _ (by simp; omega) (by omega)
theorem quoted_bad_le : ∀ (n : Nat) (l acc r : List UInt8), l.length ≤ n → quotedF l acc = .bad r → r.length ≤ l.length
  | n, [], acc, r, _, h => by rw [quotedF_nil] at h; injection h with h; rw [← h]; exact Nat.le_refl _
  | 0, c :: l, acc, r, hn, h => by simp at hn
  | n + 1, c :: l, acc, r, hn, h => by
    simp only [List.length_cons] at hn
    by_cases h1 : c = 10
    · subst h1; rw [quotedF_lf] at h; injection h with h; rw [← h]; exact Nat.le_refl _
    by_cases h2 : c = 34
    · subst h2; rw [quotedF_end] at h; cases h
    by_cases h3 : c = 92
    · subst h3
      cases he : escP l with
      | none => rw [quotedF_bad _ _ he] at h; injection h with h; rw [← h]; exact Nat.le_refl _
      | some x =>
        obtain ⟨v, q⟩ := x
        rw [quotedF_esc _ _ _ _ he] at h
        obtain ⟨k, _, hk, rfl⟩ := escP_len he
        have := quoted_bad_le n _ _ r (by rw [List.length_drop]; omega) h
        rw [List.length_drop] at this
        rw [List.length_cons]; omega
    · rw [quotedF_byte _ _ _ h1 h2 h3] at h
      have := quoted_bad_le n _ _ r (by omega) h
      rw [List.length_cons]; omega
theorem quoted_le {l acc : List UInt8} : (∀ s r, quotedF l acc = .ok s r → r.length ≤ l.length) ∧ ∀ r, quotedF l acc = .bad r → r.length ≤ l.length :=
  ⟨fun s r h => by
    obtain ⟨p, e, _⟩ := quotedF_app _ _ _ _ _ (Nat.le_refl _) h
    rw [e]; simp; omega, fun r h => quoted_bad_le _ _ _ _ (Nat.le_refl _) h⟩
theorem class_le (l : List UInt8) : (∀ s r, classF 0 l = .ok s r → r.length ≤ l.length) ∧ ∀ d r, classF 0 l = .bad d r → r.length ≤ l.length := by
  have h := classP_len (l.length + 1) 0 l
  refine ⟨fun s r e => ?_, fun d r e => ?_⟩
  all_goals
    unfold classF at e
    rw [e] at h
    first
      | (obtain ⟨k, h1, h2, h3⟩ := h; rw [h3, List.length_drop]; omega)
      | (obtain ⟨k, h1, h3⟩ := h; rw [h3, List.length_drop]; omega)
theorem rest_ne {c : UInt8} (h : restC c = true) : letC c = false ∧ digC c = false ∧ ¬ c.toNat = 32 ∧ ¬ c.toNat = 9 ∧ ¬ c.toNat = 13 ∧ ¬ c.toNat = 35 ∧ ¬ c.toNat = 10 ∧ ¬ c.toNat = 34 ∧ ¬ c.toNat = 91 ∧ ¬ c.toNat = 46 := by
  have := all8 (fun c => !restC c || (!letC c && !digC c && !decide (c.toNat = 32) && !decide (c.toNat = 9) && !decide (c.toNat = 13) && !decide (c.toNat = 35) && !decide (c.toNat = 10) && !decide (c.toNat = 34) && !decide (c.toNat = 91) && !decide (c.toNat = 46))) (by decide +kernel) c
  simpa [h, and_assoc] using this
theorem let_ne {c : UInt8} (h : letC c = true) : ¬ c.toNat = 32 ∧ ¬ c.toNat = 9 ∧ ¬ c.toNat = 13 ∧ ¬ c.toNat = 35 ∧ ¬ c.toNat = 10 := by
  have := all8 (fun c => !letC c || (!decide (c.toNat = 32) && !decide (c.toNat = 9) && !decide (c.toNat = 13) && !decide (c.toNat = 35) && !decide (c.toNat = 10))) (by decide +kernel) c
  simpa [h, and_assoc] using this
theorem dig_ne {c : UInt8} (h : digC c = true) : letC c = false ∧ ¬ c.toNat = 32 ∧ ¬ c.toNat = 9 ∧ ¬ c.toNat = 13 ∧ ¬ c.toNat = 35 ∧ ¬ c.toNat = 10 := by
  have := all8 (fun c => !digC c || (!letC c && !decide (c.toNat = 32) && !decide (c.toNat = 9) && !decide (c.toNat = 13) && !decide (c.toNat = 35) && !decide (c.toNat = 10))) (by decide +kernel) c
  simpa [h, and_assoc] using this
theorem high_rest {c : UInt8} (h : 128 ≤ c.toNat) : restC c = true ∧ c ≠ 61 ∧ c ∉ marks1 := by
  have := all8 (fun c => !decide (128 ≤ c.toNat) || (restC c && c != 61 && !decide (c ∈ marks1))) (by decide +kernel) c
  simpa [h, and_assoc] using this
theorem blank_is {c : UInt8} (h : blankC c = true) : c.toNat = 32 ∨ c.toNat = 9 ∨ c.toNat = 13 := by
  have := all8 (fun c => !blankC c || (decide (c.toNat = 32) || decide (c.toNat = 9) || decide (c.toNat = 13))) (by decide +kernel) c
  simpa [h, or_assoc] using this
/-- A byte's own rune. -/
theorem lexeme_byte (t : List UInt8) (a : Nat) (c : UInt8) (w : World) (hT : (t.length : Int) ≤ 4294967280) (hc : t[a]? = some c) (es ed : Value) (hS : Sy0 w es ed) (h128 : c.toNat < 128) :
    Calls Tryz.prog 11 #[.string (st t), .int .i64 (a : Int), .int .i32 (c.toNat : Int)] w (LexEnd es ed a w (oneP (t.drop a))) := by
  have ha := (List.getElem?_eq_some_iff.1 hc).1
  have hd := drop_at t a c hc
  have hlen : (t.drop a).length = t.length - a := List.length_drop
  rcases byte_cases c with hb | rfl | rfl | hb | hb | rfl | rfl | rfl | hb
  · rw [hd, oneP_blank _ hb]
    refine (lexeme_blank t a (a + 1) w hT ha rfl c.toNat (blank_is hb)).mono ?_
    rintro e w' ⟨rfl, hg⟩
    exact ⟨hg, rfl⟩
  · rw [hd, oneP_cons, if_neg (by decide), if_pos rfl]
    refine (lexeme_remark t a (a + 1) w hT ha rfl).mono ?_
    rintro e w' ⟨rfl, hg⟩
    refine ⟨hg, ?_⟩
    rw [hd]
  · rw [hd, oneP_cons, if_neg (by decide), if_neg (by decide), if_pos rfl]
    refine (lexeme_lf t a (a + 1) w hT ha rfl).mono ?_
    rintro e w' ⟨rfl, hg⟩
    exact ⟨hg, rfl⟩
  · obtain ⟨n1, n2, n3, n4, n5⟩ := let_ne hb
    have hr := runL_while furC (fun c h => (fur_is h).1) (t.drop a)
    rw [hd, oneP_let _ hb, ← hd]
    split
    · rename_i hl
      refine (lexeme_long t a (a + 1) w hT ha rfl c.toNat hb (cast_neL n1 rfl) (cast_neL n2 rfl) (cast_neL n3 rfl) (cast_neL n4 rfl) (cast_neL n5 rfl) (by rw [hr]; omega) es ed hS).mono ?_
      rintro e w' ⟨hg, f, tx, er, rfl, h⟩
      exact ⟨hg, _, _, _, _, rfl, h⟩
    · rename_i hl
      refine (lexeme_name t a (a + 1) w hT ha rfl c.toNat hb (cast_neL n1 rfl) (cast_neL n2 rfl) (cast_neL n3 rfl) (cast_neL n4 rfl) (cast_neL n5 rfl) (by rw [hr]; omega)).mono ?_
      rintro e w' ⟨rfl, hg⟩
      refine ⟨hg, ?_⟩
      rw [hr, take_while]; rfl
  · obtain ⟨hnl, n1, n2, n3, n4, n5⟩ := dig_ne hb
    have hr := runL_while digC (fun c h => (dig_is h).2.2.2.2) (t.drop a)
    rw [hd, oneP_dig _ hb, ← hd]
    refine (lexeme_num t a (a + 1) w hT ha rfl c.toNat hnl hb (cast_neL n1 rfl) (cast_neL n2 rfl) (cast_neL n3 rfl) (cast_neL n4 rfl) (cast_neL n5 rfl)).mono ?_
    rintro e w' ⟨rfl, hg⟩
    refine ⟨hg, ?_⟩
    rw [hr, take_while]; rfl
  · rw [hd, oneP_text]
    unfold textP
    rw [List.drop_succ_cons, List.drop_zero]
    have hu := unq_le t a ha hd
    have hle := quoted_le (l := t.drop (a + 1)) (acc := [])
    have hl1 : (t.drop (a + 1)).length = t.length - (a + 1) := List.length_drop
    have hl2 : (34 :: t.drop (a + 1)).length = t.length - a := by rw [← hd]; exact hlen
    cases hq : quotedF (t.drop (a + 1)) [] with
    | ok s r =>
      rw [hq] at hu
      have := hle.1 s r hq
      refine (lexeme_text_ok t a (a + 1) w hT ha rfl es ed hS s r hu).mono ?_
      rintro e w' ⟨hg, rfl⟩
      refine ⟨hg, ?_⟩
      simp only
      rw [hl2, show a + (t.length - a - r.length) = t.length - r.length by omega]; rfl
    | bad r =>
      rw [hq] at hu
      have := hle.2 r hq
      refine (lexeme_text_bad t a (a + 1) w hT ha rfl es ed hS r hu).mono ?_
      rintro e w' ⟨hg, er, rfl, h⟩
      refine ⟨hg, _, _, _, _, rfl, ?_⟩
      try simp only
      rw [hl2, show a + (t.length - a - r.length) = t.length - r.length by omega]; exact h
  · rw [hd, oneP_set, ← hd]
    unfold setP
    have hu : parseP t (a : Int) = classF 0 (t.drop a) := by rw [parseP_eq, if_neg (by omega), Int.toNat_natCast]
    have hle := class_le (t.drop a)
    rw [hlen] at hle ⊢
    cases hq : classF 0 (t.drop a) with
    | ok s r =>
      rw [hq] at hu
      have := hle.1 s r hq
      refine (lexeme_set_ok t a (a + 1) w hT ha rfl es ed hS s r hu).mono ?_
      rintro e w' ⟨hg, rfl⟩
      refine ⟨hg, ?_⟩
      simp only
      rw [show a + (t.length - a - r.length) = t.length - r.length by omega]; rfl
    | bad d r =>
      rw [hq] at hu
      have := hle.2 d r hq
      refine (lexeme_set_bad t a (a + 1) w hT ha rfl es ed hS d r hu).mono ?_
      rintro e w' ⟨hg, er, rfl, h⟩
      refine ⟨hg, _, _, _, _, rfl, ?_⟩
      rw [show a + (t.length - a - r.length) = t.length - r.length by omega]; exact h
  · rw [hd, oneP_cons, if_neg (by decide), if_neg (by decide), if_neg (by decide), if_neg (by decide), if_neg (by decide), if_neg (by decide), if_neg (by decide), if_pos rfl]
    refine (lexeme_point t a (a + 1) w hT ha rfl).mono ?_
    rintro e w' ⟨hg, rfl⟩
    exact ⟨hg, rfl⟩
  · obtain ⟨hnl, hnd, n1, n2, n3, n4, n5, n6, n7, n8⟩ := rest_ne hb
    rw [hd, oneP_mark _ hb, ← hd]
    have hm := fun w => mark_any t a c w hc
    split
    · rename_i h0
      rw [h0] at hm
      refine (lexeme_none t a (a + 1) w hT ha rfl c.toNat hnl hnd (cast_neL n1 rfl) (cast_neL n2 rfl) (cast_neL n3 rfl) (cast_neL n4 rfl) (cast_neL n5 rfl) (cast_neL n6 rfl) (cast_neL n7 rfl) (cast_neL n8 rfl) es ed hS hm).mono ?_
      rintro e w' ⟨hg, er, rfl, h⟩
      exact ⟨hg, _, _, _, _, rfl, h⟩
    · rename_i h0
      have hml : markP (t.drop a) ≤ (t.drop a).length := by
        rw [hd, markP_cons]
        split
        · split
          · rename_i hp; obtain ⟨q, hq⟩ := pre_hd hp; rw [hq]; simp
          · simp
        · split <;> simp
      refine (lexeme_mark t a (a + 1) w hT ha rfl c.toNat hnl hnd (cast_neL n1 rfl) (cast_neL n2 rfl) (cast_neL n3 rfl) (cast_neL n4 rfl) (cast_neL n5 rfl) (cast_neL n6 rfl) (cast_neL n7 rfl) (cast_neL n8 rfl) (markP (t.drop a)) (by omega) (by omega) hm).mono ?_
      rintro e w' ⟨rfl, hg⟩
      exact ⟨hg, rfl⟩
/-- A rune that is no byte. -/
theorem lexeme_high (t : List UInt8) (a : Nat) (c : UInt8) (k : Nat) (w : World) (hT : (t.length : Int) ≤ 4294967280) (hc : t[a]? = some c) (es ed : Value) (hS : Sy0 w es ed) (h128 : 128 ≤ c.toNat) (hk : 128 ≤ k) :
    Calls Tryz.prog 11 #[.string (st t), .int .i64 (a : Int), .int .i32 (k : Int)] w (LexEnd es ed a w (oneP (t.drop a))) := by
  have ha := (List.getElem?_eq_some_iff.1 hc).1
  have hd := drop_at t a c hc
  obtain ⟨hr, h61, hm⟩ := high_rest h128
  rw [hd, oneP_mark _ hr, markP_cons, if_neg h61, if_neg hm, if_pos rfl]
  have hl : letK k = false := by unfold letK; simp; omega
  have hdg : digK k = false := by unfold digK; simp; omega
  have ne : ∀ m : Nat, m < 128 → ∀ x : Int, x = (m : Int) → ((k : Int) == x) = false := fun m h x hx => cast_neL (by omega) hx
  refine (lexeme_none t a (a + 1) w hT ha rfl k hl hdg (ne 32 (by omega) _ rfl) (ne 9 (by omega) _ rfl) (ne 13 (by omega) _ rfl) (ne 35 (by omega) _ rfl) (ne 10 (by omega) _ rfl) (ne 34 (by omega) _ rfl) (ne 91 (by omega) _ rfl) (ne 46 (by omega) _ rfl) es ed hS (fun w => mark_high _ _ k w hk)).mono ?_
  rintro e w' ⟨hg, er, rfl, h⟩
  exact ⟨hg, _, _, _, _, rfl, h⟩
/-- The rune that is decoded at a place. -/
theorem lexeme_any (t : List UInt8) (a : Nat) (w : World) (hT : (t.length : Int) ≤ 4294967280) (ha : a < t.length) (es ed : Value) (hS : Sy0 w es ed) :
    Calls Tryz.prog 11 #[.string (st t), .int .i64 (a : Int), .int .i32 ((Utf8.decode (st t) a).1 : Int)] w (LexEnd es ed a w (oneP (t.drop a))) := by
  have hc := List.getElem?_eq_getElem ha
  by_cases h : (t[a]).toNat < 128
  · rw [rune_ascii t a _ hc h]; exact lexeme_byte t a _ w hT hc es ed hS h
  · exact lexeme_high t a _ _ w hT hc es ed hS (by omega) (rune_high t a _ hc (by omega))

end Go.Proofs.YtdjankfcmoblhaaGreatDoor

/- lex: Lex. No condition but a length's bound and the errors' variables. -/
namespace Go.Proofs.YtdjankfcmoblhaaGreatDoor
open Go Go.RowKit

def tokC (x : Tok) : List Value := lxC x.kd x.at' x.fin (st x.tx) x.n x.s
theorem tokC_len (x : Tok) : (tokC x).length = 9 := rfl
theorem lxC_one (kd a e : Int) (tx : ByteArray) (n : Int) (s : BitVec 256) : ∀ u ∈ lxC kd a e tx n s, u.oneCell' = true := fun u hu => by
  simp [lxC] at hu; rcases hu with rfl | rfl | rfl | rfl | rfl | rfl | rfl | rfl | rfl <;> rfl
theorem info_lex : (Tryz.prog.info? 38).map (fun i => (i.zero, i.size, i.bytes)) = some (some (.agg #[.int .i64 0, .int .i64 0, .int .i64 0, .string { data := #[] }, .int .i64 0, .int .u64 0, .int .u64 0, .int .u64 0, .int .u64 0]), 9, 80) := by kernel_rfl
/-- What Lex answers. -/
def LexAns (es ed : Value) (w : World) (x : List Tok × Option (Bool × Nat)) (e : Ending) (w' : World) : Prop :=
  Gr w w' ∧ ∃ v, w'.ownsRow w.heap.size 38 9 v x.1.length (x.1.flatMap tokC) ∧ match x.2 with
    | none => e = .returned (.tuple #[v, .nilIface])
    | some (d, k) => ∃ er, e = .returned (.tuple #[v, er]) ∧ Refused w' w.heap.size (refE es ed d) er (k : Int)
theorem oneP_tok_pos {l tx : List UInt8} {kd k n : Nat} {s : BitVec 256} (h : oneP l = .tok kd k tx n s) : 1 ≤ kd := by
  obtain ⟨p, y, _, _, hP, _⟩ := oneP_app h
  rcases hP with ⟨h, _⟩ | ⟨h, _⟩ | ⟨h, _⟩ | ⟨h, _⟩ | ⟨h, _⟩ | ⟨h, _⟩ <;> omega
theorem lexeme_skip (t : List UInt8) (a k : Nat) (w : World) (hT : (t.length : Int) ≤ 4294967280) (ha : a < t.length) (es ed : Value) (hS : Sy0 w es ed) (h : oneP (t.drop a) = .skip k) :
    Calls Tryz.prog 11 #[.string (st t), .int .i64 (a : Int), .int .i32 ((Utf8.decode (st t) a).1 : Int)] w fun e w' => e = .returned (.tuple #[.agg #[.int .i64 0, .int .i64 (a : Int), .int .i64 ((a + k : Nat) : Int), .string { data := #[] }, .int .i64 0, .int .u64 0, .int .u64 0, .int .u64 0, .int .u64 0], .nilIface]) ∧ Gr w w' := by
  have := lexeme_any t a w hT ha es ed hS
  rw [h] at this
  refine this.mono ?_
  rintro e w' ⟨hg, rfl⟩
  rw [lxV_zero]
  exact ⟨rfl, hg⟩
theorem lexeme_tok (t tx : List UInt8) (a kd k n : Nat) (s : BitVec 256) (w : World) (hT : (t.length : Int) ≤ 4294967280) (ha : a < t.length) (es ed : Value) (hS : Sy0 w es ed) (h : oneP (t.drop a) = .tok kd k tx n s) :
    Calls Tryz.prog 11 #[.string (st t), .int .i64 (a : Int), .int .i32 ((Utf8.decode (st t) a).1 : Int)] w fun e w' => e = .returned (.tuple #[.agg #[.int .i64 kd, .int .i64 (a : Int), .int .i64 ((a + k : Nat) : Int), .string (st tx), .int .i64 n, .int .u64 (wd s 0), .int .u64 (wd s 1), .int .u64 (wd s 2), .int .u64 (wd s 3)], .nilIface]) ∧ Gr w w' := by
  have := lexeme_any t a w hT ha es ed hS
  rw [h] at this
  refine this.mono ?_
  rintro e w' ⟨hg, rfl⟩
  exact ⟨rfl, hg⟩
theorem lexeme_bad (t : List UInt8) (a k : Nat) (d : Bool) (w : World) (hT : (t.length : Int) ≤ 4294967280) (ha : a < t.length) (es ed : Value) (hS : Sy0 w es ed) (h : oneP (t.drop a) = .bad d k) :
    Calls Tryz.prog 11 #[.string (st t), .int .i64 (a : Int), .int .i32 ((Utf8.decode (st t) a).1 : Int)] w fun e w' => Gr w w' ∧ ∃ (kd f : Int) (tx : ByteArray) (ty : TypeId) (y : Value), e = .returned (.tuple #[.agg #[.int .i64 kd, .int .i64 (a : Int), .int .i64 f, .string tx, .int .i64 0, .int .u64 0, .int .u64 0, .int .u64 0, .int .u64 0], .iface ty y]) ∧ Refused w' w.heap.size (refE es ed d) (.iface ty y) ((a + k : Nat) : Int) := by
  have := lexeme_any t a w hT ha es ed hS
  rw [h] at this
  refine this.mono ?_
  rintro e w' ⟨hg, kd, f, tx, er, rfl, hr⟩
  obtain ⟨ty, y, rfl⟩ := hr.iface
  rw [lxV_zero]
  exact ⟨hg, _, _, _, _, _, rfl, hr⟩

theorem it_later {w w' : World} {k : Nat} {o : Obj} (hG : Gr w w') (h : w.heap[k]? = some o) : w'.heap[k]? = some o := by
  rw [Below.block hG k (Array.getElem?_eq_some_iff.1 h).1]; exact h
theorem new_cells' (w : World) (vs : List Value) (e : TypeId) (b : Nat) (hb : w.heap.size = b) : ∀ (j : Nat) (u : Value), vs[j]? = some u → (w.alloc (.cells vs.toArray e)).cell? ((⟨b, 0, none⟩ : Addr).add j) = some u := by
  subst hb; exact new_cells w vs e

theorem owns_mono {w : World} {B B' e n k : Nat} {v : Value} {xs : List Value} (h : w.ownsRow B e k v n xs) (hB : B' ≤ B) : w.ownsRow B' e k v n xs := by
  obtain ⟨h1, h2⟩ := h
  refine ⟨h1, h2.imp id ?_⟩
  rintro ⟨g, cap, cur, hv, hb, r⟩
  exact ⟨g, cap, cur, hv, Nat.le_trans hB hb, r⟩
theorem refused_later {w w' : World} {B : Nat} {e er : Value} {k : Int} (h : Refused w B e er k) (hG : Gr w w') : Refused w' B e er k := by
  obtain ⟨b, h1, h2, h3⟩ := h
  exact ⟨b, h1, h2.later hG, h3⟩

set_option maxRecDepth 100000 in
set_option maxHeartbeats 4000000 in
theorem lex_any (t : List UInt8) (es ed : Value) (w : World) (hT : (t.length : Int) ≤ 65536) (hS : Sy0 w es ed) :
    Calls Tryz.prog 5 #[.string (st t)] w (LexAns es ed w (lexF t 0)) := by
  obtain ⟨i0, hi, hz0, hz1, hz2⟩ := info_parts info_lex
  have hsz := st_size t
  obtain ⟨X, hX⟩ : ∃ X, lexF t 0 = X := ⟨_, rfl⟩
  rw [hX]
  have HX := Lib.hid hX
  have HS := Lib.hid hS
  have HT := Lib.hid hT
  clear hX hS
  go_enter Tryz.func5, Tryz.ntmps5
  go_wp2_with fail
  go_loopw [4, 5] (fun v nx wr => ∃ (p n : Nat) (L : List Tok), nx = .int .i64 (n : Int) ∧ p ≤ n ∧ n ≤ t.length ∧ Hid (p < n → BdL t n) ∧ L.length ≤ n ∧ Hid (X = (L ++ (lexF (t.drop n) n).1, (lexF (t.drop n) n).2)) ∧ wr.heap[w.heap.size]? = some (.stringIter (st t) p) ∧ wr.ownsRow (w.heap.size + 1) 38 9 v L.length (L.flatMap tokC) ∧ Gr w wr) (fun _ _ wr => t.length - wr.iterPos w.heap.size)
  case atStart =>
    exact ⟨0, 0, [], rfl, Nat.le_refl _, Nat.zero_le _, Lib.hid (fun h => absurd h (Nat.lt_irrefl _)), Nat.zero_le _, Lib.hid HX.out.symm, World.iter_heap _ _ _, World.ownsRow_nil _ _ _ _, Gr.alloc _ _⟩
  case round =>
    obtain ⟨p, n, L, rfl, hpn, hn, hbd, hLn, hX, hit, hown, hg⟩ := hrel
    by_cases hp : p < t.length
    · obtain ⟨hw1, hw2, _⟩ := rune_wide t p hp
      have HB := Lib.hid (fun (h : p < n) => rune_bd t p n hp h (hbd.out h))
      have hnx := fun ty => Lib.run_next_any_at (P := Tryz.prog) wr w.heap.size (st t) p ty hit (by rw [st_size]; exact hp)
      have hlex := Lib.hid (fun (W : World) (hW : Gr w W) => (⟨by have := HT.out; omega, hp, HS.out.later hW⟩ : (t.length : Int) ≤ 4294967280 ∧ p < t.length ∧ Sy0 W es ed))
      have hasc : ∀ c, t[p]? = some c → c.toNat < 128 → (Utf8.decode (st t) p).2 = 1 := fun c hc h => by rw [rune_ascii t p c hc h]
      obtain ⟨r, hr⟩ : ∃ r, (Utf8.decode (st t) p).1 = r := ⟨_, rfl⟩
      obtain ⟨wi, hwi⟩ : ∃ x, (Utf8.decode (st t) p).2 = x := ⟨_, rfl⟩
      obtain ⟨p1, hp1⟩ : ∃ x, p + wi = x := ⟨_, rfl⟩
      obtain ⟨W1, hW1⟩ : ∃ W1, W1 = wr.iterAt w.heap.size (st t) p1 := ⟨_, rfl⟩
      rw [hr, hwi, hp1, ← hW1] at hnx
      rw [hwi] at hw1 hw2 HB hasc
      have hit1 : W1.heap[w.heap.size]? = some (.stringIter (st t) p1) := by rw [hW1]; exact Lib.iterAt_heap _ _ _ _ _ hit
      have hown1 : W1.ownsRow (w.heap.size + 1) 38 9 u4 L.length (L.flatMap tokC) := by rw [hW1]; exact ownsRow_iterAt hown (Nat.lt_succ_self _) _ _
      have hg1 : Gr w W1 := by rw [hW1]; exact Lib.below_iterAt hg (Nat.le_refl _) _ _
      have HI := Lib.hid hit
      have HP1 := Lib.hid (show p + wi = p1 ∧ 1 ≤ wi ∧ p1 ≤ t.length from ⟨hp1, hw1, by omega⟩)
      have HPN := Lib.hid hpn
      have HN := Lib.hid hn
      have HR := Lib.hid hr
      have HWI := Lib.hid hwi
      have HIT1 := Lib.hid hit1
      have HO1 := Lib.hid hown1
      have HLN := Lib.hid hLn
      have HASC := Lib.hid hasc
      clear hown hg hit hW1 hp1 hw1 hw2 hr hwi hit1 hown1 hLn hasc
      by_cases hlt : p < n
      · have HLT := Lib.hid hlt
        clear hpn hn hp
        go_wp2_with fail
        go_roundw
        case rel => exact ⟨p1, n, L, rfl, by rw [← HP1.out.1]; rw [← HWI.out]; exact (by rw [HWI.out]; exact HB.out HLT.out), HN.out, Lib.hid (fun _ => hbd.out HLT.out), HLN.out, hX, HIT1.out, HO1.out, hg1⟩
        case measure =>
          rw [iterPos_of HIT1.out, iterPos_of HI.out]
          have := HP1.out; have := HN.out; have := HLT.out; omega
      · obtain rfl : p = n := by omega
        clear hlt hpn
        have hne : t.drop p ≠ [] := fun h => by have := congrArg List.length h; rw [List.length_drop] at this; simp at this; omega
        cases ho : oneP (t.drop p) with
        | skip k =>
          obtain ⟨hb1, hk1, hk2⟩ := bd_skip ho rfl hp
          have hX2 : Hid (X = (L ++ (lexF (t.drop (p + k)) (p + k)).1, (lexF (t.drop (p + k)) (p + k)).2)) := by unfold Hid; rw [hX.out, lexF_skip p ho hne (List.drop_drop ..)]
          have hC : ∀ W, Gr w W → _ := fun W hW => lexeme_skip t p k W (hlex.out W hW).1 hp es ed (hlex.out W hW).2.2 ho
          rw [HR.out] at hC
          have hle : p1 ≤ p + k := by rw [← HP1.out.1, ← HWI.out]; exact rune_bd t p (p + k) hp (by omega) hb1
          obtain ⟨n2, hn2⟩ : ∃ x, p + k = x := ⟨_, rfl⟩
          rw [hn2] at hC hb1 hk2 hX2 hle
          have HC := Lib.hid hC
          have HN2 := Lib.hid (show p1 ≤ n2 ∧ n2 ≤ t.length ∧ L.length ≤ n2 ∧ BdL t n2 from ⟨hle, hk2, by have := HLN.out; omega, hb1⟩)
          have HPP := Lib.hid hp
          clear hb1 hk1 hk2 hX hC hle hn2 hp ho hne hn
          go_wp2_with (go_at_call 11; (with_reducible refine (HC.out _ hg1).mono ?_); rintro e w2 ⟨rfl, hb⟩)
          go_roundw
          case rel => exact ⟨p1, n2, L, rfl, HN2.out.1, HN2.out.2.1, Lib.hid (fun _ => HN2.out.2.2.2), HN2.out.2.2.1, hX2, it_later (hb.trans (Gr.alloc _ _)) HIT1.out, owns_later HO1.out (hb.trans (Gr.alloc _ _)), (hg1.trans hb).trans (Gr.alloc _ _)⟩
          case measure =>
            rw [iterPos_of (it_later (hb.trans (Gr.alloc _ _)) HIT1.out), iterPos_of HI.out]
            have := HP1.out; have := HPP.out; omega
        | tok kd k tx m s =>
          obtain ⟨hb1, hk1, hk2⟩ := bd_tok ho rfl hn
          have hX2 : Hid (X = ((L ++ [⟨kd, p, p + k, tx, m, s⟩]) ++ (lexF (t.drop (p + k)) (p + k)).1, (lexF (t.drop (p + k)) (p + k)).2)) := by unfold Hid; rw [hX.out, lexF_tok p ho (List.drop_drop ..), List.append_assoc]; rfl
          have hC : ∀ W, Gr w W → _ := fun W hW => lexeme_tok t tx p kd k m s W (hlex.out W hW).1 hp es ed (hlex.out W hW).2.2 ho
          rw [HR.out] at hC
          have hle : p1 ≤ p + k := by rw [← HP1.out.1, ← HWI.out]; exact rune_bd t p (p + k) hp (by omega) hb1
          have hkd := oneP_tok_pos ho
          have hkd0 : ((kd : Int) == 0) = false := by rw [beq_eq_false_iff_ne]; omega
          have hkd1 : ((kd : Int) != 0) = true := by rw [bne_iff_ne]; omega
          obtain ⟨n2, hn2⟩ : ∃ x, p + k = x := ⟨_, rfl⟩
          rw [hn2] at hC hb1 hk2 hX2 hle
          have HC := Lib.hid hC
          have HN2 := Lib.hid (show p1 ≤ n2 ∧ n2 ≤ t.length ∧ L.length + 1 ≤ n2 ∧ BdL t n2 from ⟨hle, hk2, by have := HLN.out; omega, hb1⟩)
          have HPP := Lib.hid hp
          clear hb1 hk1 hk2 hX hC hle hn2 hp ho hne hn hkd
          go_wp2_with first
            | (go_at_call 11; (with_reducible refine (HC.out _ hg1).mono ?_); rintro e w2 ⟨rfl, hb⟩)
            | (at_builtin; refine wpList_append_own _ rfl (.tmp 39) (.tmp 41) 23 rfl (w.heap.size + 1) 38 i0 (.agg #[.int .i64 0, .int .i64 0, .int .i64 0, .string { data := #[] }, .int .i64 0, .int .u64 0, .int .u64 0, .int .u64 0, .int .u64 0]) 9 80 Tryz.underlying23 hi hz0 hz1 hz2 rfl (by decide) _ _ _ rfl (((owns_later HO1.out hb).alloc _).alloc _) ⟨w2.heap.size + 1, 0, none⟩ 1 1 (lxC kd p n2 (st tx) m s) rfl rfl ?c1 ?c2 ?c3 ?c4 ?c5 ?_)
          case c1 => exact new_cells' _ _ _ _ (by simp)
          case c2 => exact lxC_one _ _ _ _ _ _
          case c3 => have := HN2.out; have := HT.out; unfold maxLen; omega
          case c4 => have := HN2.out; have := HT.out; omega
          case c5 => have := (hg1.trans hb).size; simp; omega
          intro v3 W3 hown3 hgrow _
          obtain ⟨WA, hgrow', hgA⟩ : ∃ WA, World.grownBy WA W3 _ ∧ Gr W1 WA := ⟨_, hgrow, (hb.trans (Gr.alloc w2 _)).trans (Gr.alloc _ _)⟩
          have hit3 : W3.heap[w.heap.size]? = some (.stringIter (st t) p1) := by
            rw [hgrow'.block w.heap.size (by have := (hg1.trans hgA).size; have := (Array.getElem?_eq_some_iff.1 (it_later hgA HIT1.out)).1; exact this) (fun e => by have := (World.ownsRow.lt HO1.out _ e.symm).1; omega)]
            exact it_later hgA HIT1.out
          have hg3 : Gr w W3 := Gr.grown (hg1.trans hgA) hgrow' (fun g hgb => by have := (World.ownsRow.lt HO1.out g hgb).1; omega)
          have hown3' : W3.ownsRow (w.heap.size + 1) 38 9 v3 (L ++ [(⟨kd, p, n2, tx, m, s⟩ : Tok)]).length ((L ++ [(⟨kd, p, n2, tx, m, s⟩ : Tok)]).flatMap tokC) := by
            rw [List.length_append, List.flatMap_append, List.flatMap_singleton]; exact hown3
          have HIT3 := Lib.hid hit3
          clear hown3 hgrow hgrow' hgA hit3
          go_wp2_with fail
          go_roundw
          case rel => exact ⟨p1, n2, L ++ [⟨kd, p, n2, tx, m, s⟩], rfl, HN2.out.1, HN2.out.2.1, Lib.hid (fun _ => HN2.out.2.2.2), by rw [List.length_append]; exact HN2.out.2.2.1, hX2, HIT3.out, hown3', hg3⟩
          case measure =>
            rw [iterPos_of HIT3.out, iterPos_of HI.out]
            have := HP1.out; have := HPP.out; omega
        | bad d k =>
          have hX2 : Hid (X = (L, some (d, p + k))) := by unfold Hid; rw [hX.out, lexF_bad p ho, List.append_nil]
          have hC : ∀ W, Gr w W → _ := fun W hW => lexeme_bad t p k d W (hlex.out W hW).1 hp es ed (hlex.out W hW).2.2 ho
          rw [HR.out] at hC
          have HC := Lib.hid hC
          clear hX hC hp ho hne hn
          go_wp2_with (go_at_call 11; (with_reducible refine (HC.out _ hg1).mono ?_); rintro e w2 ⟨hb, kd, f, tx, ty, y, rfl, hr⟩)
          go_ret2
          refine ⟨(hg1.trans hb).trans (Gr.alloc _ _), u4, ?_, ?_⟩
          · rw [hX2.out]; exact owns_mono (owns_later (owns_later HO1.out hb) (Gr.alloc _ _)) (Nat.le_succ _)
          · rw [hX2.out]
            exact ⟨_, rfl, (refused_later hr (Gr.alloc _ _)).mono (hg1.size)⟩
    · obtain rfl : p = t.length := by omega
      obtain rfl : n = t.length := by omega
      have hnx := fun ty => Lib.run_next_end_at (P := Tryz.prog) wr w.heap.size (st t) t.length ty hit (by rw [st_size]; omega)
      have HX2 : Hid (X = (L, none)) := Lib.hid (by rw [hX.out, List.drop_length, lexF_nil, List.append_nil])
      have HO1 := Lib.hid hown
      clear hX hbd hpn hn hp hit hown
      go_wp2_with fail
      go_ret2
      refine ⟨hg, u4, ?_, ?_⟩
      · rw [HX2.out]; exact owns_mono HO1.out (Nat.le_succ _)
      · rw [HX2.out]; rfl

end Go.Proofs.YtdjankfcmoblhaaGreatDoor

/- bolterlaw4: wakes, passed. No condition but the errors' variables. -/
namespace Go.Proofs.YtdjankfcmoblhaaGreatDoor
open Go Go.RowKit

def wakeT : List UInt8 := [97, 32, 61, 32, 49, 50, 32, 35, 32, 120]
theorem wakeT_st : st wakeT = { data := #[97, 32, 61, 32, 49, 50, 32, 35, 32, 120] } := rfl
theorem wakeT_lex : lexF wakeT 0 = ([⟨1, 0, 1, [97], 0, emptyS⟩, ⟨5, 2, 3, [61], 0, emptyS⟩, ⟨2, 4, 6, [], 12, emptyS⟩], none) := by rfl
set_option maxRecDepth 100000 in
set_option maxHeartbeats 2000000 in
theorem wakes4_any (es ed : Value) (w : World) (hS : Sy0 w es ed) : Calls Tryz.prog 8 #[] w fun e w' => e = .returned (.bool true) ∧ Gr w w' := by
  have h := lex_any wakeT es ed w (by decide) hS
  rw [wakeT_lex, wakeT_st] at h
  clear hS
  go_enter Tryz.func8, Tryz.ntmps8
  go_wp2_with fail
  go_at_call 5
  refine h.mono ?_
  rintro e w1 ⟨hg, v, hown, rfl⟩
  clear h
  obtain ⟨b, cap, rfl, _, _, _⟩ := owns_block hown (by simp)
  have c3 := owns_cell hown 3 _ rfl
  have c9 := owns_cell hown 9 _ rfl
  have c22 := owns_cell hown 22 _ rfl
  have c20 := owns_cell hown 20 _ rfl
  clear hown
  simp only [List.length_cons, List.length_nil] at *
  have e97 := st_list [97]
  go_wp2_with fail
  go_ret
  exact ⟨rfl, hg⟩

theorem passed_hash {l : List UInt8} : passedP (35 :: l) = l.all notLF := by rw [passedP_cons, if_pos rfl]
theorem passed_other {c : UInt8} (l : List UInt8) (h : c ≠ 35) : passedP (c :: l) = (blankC c && passedP l) := by rw [passedP_cons, if_neg h]
theorem blank_eq (c : UInt8) : blankC c = (decide (c.toNat = 32) || decide (c.toNat = 9) || decide (c.toNat = 13)) := by
  have := all8 (fun c => blankC c == (decide (c.toNat = 32) || decide (c.toNat = 9) || decide (c.toNat = 13))) (by decide +kernel) c
  exact eq_of_beq this
theorem notLF_eq (c : UInt8) : notLF c = !decide (c.toNat = 10) := by
  have := all8 (fun c => notLF c == !decide (c.toNat = 10)) (by decide +kernel) c
  exact eq_of_beq this
end Go.Proofs.YtdjankfcmoblhaaGreatDoor

/- lex: what all laws use: lexemes in a row, refusals, sets that are compared within lexemes. No condition. -/
namespace Go.Proofs.YtdjankfcmoblhaaGreatDoor
open Go Go.RowKit

theorem lexF_len (l : List UInt8) (a : Nat) : (lexF l a).1.length ≤ l.length := by
  refine lex_cases (M := fun l _ L _ => L.length ≤ l.length) ?_ ?_ ?_ ?_ ?_ l a
  · intro a; simp
  · intro c y a L e _ _ h; rw [List.length_cons]; omega
  · intro p y a L e _ _ _ h; simp; omega
  · intro p y kd tx n s a L e hP _ _ h; have := hP.pos; simp; omega
  · intro l a d k _; simp
/-- Lexemes in a row. -/
theorem lex_row {w : World} {B : Nat} {v : Value} {L : List Tok} (h : w.ownsRow B 38 9 v L.length (L.flatMap tokC)) :
    ∃ p cap, v = .slice p L.length cap ∧ ∀ i x, L[i]? = some x → ∃ b, p = some ⟨b, 0, none⟩ ∧ b < w.heap.size ∧ ∀ j u, (tokC x)[j]? = some u → w.cell? ⟨b, i * 9 + j, none⟩ = some u := by
  rcases Nat.eq_zero_or_pos L.length with h0 | h0
  · obtain ⟨p, cap, rfl⟩ := (Sl.of_owns h).len
    exact ⟨p, cap, rfl, fun i x hx => by rw [List.eq_nil_of_length_eq_zero h0] at hx; cases hx⟩
  · obtain ⟨g, cap, rfl, _, hg, _⟩ := owns_block h h0
    refine ⟨_, cap, rfl, fun i x hx => ⟨g, rfl, hg, fun j u hj => ?_⟩⟩
    have hj9 : j < 9 := by
      rcases Nat.lt_or_ge j 9 with h | h
      · exact h
      · rw [List.getElem?_eq_none (by rw [tokC_len]; exact h)] at hj; cases hj
    exact owns_cell h _ _ (by rw [flatMap_get tokC 9 tokC_len L i j x hx hj9]; exact hj)
theorem name_loop {P : Program} {c : Code} {Q : Exit → Act → World → Prop} {a : Act} {w0 : World} (h : ∀ W, W = w0 → c.wp P Q a W) : c.wp P Q a w0 := h _ rfl
@[go_sem] theorem eqSet9 (s t : BitVec 256) (w : World) : (Op.equalIn 9999 36 (.agg #[.int .u64 (wd s 0), .int .u64 (wd s 1), .int .u64 (wd s 2), .int .u64 (wd s 3)]) (.agg #[.int .u64 (wd t 0), .int .u64 (wd t 1), .int .u64 (wd t 2), .int .u64 (wd t 3)])).run Tryz.prog w = .ok (s == t) w := by
  rw [← wd_beq]; exact eqSet_d 9997 _ _ _ _ _ _ _ _ w
@[go_sem] theorem eqSet9_zero (s : BitVec 256) (w : World) : (Op.equalIn 9999 36 (.agg #[.int .u64 (wd s 0), .int .u64 (wd s 1), .int .u64 (wd s 2), .int .u64 (wd s 3)]) (.agg #[.int .u64 0, .int .u64 0, .int .u64 0, .int .u64 0])).run Tryz.prog w = .ok (s == emptyS) w := by
  rw [← wd_beq, wd_zero, wd_zero, wd_zero, wd_zero]; exact eqSet_d 9997 _ _ _ _ _ _ _ _ w
@[go_sem] theorem eqSet9_00 (w : World) : (Op.equalIn 9999 36 (.agg #[.int .u64 0, .int .u64 0, .int .u64 0, .int .u64 0]) (.agg #[.int .u64 0, .int .u64 0, .int .u64 0, .int .u64 0])).run Tryz.prog w = .ok true w := eqSet_d 9997 0 0 0 0 0 0 0 0 w
theorem sl_lex {w : World} {b off cap : Nat} {L : List Tok} (h : Sl w (.slice (some ⟨b, off, none⟩) L.length cap) 9 L.length (L.flatMap tokC)) (h0 : L ≠ []) : b < w.heap.size ∧ ∀ i x, L[i]? = some x → ∀ j u, (tokC x)[j]? = some u → w.cell? ⟨b, off + i * 9 + j, none⟩ = some u := by
  obtain ⟨_, _, ⟨_, hn⟩ | ⟨b', off', cap', hv, hb, hc⟩⟩ := h
  · exact absurd (List.eq_nil_of_length_eq_zero hn) h0
  · injection hv with h1 _ _
    simp only [Option.some.injEq, Addr.mk.injEq, and_true] at h1
    obtain ⟨rfl, rfl⟩ := h1
    refine ⟨hb (fun h => h0 (List.eq_nil_of_length_eq_zero h)), fun i x hx j u hj => ?_⟩
    have hj9 : j < 9 := by
      rcases Nat.lt_or_ge j 9 with h | h
      · exact h
      · rw [List.getElem?_eq_none (by rw [tokC_len]; exact h)] at hj; cases hj
    rw [Nat.add_assoc]
    exact hc _ _ (by rw [flatMap_get tokC 9 tokC_len L i j x hx hj9]; exact hj)
theorem sl_head {w : World} {b off cap n : Nat} {L : List Tok} (h : Sl w (.slice (some ⟨b, off, none⟩) L.length cap) 9 L.length (L.flatMap tokC)) (hn : n ≤ L.length) :
    Sl w (.slice (some ⟨b, off, none⟩) n cap) 9 (L.take n).length ((L.take n).flatMap tokC) := by
  rw [List.length_take, Nat.min_eq_left hn]
  refine ⟨?_, Nat.le_trans hn h.2.1, ?_⟩
  · rw [flatMap_len tokC 9 tokC_len, List.length_take, Nat.min_eq_left hn]
  · rcases Nat.eq_zero_or_pos n with rfl | h0
    · exact .inl ⟨⟨_, _, rfl⟩, rfl⟩
    · have hne : L ≠ [] := fun e => by rw [e] at hn; simp at hn; omega
      obtain ⟨hb, hc⟩ := sl_lex h hne
      refine .inr ⟨b, off, cap, rfl, fun _ => hb, fun j u hj => ?_⟩
      have hlt : j < ((L.take n).flatMap tokC).length := (List.getElem?_eq_some_iff.1 hj).1
      rw [flatMap_len tokC 9 tokC_len, List.length_take, Nat.min_eq_left hn] at hlt
      have hq : j / 9 < n := by omega
      have hx : (L.take n)[j / 9]? = some (L[j / 9]'(by omega)) := by rw [List.getElem?_take, if_pos hq, List.getElem?_eq_getElem (by omega)]
      have hm : j % 9 < 9 := by omega
      have hj2 : ((L.take n).flatMap tokC)[(j / 9) * 9 + j % 9]? = some u := by rw [show (j / 9) * 9 + j % 9 = j by omega]; exact hj
      rw [flatMap_get tokC 9 tokC_len (L.take n) (j / 9) (j % 9) _ hx hm] at hj2
      have := hc (j / 9) (L[j / 9]'(by omega)) (List.getElem?_eq_getElem (by omega)) (j % 9) u hj2
      rw [show off + j / 9 * 9 + j % 9 = off + j by omega] at this
      exact this
theorem run_upto {P : Program} (w : World) (t : TypeId) (l : List UInt8) (b : Nat) (ht : P.underlying t = some .string) (h2 : b ≤ l.length) :
    (Instr.slice t (.string (st l)) none (some (.int .i64 (b : Int))) none).run P w = .ok (.string (st (l.take b))) w := by
  rw [run_slice_string_to_if w t (st l) .i64 (b : Int) ht, if_pos (by rw [st_size]; omega), Int.toNat_natCast, st_extract]; rfl
theorem oneP_bad_le {l : List UInt8} {d : Bool} {k : Nat} (h : oneP l = .bad d k) : k ≤ l.length := by
  match l with
  | [] => cases h
  | c :: l =>
    rcases byte_cases c with hc | rfl | rfl | hc | hc | rfl | rfl | rfl | hc
    · rw [oneP_blank _ hc] at h; cases h
    · rw [oneP_cons, if_neg (by decide), if_pos rfl] at h; cases h
    · cases h
    · rw [oneP_let l hc] at h; split at h
      · injection h with _ h; omega
      · cases h
    · rw [oneP_dig l hc] at h; cases h
    · rw [oneP_text] at h; unfold textP at h; split at h
      · cases h
      · injection h with _ h; omega
    · rw [oneP_set] at h; unfold setP at h; split at h
      · cases h
      · injection h with _ h; omega
    · cases h
    · rw [oneP_mark l hc] at h; split at h
      · injection h with _ h; omega
      · cases h
theorem lexF_place (l : List UInt8) (a : Nat) : ∀ d k, (lexF l a).2 = some (d, k) → k ≤ a + l.length := by
  refine lex_cases (M := fun l a _ e => ∀ d k, e = some (d, k) → k ≤ a + l.length) ?_ ?_ ?_ ?_ ?_ l a
  · intro a d k h; cases h
  · intro c y a L e _ _ h d k he; have := h d k he; rw [List.length_cons]; omega
  · intro p y a L e _ _ _ h d k he; have := h d k he; simp; omega
  · intro p y kd tx n s a L e _ _ _ h d k he; have := h d k he; simp; omega
  · intro l a d k h d' k' he
    injection he with he; injection he with h1 h2
    have := oneP_bad_le h; omega

end Go.Proofs.YtdjankfcmoblhaaGreatDoor
