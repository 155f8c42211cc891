/- Lexemes, plain: what is read as one depends on what is taken alone; how a text falls into lexemes. Plain; no condition. -/
import Derived.Test.YtihjmeoklbmnmabDoorPUnquote
namespace Go.Proofs.YtihjmeoklbmnmabDoor
open Go

/-! ### What is read depends on what is taken -/

theorem pre_cons1 (a c : UInt8) (l : List UInt8) : pre [a] (c :: l) = (a == c) := by simp [pre, List.isPrefixOf]
theorem pre_cons2 (a b c d : UInt8) (l : List UInt8) : pre [a, b] (c :: d :: l) = (a == c && b == d) := by simp [pre, List.isPrefixOf]
theorem pre_hd {a : UInt8} {l : List UInt8} (h : pre [a] l = true) : ∃ r, l = a :: r := by
  match l with
  | [] => simp [pre] at h
  | c :: l => rw [pre_cons1] at h; exact ⟨l, by rw [eq_of_beq h]⟩
theorem pre_hd2 {a b : UInt8} {l : List UInt8} (h : pre [a, b] l = true) : ∃ r, l = a :: b :: r := by
  match l with
  | [] => simp [pre] at h
  | [c] => simp [pre, List.isPrefixOf] at h
  | c :: d :: l =>
    rw [pre_cons2, Bool.and_eq_true] at h
    exact ⟨l, by rw [eq_of_beq h.1, eq_of_beq h.2]⟩
theorem escP_app {l r : List UInt8} {v : UInt8} (h : escP l = some (v, r)) : ∃ c p, l = c :: (p ++ r) ∧ (10 : UInt8) ∉ c :: p ∧ ∀ y, escP (c :: (p ++ y)) = some (v, y) := by
  match l with
  | [] => simp [escP] at h
  | c :: l =>
    rw [escP_cons] at h
    split at h
    · rename_i v' hv
      injection h with h; injection h with h1 h2; subst h1; subst h2
      refine ⟨c, [], rfl, ?_, fun y => ?_⟩
      · intro h; simp only [List.mem_singleton] at h; subst h; rw [show letterL 10 = none by decide] at hv; cases hv
      · rw [escP_cons, List.nil_append, hv]
    · rename_i hv
      split at h
      · rename_i hc
        split at h
        · rename_i a b r'
          split at h
          · rename_i hn
            injection h with h; injection h with h1 h2; subst h1; subst h2
            refine ⟨c, [a, b], rfl, ?_, fun y => ?_⟩
            · intro h
              simp only [List.mem_cons, List.not_mem_nil, or_false] at h
              rcases h with h | h | h
              · subst h; revert hc; decide
              · subst h; have := hn.1; revert this; decide
              · subst h; have := hn.2; revert this; decide
            · rw [escP_cons, hv]; simp only [List.cons_append, List.nil_append]; rw [if_pos hc, if_pos hn]
          · cases h
        · cases h
      · rename_i hc
        split at h
        · cases h
        · rename_i hn
          injection h with h; injection h with h1 h2; subst h1; subst h2
          refine ⟨c, [], rfl, ?_, fun y => ?_⟩
          · intro h; simp only [List.mem_singleton] at h; subst h; exact hn (.inl (by decide))
          · rw [escP_cons, hv, List.nil_append]; simp only; rw [if_neg hc, if_neg hn]
theorem charP_app {l r : List UInt8} {v : UInt8} (h : charP l = some (v, r)) :
    ∃ c p, l = c :: (p ++ r) ∧ (10 : UInt8) ∉ c :: p ∧ c ≠ 91 ∧ c ≠ 93 ∧ c ≠ 45 ∧ ∀ y, charP (c :: (p ++ y)) = some (v, y) := by
  match l with
  | [] => simp [charP] at h
  | c :: l =>
    rw [charP_cons] at h
    split at h
    · cases h
    · rename_i hc
      simp only [not_or] at hc
      split at h
      · rename_i h92
        obtain ⟨d, p, rfl, h10, hy⟩ := escP_app h
        refine ⟨c, d :: p, by simp, ?_, hc.1, hc.2.1, hc.2.2.1, fun y => ?_⟩
        · intro h
          rcases List.mem_cons.1 h with h | h
          · exact hc.2.2.2 h.symm
          · exact h10 h
        · rw [charP_cons, if_neg (by simp [hc]), if_pos h92]; exact hy y
      · rename_i h92
        injection h with h; injection h with h1 h2; subst h1; subst h2
        refine ⟨c, [], rfl, ?_, hc.1, hc.2.1, hc.2.2.1, fun y => ?_⟩
        · intro h; simp only [List.mem_singleton] at h; exact hc.2.2.2 h.symm
        · rw [charP_cons, if_neg (by simp [hc]), if_neg h92, List.nil_append]
theorem quotedF_app : ∀ (n : Nat) (l acc s r : List UInt8), l.length ≤ n → quotedF l acc = .ok s r → ∃ p, l = p ++ 34 :: r ∧ (10 : UInt8) ∉ p ∧ ∀ y, quotedF (p ++ 34 :: y) acc = .ok s y
  | n, [], acc, s, r, _, h => by rw [quotedF_nil] at h; cases h
  | 0, c :: l, acc, s, r, hn, h => by simp at hn
  | n + 1, c :: l, acc, s, r, hn, h => by
    simp only [List.length_cons] at hn
    by_cases h1 : c = 10
    · subst h1; rw [quotedF_lf] at h; cases h
    by_cases h2 : c = 34
    · subst h2; rw [quotedF_end] at h; injection h with h3 h4; subst h3; subst h4
      exact ⟨[], rfl, by simp, fun y => quotedF_end _ _⟩
    by_cases h3 : c = 92
    · subst h3
      cases he : escP l with
      | none => rw [quotedF_bad _ _ he] at h; cases h
      | some x =>
        obtain ⟨v, q⟩ := x
        rw [quotedF_esc _ _ _ _ he] at h
        obtain ⟨d, p, rfl, h10, hy⟩ := escP_app he
        obtain ⟨p2, rfl, h11, hz⟩ := quotedF_app n q _ _ _ (by simp at hn; omega) h
        refine ⟨92 :: d :: (p ++ p2), by simp, ?_, fun y => ?_⟩
        · intro hm
          rw [List.mem_cons, ← List.cons_append, List.mem_append] at hm
          rcases hm with hm | hm | hm
          · revert hm; decide
          · exact h10 hm
          · exact h11 hm
        · have := hy (p2 ++ 34 :: y)
          rw [show (92 :: d :: (p ++ p2)) ++ 34 :: y = 92 :: (d :: (p ++ (p2 ++ 34 :: y))) by simp, quotedF_esc _ _ _ _ this]
          exact hz y
    · rw [quotedF_byte _ _ _ h1 h2 h3] at h
      obtain ⟨p, rfl, h10, hy⟩ := quotedF_app n l _ _ _ (by omega) h
      refine ⟨c :: p, rfl, ?_, fun y => ?_⟩
      · intro hm
        rcases List.mem_cons.1 hm with hm | hm
        · exact h1 hm.symm
        · exact h10 hm
      · rw [List.cons_append, quotedF_byte _ _ _ h1 h2 h3]; exact hy y
theorem cutAt_app : ∀ (l b : List UInt8), cutAt l = some b → ∃ r, l = b ++ 58 :: 93 :: r ∧ ∀ y, cutAt (b ++ 58 :: 93 :: y) = some b
  | [], b, h => by simp [cutAt] at h
  | c :: l, b, h => by
    rw [cutAt_cons] at h
    split at h
    · rename_i hp
      injection h with h; subst h
      obtain ⟨r, hr⟩ := pre_hd2 hp
      refine ⟨r, by rw [hr]; rfl, fun y => ?_⟩
      rw [List.nil_append, cutAt_cons, if_pos (by rw [pre_cons2]; rfl)]
    · rename_i hp
      cases hc : cutAt l with
      | none => rw [hc] at h; cases h
      | some b' =>
        rw [hc] at h; injection h with h; subst h
        obtain ⟨r, rfl, hy⟩ := cutAt_app l b' hc
        refine ⟨r, rfl, fun y => ?_⟩
        rw [List.cons_append, cutAt_cons, if_neg, hy y]; · rfl
        intro hq
        apply hp
        cases b' with
        | nil => rw [List.nil_append, pre_cons2] at hq ⊢; exact hq
        | cons d b' => rw [List.cons_append, pre_cons2] at hq ⊢; exact hq
theorem namedS_lf {b : List UInt8} {s : BitVec 256} (h : namedS b = some s) : (10 : UInt8) ∉ b := by
  intro hm
  unfold namedS at h
  have k : ∀ {c : List UInt8} {P : Prop}, (10 : UInt8) ∉ c → b = c → P := fun hc e => by rw [e] at hm; exact absurd hm hc
  rw [if_neg (fun e => k (by decide) e), if_neg (fun e => k (by decide) e), if_neg (fun e => k (by decide) e), if_neg (fun e => k (by decide) e), if_neg (fun e => k (by decide) e), if_neg (fun e => k (by decide) e), if_neg (fun e => k (by decide) e), if_neg (fun e => k (by decide) e), if_neg (fun e => k (by decide) e), if_neg (fun e => k (by decide) e), if_neg (fun e => k (by decide) e), if_neg (fun e => k (by decide) e), if_neg (fun e => k (by decide) e)] at h
  cases h
/-- Texts that a class's reader does not tell from one another at their beginning. -/
structure Like (r y : List UInt8) : Prop where
  one : ∀ a, pre [a] r = pre [a] y
  two : ∀ a b, a ≠ 93 → pre [a, b] r = pre [a, b] y
theorem Like.ends (r y : List UInt8) : Like (93 :: r) (93 :: y) where
  one a := by rw [pre_cons1, pre_cons1]
  two a b h := by rw [pre_no (Ne.symm h), pre_no (Ne.symm h)]
theorem Like.cons (c : UInt8) {r y : List UInt8} (h : Like r y) : Like (c :: r) (c :: y) where
  one a := by rw [pre_cons1, pre_cons1]
  two a b _ := by
    have := h.one b
    simp only [pre, List.isPrefixOf] at this ⊢
    rw [this]
theorem Like.app : ∀ (p : List UInt8) {r y : List UInt8}, Like r y → Like (p ++ r) (p ++ y)
  | [], _, _, h => h
  | c :: p, _, _, h => (Like.app p h).cons c
theorem Like.stopsE {r y : List UInt8} (h : Like r y) : stops r = stops y := by
  unfold stops; rw [h.two 45 45 (by decide), h.two 38 38 (by decide), h.one 93]
theorem itemP_app {l r : List UInt8} {x : BitVec 256} (h : itemP l = .ok x r) : ∃ c p, l = c :: (p ++ r) ∧ (10 : UInt8) ∉ c :: p ∧ ∀ y, Like r y → itemP (c :: (p ++ y)) = .ok x y := by
  unfold itemP at h
  split at h
  · rename_i hp
    obtain ⟨l', rfl⟩ := pre_hd2 hp
    unfold nameP at h
    rw [show List.drop 2 (91 :: 58 :: l') = l' from rfl] at h
    split at h
    · cases h
    · rename_i b hb
      split at h
      · cases h
      · rename_i s hs
        injection h with h1 h2; subst h1
        obtain ⟨q, rfl, hq⟩ := cutAt_app l' b hb
        have e : ∀ y : List UInt8, List.drop (b.length + 4) (91 :: 58 :: (b ++ 58 :: 93 :: y)) = y := fun y => by
          rw [show b.length + 4 = b.length + 2 + 1 + 1 by omega, List.drop_succ_cons, List.drop_succ_cons, List.drop_append, List.drop_of_length_le (by omega)]; simp
        rw [e] at h2; subst h2
        refine ⟨91, 58 :: (b ++ [58, 93]), by simp, ?_, fun y _ => ?_⟩
        · intro hm
          simp only [List.mem_cons, List.mem_append, List.not_mem_nil, or_false] at hm
          rcases hm with hm | hm | hm | hm | hm
          · revert hm; decide
          · revert hm; decide
          · exact namedS_lf hs hm
          · revert hm; decide
          · revert hm; decide
        · rw [show 91 :: (58 :: (b ++ [58, 93]) ++ y) = 91 :: 58 :: (b ++ 58 :: 93 :: y) by simp]
          unfold itemP
          rw [if_pos (by rw [pre_cons2]; rfl)]
          unfold nameP
          rw [show List.drop 2 (91 :: 58 :: (b ++ 58 :: 93 :: y)) = b ++ 58 :: 93 :: y from rfl, hq y]
          simp only
          rw [hs]
          simp only
          rw [e]
  · rename_i hp
    split at h
    · cases h
    · rename_i lo r1 hc
      obtain ⟨c, p, rfl, h10, hc91, _, _, hy⟩ := charP_app hc
      split at h
      · rename_i hm
        simp only [Bool.and_eq_true, Bool.not_eq_true'] at hm
        obtain ⟨r2, rfl⟩ := pre_hd hm.1
        rw [show List.drop 1 (45 :: r2) = r2 from rfl] at h
        split at h
        · cases h
        · rename_i hi q hq
          obtain ⟨c2, p2, rfl, h11, _, _, h45, hz⟩ := charP_app hq
          split at h
          · cases h
          · rename_i hlt
            injection h with h1 h2; subst h1; subst h2
            refine ⟨c, p ++ 45 :: c2 :: p2, by simp, ?_, fun y _ => ?_⟩
            · intro hm
              rw [← List.cons_append, List.mem_append] at hm
              rcases hm with hm | hm
              · exact h10 hm
              · rcases List.mem_cons.1 hm with hm | hm
                · exact absurd hm (by decide)
                · exact h11 hm
            · rw [show c :: (p ++ 45 :: c2 :: p2 ++ y) = c :: (p ++ (45 :: c2 :: (p2 ++ y))) by simp]
              unfold itemP
              rw [pre_no hc91, if_neg (by decide), hy]
              simp only
              rw [if_pos (by rw [pre_cons1, pre_cons2]; simp [Ne.symm h45])]
              rw [show List.drop 1 (45 :: c2 :: (p2 ++ y)) = c2 :: (p2 ++ y) from rfl, hz]
              simp only
              rw [if_neg hlt]
      · rename_i hm
        injection h with h1 h2; subst h1; subst h2
        refine ⟨c, p, rfl, h10, fun y hL => ?_⟩
        unfold itemP
        rw [pre_no hc91, if_neg (by decide), hy]
        simp only
        rw [if_neg (by rw [← hL.one, ← hL.two 45 45 (by decide)]; exact hm)]
theorem itemsF_app : ∀ (n : Nat) (l r : List UInt8) (s x : BitVec 256), l.length ≤ n → itemsF l s = .ok x r → ∃ p, l = p ++ r ∧ (10 : UInt8) ∉ p ∧ ∀ y, Like r y → itemsF (p ++ y) s = .ok x y
  | n, l, r, s, x, hn, h => by
    cases hs : stops l with
    | true =>
      rw [itemsF_stop s hs] at h; injection h with h1 h2; subst h1; subst h2
      exact ⟨[], rfl, by simp, fun y hL => itemsF_stop s (by rw [List.nil_append, ← hL.stopsE]; exact hs)⟩
    | false =>
      cases hi : itemP l with
      | bad d q => rw [itemsF_bad s hs hi] at h; cases h
      | ok z q =>
        rw [itemsF_go s hs hi] at h
        obtain ⟨c, p, rfl, h10, hy⟩ := itemP_app hi
        match n, hn with
        | n + 1, hn =>
          obtain ⟨p2, rfl, h11, hz⟩ := itemsF_app n q r _ x (by simp at hn; omega) h
          refine ⟨c :: (p ++ p2), by simp, ?_, fun y hL => ?_⟩
          · intro hm
            rw [← List.cons_append, List.mem_append] at hm
            rcases hm with hm | hm
            · exact h10 hm
            · exact h11 hm
          · have hL2 := hL.app p2
            rw [show c :: (p ++ p2) ++ y = c :: (p ++ (p2 ++ y)) by simp, itemsF_go s ?_ (hy _ hL2)]
            · exact hz y hL
            · rw [← hs]; exact ((hL2.app p).cons c).stopsE.symm
theorem headP_is (l : List UInt8) : headP l = match itemsF (if pre [94] l then l.drop 1 else l) emptyS with
    | .bad d r => .bad d r
    | .ok s r => .ok (if pre [94] l then ~~~s else s) r := by
  unfold headP itemsF
  rw [itemsP_fuel (l.length + 1) ((if pre [94] l then l.drop 1 else l).length + 1) _ _ (by split <;> simp <;> omega) (by omega)]
  all_goals rfl
theorem headP_app {l r : List UInt8} {x : BitVec 256} (h : headP l = .ok x r) : ∃ p, l = p ++ r ∧ (10 : UInt8) ∉ p ∧ ∀ y, Like r y → headP (p ++ y) = .ok x y := by
  rw [headP_is] at h
  cases hp : pre [94] l with
  | true =>
    obtain ⟨l', rfl⟩ := pre_hd hp
    rw [hp] at h
    simp only [if_true, List.drop_succ_cons, List.drop_zero] at h
    split at h
    · cases h
    · rename_i s q hi
      injection h with h1 h2; subst h1; subst h2
      obtain ⟨p, rfl, h10, hy⟩ := itemsF_app _ _ _ _ _ (Nat.le_refl _) hi
      refine ⟨94 :: p, rfl, ?_, fun y hL => ?_⟩
      · intro hm
        rcases List.mem_cons.1 hm with hm | hm
        · revert hm; decide
        · exact h10 hm
      · rw [headP_is, show pre [94] (94 :: p ++ y) = true from by rw [List.cons_append, pre_cons1]; rfl]
        simp only [if_true, List.cons_append, List.drop_succ_cons, List.drop_zero]
        rw [hy y hL]
  | false =>
    rw [hp] at h
    simp only [Bool.false_eq_true, if_false] at h
    split at h
    · cases h
    · rename_i s q hi
      injection h with h1 h2; subst h1; subst h2
      obtain ⟨p, rfl, h10, hy⟩ := itemsF_app _ _ _ _ _ (Nat.le_refl _) hi
      refine ⟨p, rfl, h10, fun y hL => ?_⟩
      rw [headP_is, show pre [94] (p ++ y) = false from by rw [← hp]; exact ((hL.app p).one 94).symm]
      simp only [Bool.false_eq_true, if_false]
      rw [hy y hL]
theorem class_app_of {o : Nat} {l r : List UInt8} {x : BitVec 256}
    (ht : ∀ (q : List UInt8) (s : BitVec 256), q.length < l.length → tailsF o q s = .ok x r → ∃ p, q = p ++ 93 :: r ∧ (10 : UInt8) ∉ p ∧ ∀ y, tailsF o (p ++ 93 :: y) s = .ok x y)
    (h : classF o l = .ok x r) : ∃ p, l = 91 :: (p ++ 93 :: r) ∧ (10 : UInt8) ∉ p ∧ ∀ y, classF o (91 :: (p ++ 93 :: y)) = .ok x y := by
  cases hp : pre [91] l with
  | false => rw [classF_none o l hp] at h; cases h
  | true =>
    by_cases ho : 40 ≤ o
    · rw [classF_deep o l hp ho] at h; cases h
    obtain ⟨l', rfl⟩ := pre_hd hp
    cases hh : headP (List.drop 1 (91 :: l')) with
    | bad d q => rw [classF_bad hp ho hh] at h; cases h
    | ok s q =>
      rw [classF_ok hp ho hh] at h
      obtain ⟨p, hl, h10, hy⟩ := headP_app hh
      rw [show List.drop 1 (91 :: l') = l' from rfl] at hl
      subst hl
      obtain ⟨p2, rfl, h11, hz⟩ := ht q s (by simp; omega) h
      refine ⟨p ++ p2, by simp, ?_, fun y => ?_⟩
      · intro hm
        rcases List.mem_append.1 hm with hm | hm
        · exact h10 hm
        · exact h11 hm
      · rw [classF_ok (by rw [pre_cons1]; rfl) ho (s := s) (r := p2 ++ 93 :: y)]
        · exact hz y
        · rw [show List.drop 1 (91 :: (p ++ p2 ++ 93 :: y)) = p ++ (p2 ++ 93 :: y) by simp]
          exact hy _ ((Like.ends r y).app p2)
theorem tailsF_app : ∀ (n o : Nat) (l r : List UInt8) (s x : BitVec 256), l.length < n → tailsF o l s = .ok x r → ∃ p, l = p ++ 93 :: r ∧ (10 : UInt8) ∉ p ∧ ∀ y, tailsF o (p ++ 93 :: y) s = .ok x y
  | 0, _, _, _, _, _, h, _ => absurd h (Nat.not_lt_zero _)
  | n + 1, o, l, r, s, x, hn, h => by
    cases hp : pre [93] l with
    | true =>
      rw [tailsF_end hp] at h
      injection h with h1 h2; subst h1
      obtain ⟨q, rfl⟩ := pre_hd hp
      rw [show List.drop 1 (93 :: q) = q from rfl] at h2; subst h2
      exact ⟨[], rfl, by simp, fun y => tailsF_end (by rw [List.nil_append, pre_cons1]; rfl)⟩
    | false =>
      by_cases h1 : pre [45, 45] l = true ∨ pre [38, 38] l = true
      · obtain ⟨a, b, l', rfl, ha⟩ : ∃ a b l', l = a :: b :: l' ∧ a ≠ 93 ∧ (10 : UInt8) ∉ [a, b] := by
          rcases h1 with h1 | h1 <;> obtain ⟨l', e⟩ := pre_hd2 h1
          · exact ⟨45, 45, l', e, by decide, by decide⟩
          · exact ⟨38, 38, l', e, by decide, by decide⟩
        cases hc : classF (o + 1) (List.drop 2 (a :: b :: l')) with
        | bad d q => rw [tailsF_bad hp h1 hc] at h; cases h
        | ok z q =>
          rw [tailsF_go hp h1 hc] at h
          rw [show List.drop 2 (a :: b :: l') = l' from rfl] at hc
          simp only [List.length_cons] at hn
          obtain ⟨p, rfl, h10, hy⟩ := class_app_of (fun q s hq h => tailsF_app n (o + 1) q _ s _ (by omega) h) hc
          obtain ⟨p2, rfl, h11, hz⟩ := tailsF_app n o q r _ x (by simp at hn; omega) h
          refine ⟨a :: b :: 91 :: (p ++ 93 :: p2), by simp, ?_, fun y => ?_⟩
          · intro hm
            rw [show a :: b :: 91 :: (p ++ 93 :: p2) = [a, b] ++ (91 :: (p ++ 93 :: p2)) from rfl] at hm
            simp only [List.mem_append, List.mem_cons] at hm
            rcases hm with hm | hm | hm | hm | hm
            · exact ha.2 (by simpa using hm)
            · revert hm; decide
            · exact h10 hm
            · revert hm; decide
            · exact h11 hm
          · rw [show a :: b :: 91 :: (p ++ 93 :: p2) ++ 93 :: y = a :: b :: (91 :: (p ++ 93 :: (p2 ++ 93 :: y))) by simp]
            have e1 : pre [45, 45] (a :: b :: (91 :: (p ++ 93 :: (p2 ++ 93 :: y)))) = pre [45, 45] (a :: b :: (91 :: (p ++ 93 :: (p2 ++ 93 :: r)))) := by rw [pre_cons2, pre_cons2]
            have e2 : pre [38, 38] (a :: b :: (91 :: (p ++ 93 :: (p2 ++ 93 :: y)))) = pre [38, 38] (a :: b :: (91 :: (p ++ 93 :: (p2 ++ 93 :: r)))) := by rw [pre_cons2, pre_cons2]
            rw [tailsF_go (x := z) (r := p2 ++ 93 :: y) (pre_no ha.1) (by rw [e1, e2]; exact h1) (by rw [show List.drop 2 (a :: b :: (91 :: (p ++ 93 :: (p2 ++ 93 :: y)))) = 91 :: (p ++ 93 :: (p2 ++ 93 :: y)) from rfl]; exact hy _), e1]
            exact hz y
      · simp only [not_or, Bool.not_eq_true] at h1
        rw [tailsF_none hp h1.1 h1.2] at h; cases h
theorem classF_app {o : Nat} {l r : List UInt8} {x : BitVec 256} (h : classF o l = .ok x r) : ∃ p, l = 91 :: (p ++ 93 :: r) ∧ (10 : UInt8) ∉ p ∧ ∀ y, classF o (91 :: (p ++ 93 :: y)) = .ok x y :=
  class_app_of (fun q s hq h => tailsF_app (q.length + 1) o q _ s _ (by omega) h) h

/-! ### One lexeme -/

def digC (c : UInt8) : Bool := decide (48 ≤ c.toNat) && decide (c.toNat ≤ 57)
def letC (c : UInt8) : Bool := (decide (97 ≤ c.toNat) && decide (c.toNat ≤ 122)) || (decide (65 ≤ c.toNat) && decide (c.toNat ≤ 90)) || decide (c.toNat = 95)
def furC (c : UInt8) : Bool := digC c || letC c
def notLF (c : UInt8) : Bool := !(c == 10)
def blankC (c : UInt8) : Bool := c == 32 || c == 9 || c == 13
/-- A number, or the greatest. -/
def numP (l : List UInt8) : Nat := l.foldl (fun n c => min (10 * n + (c.toNat - 48)) 1073741824) 0
def marks1 : List UInt8 := [40, 41, 124, 42, 43, 63, 123, 125, 44, 47, 60, 62]
/-- How long a mark is; 0: it is none. -/
def markP : List UInt8 → Nat
  | [] => 0
  | c :: l => if c = 61 then (if pre [62] l then 2 else 1) else
    if c ∈ marks1 then 1 else 0
theorem markP_cons (c : UInt8) (l : List UInt8) : markP (c :: l) = if c = 61 then (if pre [62] l then 2 else 1) else if c ∈ marks1 then 1 else 0 := rfl
/-- What stands at a text's beginning. -/
inductive One where
  | skip (k : Nat)
  | tok (kd k : Nat) (tx : List UInt8) (n : Nat) (s : BitVec 256)
  | bad (deep : Bool) (k : Nat)
def textP (l : List UInt8) : One := match quotedF (l.drop 1) [] with
  | .ok s r => .tok 3 (l.length - r.length) s 0 emptyS
  | .bad r => .bad false (l.length - r.length)
def setP (l : List UInt8) : One := match classF 0 l with
  | .ok s r => .tok 4 (l.length - r.length) [] 0 s
  | .bad d r => .bad d (l.length - r.length)
def oneP : List UInt8 → One
  | [] => .skip 0
  | c :: l =>
    if blankC c = true then .skip 1
    else if c = 35 then .skip ((c :: l).takeWhile notLF).length
    else if c = 10 then .tok 6 1 [] 0 emptyS
    else if letC c = true then (if 32 < ((c :: l).takeWhile furC).length then .bad false 0 else .tok 1 ((c :: l).takeWhile furC).length ((c :: l).takeWhile furC) 0 emptyS)
    else if digC c = true then .tok 2 ((c :: l).takeWhile digC).length [] (numP ((c :: l).takeWhile digC)) emptyS
    else if c = 34 then textP (c :: l)
    else if c = 91 then setP (c :: l)
    else if c = 46 then .tok 4 1 [] 0 (~~~ofList [10])
    else if markP (c :: l) = 0 then .bad false 0 else .tok 5 (markP (c :: l)) ((c :: l).take (markP (c :: l))) 0 emptyS
theorem oneP_cons (c : UInt8) (l : List UInt8) : oneP (c :: l) = (if blankC c = true then .skip 1
    else if c = 35 then .skip ((c :: l).takeWhile notLF).length
    else if c = 10 then .tok 6 1 [] 0 emptyS
    else if letC c = true then (if 32 < ((c :: l).takeWhile furC).length then .bad false 0 else .tok 1 ((c :: l).takeWhile furC).length ((c :: l).takeWhile furC) 0 emptyS)
    else if digC c = true then .tok 2 ((c :: l).takeWhile digC).length [] (numP ((c :: l).takeWhile digC)) emptyS
    else if c = 34 then textP (c :: l)
    else if c = 91 then setP (c :: l)
    else if c = 46 then .tok 4 1 [] 0 (~~~ofList [10])
    else if markP (c :: l) = 0 then .bad false 0 else .tok 5 (markP (c :: l)) ((c :: l).take (markP (c :: l))) 0 emptyS) := rfl

/-- What a lexeme's own bytes are. -/
def Piece (kd : Nat) (p tx : List UInt8) (n : Nat) (s : BitVec 256) : Prop :=
  (kd = 1 ∧ tx = p ∧ n = 0 ∧ s = emptyS ∧ (∃ c q, p = c :: q ∧ letC c = true) ∧ (∀ c ∈ p, furC c = true) ∧ p.length ≤ 32) ∨
  (kd = 2 ∧ tx = [] ∧ n = numP p ∧ s = emptyS ∧ (∃ c q, p = c :: q ∧ digC c = true) ∧ ∀ c ∈ p, digC c = true) ∨
  (kd = 3 ∧ n = 0 ∧ s = emptyS ∧ ∃ q, p = 34 :: (q ++ [34]) ∧ (10 : UInt8) ∉ q ∧ ∀ y, quotedF (q ++ 34 :: y) [] = .ok tx y) ∨
  (kd = 4 ∧ tx = [] ∧ n = 0 ∧ ((p = [46] ∧ s = ~~~ofList [10]) ∨ ∃ q, p = 91 :: (q ++ [93]) ∧ (10 : UInt8) ∉ q ∧ ∀ y, classF 0 (91 :: (q ++ 93 :: y)) = .ok s y)) ∨
  (kd = 5 ∧ tx = p ∧ n = 0 ∧ s = emptyS ∧ (p = [61] ∨ p = [61, 62] ∨ ∃ c, c ∈ marks1 ∧ p = [c])) ∨
  (kd = 6 ∧ tx = [] ∧ n = 0 ∧ s = emptyS ∧ p = [10])
/-- What may stand behind a lexeme's bytes, where 'y' did. -/
def Nx (y z : List UInt8) : Prop := ∀ c q, z = c :: q → (c = 10 ∨ blankC c = true) ∨ ∃ q', y = c :: q'
theorem Nx.nil (y : List UInt8) : Nx y [] := fun c q h => by cases h
theorem Nx.same (c : UInt8) (q q' : List UInt8) : Nx (c :: q) (c :: q') := fun d r h => by injection h with h1 h2; subst h1; exact .inr ⟨_, rfl⟩
theorem Nx.blank (y : List UInt8) (c : UInt8) (q : List UInt8) (h : c = 10 ∨ blankC c = true) : Nx y (c :: q) := fun d r e => by injection e with h1 h2; subst h1; exact .inl h
theorem gap_fur {c : UInt8} (h : c = 10 ∨ blankC c = true) : furC c = false ∧ digC c = false ∧ c ≠ 62 ∧ c.toNat < 128 := by
  have : c = 10 ∨ c = 32 ∨ c = 9 ∨ c = 13 := by
    rcases h with h | h
    · exact .inl h
    · unfold blankC at h; simp only [Bool.or_eq_true, beq_iff_eq] at h; rcases h with (h | h) | h <;> simp [h]
  rcases this with rfl | rfl | rfl | rfl <;> decide
/-- The longest beginning of a kind: behind what may stand there it is the same. -/
theorem while_split (f : UInt8 → Bool) (l : List UInt8) : ∃ p y, l = p ++ y ∧ l.takeWhile f = p ∧ (∀ c ∈ p, f c = true) ∧ (∀ c q, y = c :: q → f c = false) ∧ ∀ z, (∀ c q, z = c :: q → f c = false) → (p ++ z).takeWhile f = p := by
  induction l with
  | nil => exact ⟨[], [], rfl, rfl, by simp, by simp, fun z hz => by
      cases z with
      | nil => rfl
      | cons c q => simp [hz c q rfl]⟩
  | cons c l ih =>
    cases hc : f c with
    | false => exact ⟨[], c :: l, rfl, by simp [List.takeWhile, hc], by simp, fun d q h => by injection h with h _; subst h; exact hc, fun z hz => by
        cases z with
        | nil => rfl
        | cons c q => simp [hz c q rfl]⟩
    | true =>
      obtain ⟨p, y, h1, h2, h3, h4, h5⟩ := ih
      refine ⟨c :: p, y, by rw [h1]; rfl, by simp [List.takeWhile, hc, h2], fun d hd => ?_, h4, fun z hz => ?_⟩
      · rcases List.mem_cons.1 hd with rfl | hd
        · exact hc
        · exact h3 d hd
      · rw [List.cons_append]; simp [List.takeWhile, hc, h5 z hz]
theorem while_head {f : UInt8 → Bool} {c : UInt8} {l p : List UInt8} (h : (c :: l).takeWhile f = p) (hc : f c = true) : ∃ q, p = c :: q := by
  rw [← h]; exact ⟨_, by simp only [List.takeWhile, hc]; rfl⟩
theorem let_fur {c : UInt8} (h : letC c = true) : furC c = true := by unfold furC; rw [h]; simp

theorem all8 (P : UInt8 → Bool) (h : ∀ n, n < 256 → P (UInt8.ofNat n) = true) (c : UInt8) : P c = true := by
  have := h c.toNat c.toNat_lt
  rwa [UInt8.ofNat_toNat] at this
set_option maxRecDepth 100000 in
theorem let_is {c : UInt8} (h : letC c = true) : blankC c = false ∧ c ≠ 35 ∧ c ≠ 10 ∧ c.toNat < 128 := by
  have := all8 (fun c => !letC c || (!blankC c && c != 35 && c != 10 && decide (c.toNat < 128))) (by decide) c
  simpa [h, and_assoc] using this
set_option maxRecDepth 100000 in
theorem dig_is {c : UInt8} (h : digC c = true) : blankC c = false ∧ c ≠ 35 ∧ c ≠ 10 ∧ letC c = false ∧ c.toNat < 128 := by
  have := all8 (fun c => !digC c || (!blankC c && c != 35 && c != 10 && !letC c && decide (c.toNat < 128))) (by decide) c
  simpa [h, and_assoc] using this
theorem fur_is {c : UInt8} (h : furC c = true) : c.toNat < 128 ∧ c ≠ 10 := by
  unfold furC at h
  rw [Bool.or_eq_true] at h
  rcases h with h | h
  · exact ⟨(dig_is h).2.2.2.2, (dig_is h).2.2.1⟩
  · exact ⟨(let_is h).2.2.2, (let_is h).2.2.1⟩
theorem oneP_let {c : UInt8} (l : List UInt8) (h : letC c = true) : oneP (c :: l) = (if 32 < ((c :: l).takeWhile furC).length then .bad false 0 else .tok 1 ((c :: l).takeWhile furC).length ((c :: l).takeWhile furC) 0 emptyS) := by
  obtain ⟨h1, h2, h3, _⟩ := let_is h
  rw [oneP_cons, if_neg (by rw [h1]; decide), if_neg h2, if_neg h3, if_pos h]
theorem oneP_dig {c : UInt8} (l : List UInt8) (h : digC c = true) : oneP (c :: l) = .tok 2 ((c :: l).takeWhile digC).length [] (numP ((c :: l).takeWhile digC)) emptyS := by
  obtain ⟨h1, h2, h3, h4, _⟩ := dig_is h
  rw [oneP_cons, if_neg (by rw [h1]; decide), if_neg h2, if_neg h3, if_neg (by rw [h4]; decide), if_pos h]
theorem oneP_text (l : List UInt8) : oneP (34 :: l) = textP (34 :: l) := rfl
theorem oneP_set (l : List UInt8) : oneP (91 :: l) = setP (91 :: l) := rfl
/-- The bytes that begin nothing but a mark, or nothing. -/
def restC (c : UInt8) : Bool := !(blankC c || c == 35 || c == 10 || letC c || digC c || c == 34 || c == 91 || c == 46)
theorem oneP_mark {c : UInt8} (l : List UInt8) (h : restC c = true) : oneP (c :: l) = if markP (c :: l) = 0 then .bad false 0 else .tok 5 (markP (c :: l)) ((c :: l).take (markP (c :: l))) 0 emptyS := by
  unfold restC at h
  simp only [Bool.not_eq_true', Bool.or_eq_false_iff, beq_eq_false_iff_ne] at h
  obtain ⟨⟨⟨⟨⟨⟨⟨h1, h2⟩, h3⟩, h4⟩, h5⟩, h6⟩, h7⟩, h8⟩ := h
  rw [oneP_cons, if_neg (by rw [h1]; decide), if_neg h2, if_neg h3, if_neg (by rw [h4]; decide), if_neg (by rw [h5]; decide), if_neg h6, if_neg h7, if_neg h8]
/-- The ways in which a text begins. -/
theorem byte_cases (c : UInt8) : blankC c = true ∨ c = 35 ∨ c = 10 ∨ letC c = true ∨ digC c = true ∨ c = 34 ∨ c = 91 ∨ c = 46 ∨ restC c = true := by
  by_cases h : restC c = true
  · simp [h]
  · unfold restC at h
    simp only [Bool.not_eq_true', Bool.not_eq_false, Bool.or_eq_true, beq_iff_eq] at h
    rcases h with ((((((h | h) | h) | h) | h) | h) | h) | h <;> simp [h]
theorem len_sub (p q : List UInt8) : (p ++ q).length - q.length = p.length := by rw [List.length_append]; omega
theorem oneP_app {l tx : List UInt8} {kd k n : Nat} {s : BitVec 256} (h : oneP l = .tok kd k tx n s) :
    ∃ p y, l = p ++ y ∧ p.length = k ∧ Piece kd p tx n s ∧ ∀ z, Nx y z → oneP (p ++ z) = .tok kd k tx n s := by
  match l with
  | [] => cases h
  | c :: l =>
    rcases byte_cases c with hc | rfl | rfl | hc | hc | rfl | rfl | rfl | hc
    · rw [oneP_cons, if_pos hc] at h; cases h
    · rw [oneP_cons, if_neg (by decide), if_pos rfl] at h; cases h
    · injection h with h1 h2 h3 h4 h5; subst h1; subst h2; subst h3; subst h4; subst h5
      exact ⟨[10], l, rfl, rfl, by simp [Piece], fun z _ => rfl⟩
    · rw [oneP_let l hc] at h
      obtain ⟨p, y, h1, h2, h3, h4, h5⟩ := while_split furC (c :: l)
      rw [h2] at h
      obtain ⟨q, rfl⟩ := while_head h2 (let_fur hc)
      split at h
      · cases h
      · rename_i hl
        injection h with e1 e2 e3 e4 e5; subst e1; subst e2; subst e3; subst e4; subst e5
        refine ⟨c :: q, y, h1, rfl, .inl ⟨rfl, rfl, rfl, rfl, ⟨c, q, rfl, hc⟩, h3, by omega⟩, fun z hz => ?_⟩
        have hw := h5 z (fun d r e => by
          rcases hz d r e with h | ⟨q', h⟩
          · exact (gap_fur h).1
          · exact h4 d q' h)
        rw [List.cons_append] at hw ⊢
        rw [oneP_let _ hc, hw, if_neg hl]
    · rw [oneP_dig l hc] at h
      obtain ⟨p, y, h1, h2, h3, h4, h5⟩ := while_split digC (c :: l)
      rw [h2] at h
      obtain ⟨q, rfl⟩ := while_head h2 hc
      injection h with e1 e2 e3 e4 e5; subst e1; subst e2; subst e3; subst e4; subst e5
      refine ⟨c :: q, y, h1, rfl, .inr (.inl ⟨rfl, rfl, rfl, rfl, ⟨c, q, rfl, hc⟩, h3⟩), fun z hz => ?_⟩
      have hw := h5 z (fun d r e => by
        rcases hz d r e with h | ⟨q', h⟩
        · exact (gap_fur h).2.1
        · exact h4 d q' h)
      rw [List.cons_append] at hw ⊢
      rw [oneP_dig _ hc, hw]
    · rw [oneP_text] at h
      unfold textP at h
      rw [show List.drop 1 (34 :: l) = l from rfl] at h
      cases hq : quotedF l [] with
      | bad r => rw [hq] at h; cases h
      | ok t r =>
        rw [hq] at h
        obtain ⟨p, rfl, h10, hy⟩ := quotedF_app _ _ _ _ _ (Nat.le_refl _) hq
        injection h with e1 e2 e3 e4 e5; subst e1; subst e2; subst e3; subst e4; subst e5
        have e : ∀ z : List UInt8, 34 :: (p ++ 34 :: z) = (34 :: (p ++ [34])) ++ z := fun z => by simp
        have el : ∀ z : List UInt8, (34 :: (p ++ 34 :: z)).length - z.length = (34 :: (p ++ [34])).length := fun z => by simp; omega
        refine ⟨34 :: (p ++ [34]), r, e r, ?_, .inr (.inr (.inl ⟨rfl, rfl, rfl, p, rfl, h10, hy⟩)), fun z _ => ?_⟩
        · exact (el r).symm
        · rw [← e, oneP_text]; unfold textP
          rw [show List.drop 1 (34 :: (p ++ 34 :: z)) = p ++ 34 :: z from rfl, hy z, el]
          simp only [el]
    · rw [oneP_set] at h
      unfold setP at h
      cases hq : classF 0 (91 :: l) with
      | bad d r => rw [hq] at h; cases h
      | ok t r =>
        rw [hq] at h
        obtain ⟨p, hl, h10, hy⟩ := classF_app hq
        injection hl with _ hl; subst hl
        injection h with e1 e2 e3 e4 e5; subst e1; subst e2; subst e3; subst e4; subst e5
        have e : ∀ z : List UInt8, 91 :: (p ++ 93 :: z) = (91 :: (p ++ [93])) ++ z := fun z => by simp
        have el : ∀ z : List UInt8, (91 :: (p ++ 93 :: z)).length - z.length = (91 :: (p ++ [93])).length := fun z => by simp; omega
        refine ⟨91 :: (p ++ [93]), r, e r, ?_, .inr (.inr (.inr (.inl ⟨rfl, rfl, rfl, .inr ⟨p, rfl, h10, hy⟩⟩))), fun z _ => ?_⟩
        · exact (el r).symm
        · rw [← e, oneP_set]; unfold setP
          rw [hy z, el]
          simp only [el]
    · injection h with h1 h2 h3 h4 h5; subst h1; subst h2; subst h3; subst h4; subst h5
      exact ⟨[46], l, rfl, rfl, by simp [Piece], fun z _ => rfl⟩
    · rw [oneP_mark l hc] at h
      split at h
      · cases h
      · rename_i hm
        injection h with e1 e2 e3 e4 e5; subst e1; subst e2; subst e3; subst e4; subst e5
        by_cases h61 : c = 61
        · subst h61
          cases hp : pre [62] l with
          | true =>
            obtain ⟨l', rfl⟩ := pre_hd hp
            have em : ∀ z, markP (61 :: 62 :: z) = 2 := fun z => by rw [markP_cons]; rw [if_pos rfl, if_pos (by rw [pre_cons1]; rfl)]
            refine ⟨[61, 62], l', rfl, by rw [em]; rfl, ?_, fun z _ => ?_⟩
            · rw [em]; exact .inr (.inr (.inr (.inr (.inl ⟨rfl, rfl, rfl, rfl, .inr (.inl rfl)⟩))))
            · rw [em, List.cons_append, List.cons_append, List.nil_append, oneP_mark _ hc, em, if_neg (by decide)]; rfl
          | false =>
            have em : markP (61 :: l) = 1 := by rw [markP_cons]; rw [if_pos rfl, hp]; rfl
            refine ⟨[61], l, rfl, by rw [em]; rfl, ?_, fun z hz => ?_⟩
            · rw [em]; exact .inr (.inr (.inr (.inr (.inl ⟨rfl, rfl, rfl, rfl, .inl rfl⟩))))
            · have ez : markP (61 :: z) = 1 := by
                rw [markP_cons]; rw [if_pos rfl, if_neg]
                intro h
                obtain ⟨z', rfl⟩ := pre_hd h
                rcases hz 62 z' rfl with h | ⟨q', h⟩
                · exact (gap_fur h).2.2.1 rfl
                · rw [h, pre_cons1] at hp; revert hp; decide
              rw [em, List.cons_append, List.nil_append, oneP_mark _ hc, ez, if_neg (by decide)]; rfl
        · have em : ∀ z, markP (c :: z) = if c ∈ marks1 then 1 else 0 := fun z => by rw [markP_cons, if_neg h61]
          rw [em] at hm
          by_cases hin : c ∈ marks1
          · rw [if_pos hin] at em
            refine ⟨[c], l, rfl, by rw [em]; rfl, ?_, fun z _ => ?_⟩
            · rw [em]; exact .inr (.inr (.inr (.inr (.inl ⟨rfl, rfl, rfl, rfl, .inr (.inr ⟨c, hin, rfl⟩)⟩))))
            · rw [em, List.cons_append, List.nil_append, oneP_mark _ hc, em, if_neg (by decide)]; rfl
          · rw [if_neg hin] at hm; exact absurd rfl hm

/-! ### What is passed -/

theorem oneP_skip {l : List UInt8} {k : Nat} (h : oneP l = .skip k) :
    (l = [] ∧ k = 0) ∨ (∃ c y, l = c :: y ∧ blankC c = true ∧ k = 1) ∨ (∃ p y, l = 35 :: (p ++ y) ∧ k = p.length + 1 ∧ (∀ c ∈ p, notLF c = true) ∧ ∀ c q, y = c :: q → c = 10) := by
  match l with
  | [] => injection h with h; exact .inl ⟨rfl, h.symm⟩
  | c :: l =>
    rcases byte_cases c with hc | rfl | rfl | hc | hc | rfl | rfl | rfl | hc
    · rw [oneP_cons, if_pos hc] at h; injection h with h; exact .inr (.inl ⟨c, l, rfl, hc, h.symm⟩)
    · rw [oneP_cons, if_neg (by decide), if_pos rfl] at h
      injection h with h
      obtain ⟨p, y, h1, h2, h3, h4, _⟩ := while_split notLF (35 :: l)
      rw [h2] at h
      obtain ⟨q, rfl⟩ := while_head h2 rfl
      exact .inr (.inr ⟨q, y, h1, h.symm, fun c hc => h3 c (by simp [hc]), fun c q e => by have := h4 c q e; simpa [notLF] using this⟩)
    · cases h
    · rw [oneP_let l hc] at h; split at h <;> cases h
    · rw [oneP_dig l hc] at h; cases h
    · rw [oneP_text] at h; unfold textP at h; split at h <;> cases h
    · rw [oneP_set] at h; unfold setP at h; split at h <;> cases h
    · cases h
    · rw [oneP_mark l hc] at h; split at h <;> cases h
theorem oneP_blank {c : UInt8} (l : List UInt8) (h : blankC c = true) : oneP (c :: l) = .skip 1 := by rw [oneP_cons, if_pos h]
theorem oneP_remark (p y : List UInt8) (hp : ∀ c ∈ p, notLF c = true) (hy : ∀ c q, y = c :: q → c = 10) : oneP (35 :: (p ++ y)) = .skip (p.length + 1) := by
  rw [oneP_cons, if_neg (by decide), if_pos rfl]
  have : (35 :: (p ++ y)).takeWhile notLF = 35 :: p := by
    rw [List.takeWhile_cons, if_pos (by decide)]
    congr 1
    induction p with
    | nil =>
      cases y with
      | nil => rfl
      | cons c q => have := hy c q rfl; subst this; rfl
    | cons c p ih => rw [List.cons_append, List.takeWhile_cons, if_pos (hp c (by simp)), ih (fun d hd => hp d (by simp [hd]))]
  rw [this]; rfl
theorem oneP_bad_cons {l : List UInt8} {d : Bool} {k : Nat} (h : oneP l = .bad d k) : ∃ c y, l = c :: y := by
  match l with
  | [] => cases h
  | c :: y => exact ⟨c, y, rfl⟩

/-! ### All lexemes -/

structure Tok where
  kd : Nat
  at' : Nat
  fin : Nat
  tx : List UInt8
  n : Nat
  s : BitVec 256
def lexP : Nat → List UInt8 → Nat → List Tok × Option (Bool × Nat)
  | 0, _, _ => ([], none)
  | n + 1, l, a => if l = [] then ([], none) else match oneP l with
    | .skip k => lexP n (l.drop k) (a + k)
    | .tok kd k tx m s => (⟨kd, a, a + k, tx, m, s⟩ :: (lexP n (l.drop k) (a + k)).1, (lexP n (l.drop k) (a + k)).2)
    | .bad d k => ([], some (d, a + k))
theorem lexP_fuel : ∀ (n m : Nat) (l : List UInt8) (a : Nat), l.length ≤ n → l.length ≤ m → lexP n l a = lexP m l a
  | 0, 0, _, _, _, _ => rfl
  | 0, m + 1, l, a, h, _ => by rw [List.eq_nil_of_length_eq_zero (Nat.le_zero.1 h)]; rfl
  | n + 1, 0, l, a, _, h => by rw [List.eq_nil_of_length_eq_zero (Nat.le_zero.1 h)]; rfl
  | n + 1, m + 1, l, a, h1, h2 => by
    unfold lexP
    split
    · rfl
    · rename_i hl
      cases ho : oneP l with
      | bad d k => rfl
      | skip k =>
        simp only
        have hk : 1 ≤ k := by
          rcases oneP_skip ho with ⟨h, _⟩ | ⟨_, _, _, _, h⟩ | ⟨_, _, _, h, _⟩
          · exact absurd h hl
          · omega
          · omega
        exact lexP_fuel n m _ _ (by rw [List.length_drop]; omega) (by rw [List.length_drop]; omega)
      | tok kd k tx x s =>
        simp only
        obtain ⟨p, y, h3, h4, h5, _⟩ := oneP_app ho
        have hk : 1 ≤ k := by
          rw [← h4]
          rcases h5 with ⟨_, _, _, _, ⟨c, q, rfl, _⟩, _⟩ | ⟨_, _, _, _, ⟨c, q, rfl, _⟩, _⟩ | ⟨_, _, _, q, rfl, _⟩ | ⟨_, _, _, ⟨rfl, _⟩ | ⟨q, rfl, _⟩⟩ | ⟨_, _, _, _, rfl | rfl | ⟨c, _, rfl⟩⟩ | ⟨_, _, _, _, rfl⟩ <;> simp
        rw [lexP_fuel n m _ _ (by rw [List.length_drop]; omega) (by rw [List.length_drop]; omega)]
theorem Piece.pos {kd : Nat} {p tx : List UInt8} {n : Nat} {s : BitVec 256} (h : Piece kd p tx n s) : 1 ≤ p.length := by
  rcases h with ⟨_, _, _, _, ⟨c, q, rfl, _⟩, _⟩ | ⟨_, _, _, _, ⟨c, q, rfl, _⟩, _⟩ | ⟨_, _, _, q, rfl, _⟩ | ⟨_, _, _, ⟨rfl, _⟩ | ⟨q, rfl, _⟩⟩ | ⟨_, _, _, _, rfl | rfl | ⟨c, _, rfl⟩⟩ | ⟨_, _, _, _, rfl⟩ <;> simp
/-- A text's lexemes (places counted from 'a' on) and what refuses it. -/
def lexF (l : List UInt8) (a : Nat) : List Tok × Option (Bool × Nat) := lexP l.length l a
theorem lexF_nil (a : Nat) : lexF [] a = ([], none) := rfl
theorem lexF_eq {l : List UInt8} (a : Nat) (hl : l ≠ []) : lexF l a = match oneP l with
    | .skip k => lexF (l.drop k) (a + k)
    | .tok kd k tx m s => (⟨kd, a, a + k, tx, m, s⟩ :: (lexF (l.drop k) (a + k)).1, (lexF (l.drop k) (a + k)).2)
    | .bad d k => ([], some (d, a + k)) := by
  match l with
  | [] => exact absurd rfl hl
  | c :: l =>
    unfold lexF
    rw [List.length_cons, lexP, if_neg hl]
    cases ho : oneP (c :: l) with
    | bad d k => rfl
    | skip k =>
      simp only
      have hk : 1 ≤ k := by
        rcases oneP_skip ho with ⟨h, _⟩ | ⟨_, _, _, _, h⟩ | ⟨_, _, _, h, _⟩
        · exact absurd h hl
        · omega
        · omega
      exact lexP_fuel _ _ _ _ (by rw [List.length_drop, List.length_cons]; omega) (Nat.le_refl _)
    | tok kd k tx x s =>
      simp only
      obtain ⟨p, y, h3, h4, h5, _⟩ := oneP_app ho
      have hk := h5.pos
      rw [lexP_fuel l.length (List.drop k (c :: l)).length _ _ (by rw [List.length_drop, List.length_cons]; omega) (Nat.le_refl _)]
theorem lexF_skip {l y : List UInt8} {k : Nat} (a : Nat) (ho : oneP l = .skip k) (hl : l ≠ []) (hy : l.drop k = y) : lexF l a = lexF y (a + k) := by
  rw [lexF_eq a hl, ho, ← hy]
theorem lexF_tok {l y tx : List UInt8} {kd k n : Nat} {s : BitVec 256} (a : Nat) (ho : oneP l = .tok kd k tx n s) (hy : l.drop k = y) : lexF l a = (⟨kd, a, a + k, tx, n, s⟩ :: (lexF y (a + k)).1, (lexF y (a + k)).2) := by
  have hl : l ≠ [] := by rintro rfl; cases ho
  rw [lexF_eq a hl, ho, ← hy]
theorem lexF_bad {l : List UInt8} {d : Bool} {k : Nat} (a : Nat) (ho : oneP l = .bad d k) : lexF l a = ([], some (d, a + k)) := by
  have hl : l ≠ [] := by rintro rfl; cases ho
  rw [lexF_eq a hl, ho]
/-- The ways in which a text falls into lexemes. -/
theorem lex_cases {M : List UInt8 → Nat → List Tok → Option (Bool × Nat) → Prop}
    (hnil : ∀ a, M [] a [] none)
    (hblank : ∀ c y a L e, blankC c = true → lexF y (a + 1) = (L, e) → M y (a + 1) L e → M (c :: y) a L e)
    (hremark : ∀ p y a L e, (∀ c ∈ p, notLF c = true) → (∀ c q, y = c :: q → c = 10) → lexF y (a + (p.length + 1)) = (L, e) → M y (a + (p.length + 1)) L e → M (35 :: (p ++ y)) a L e)
    (htok : ∀ p y kd tx n s a L e, Piece kd p tx n s → (∀ z, Nx y z → oneP (p ++ z) = .tok kd p.length tx n s) → lexF y (a + p.length) = (L, e) → M y (a + p.length) L e → M (p ++ y) a (⟨kd, a, a + p.length, tx, n, s⟩ :: L) e)
    (hbad : ∀ l a d k, oneP l = .bad d k → M l a [] (some (d, a + k))) :
    ∀ (l : List UInt8) (a : Nat), M l a (lexF l a).1 (lexF l a).2 := by
  suffices ∀ (n : Nat) (l : List UInt8) (a : Nat), l.length ≤ n → M l a (lexF l a).1 (lexF l a).2 from fun l a => this _ l a (Nat.le_refl _)
  intro n
  induction n with
  | zero => intro l a h; rw [List.eq_nil_of_length_eq_zero (Nat.le_zero.1 h)]; exact hnil a
  | succ n ih =>
    intro l a h
    cases ho : oneP l with
    | bad d k => rw [lexF_bad a ho]; exact hbad l a d k ho
    | skip k =>
      rcases oneP_skip ho with ⟨rfl, _⟩ | ⟨c, y, rfl, hc, rfl⟩ | ⟨p, y, rfl, rfl, hp, hy⟩
      · exact hnil a
      · rw [lexF_skip a ho (by simp) rfl]
        exact hblank c y a _ _ hc rfl (ih _ _ (by simpa using h))
      · rw [lexF_skip (y := y) a ho (by simp) (by simp)]
        exact hremark p y a _ _ hp hy rfl (ih _ _ (by simp at h; omega))
    | tok kd k tx x s =>
      obtain ⟨p, y, rfl, rfl, hP, hz⟩ := oneP_app ho
      rw [lexF_tok (y := y) a ho (by simp)]
      have := hP.pos
      exact htok p y kd tx x s a _ _ hP hz rfl (ih _ _ (by simp at h; omega))

/-! ### Between lexemes -/

def passedP : List UInt8 → Bool
  | [] => true
  | c :: l => if c = 35 then l.all notLF else blankC c && passedP l
theorem passedP_cons (c : UInt8) (l : List UInt8) : passedP (c :: l) = if c = 35 then l.all notLF else blankC c && passedP l := rfl
theorem passed_blank {c : UInt8} (h : blankC c = true) (l : List UInt8) : passedP (c :: l) = passedP l := by
  rw [passedP_cons, if_neg (by rintro rfl; revert h; decide), h, Bool.true_and]
/-- What is passed ahead of a text: that text's lexemes. -/
theorem gap_lex : ∀ (g w : List UInt8) (a : Nat), passedP g = true → ((∀ c ∈ g, blankC c = true) ∨ ∃ q, w = 10 :: q) → lexF (g ++ w) a = lexF w (a + g.length)
  | [], w, a, _, _ => rfl
  | c :: g, w, a, hp, hw => by
    by_cases hc : c = 35
    · subst hc
      rw [passedP_cons, if_pos rfl] at hp
      rcases hw with h | ⟨q, rfl⟩
      · exact absurd (h 35 (by simp)) (by decide)
      · have hn : ∀ c ∈ g, notLF c = true := fun c hc => List.all_eq_true.1 hp c hc
        rw [List.cons_append, lexF_skip (y := 10 :: q) a (oneP_remark g (10 :: q) hn (fun c q e => by injection e with e _; exact e.symm)) (by simp) (by simp)]; rfl
    · rw [passedP_cons, if_neg hc, Bool.and_eq_true] at hp
      rw [List.cons_append, lexF_skip (y := g ++ w) a (oneP_blank _ hp.1) (by simp) rfl, gap_lex g w (a + 1) hp.2 (hw.imp (fun h d hd => h d (by simp [hd])) id)]
      congr 1; simp; omega
/-- How lexemes stand in a text. -/
def Cov : List UInt8 → Nat → List Tok → Option (Bool × Nat) → Prop
  | l, _, [], e => e = none → passedP l = true
  | l, a, x :: L, e => ∃ g p y, l = g ++ (p ++ y) ∧ x.at' = a + g.length ∧ x.fin = a + g.length + p.length ∧ passedP g = true ∧ ((∀ c ∈ g, blankC c = true) ∨ p = [10]) ∧
      Piece x.kd p x.tx x.n x.s ∧ (∀ z, Nx y z → oneP (p ++ z) = .tok x.kd p.length x.tx x.n x.s) ∧ Cov y x.fin L e
theorem cov_lex : ∀ (l : List UInt8) (a : Nat), Cov l a (lexF l a).1 (lexF l a).2 := by
  refine lex_cases (M := Cov) ?_ ?_ ?_ ?_ ?_
  · intro a _; rfl
  · intro c y a L e hc _ h
    cases L with
    | nil => intro he; rw [passed_blank hc]; exact h he
    | cons x L =>
      obtain ⟨g, p, y', rfl, h1, h2, h3, h4, h5, h6, h7⟩ := h
      refine ⟨c :: g, p, y', rfl, by rw [h1]; simp; omega, by rw [h2]; simp; omega, by rw [passed_blank hc]; exact h3, h4.imp (fun h d hd => ?_) id, h5, h6, h7⟩
      rcases List.mem_cons.1 hd with rfl | hd
      · exact hc
      · exact h d hd
  · intro r y a L e hr hy hl h
    have hpass : passedP (35 :: r) = true := by rw [passedP_cons, if_pos rfl]; exact List.all_eq_true.2 hr
    cases y with
    | nil =>
      rw [lexF_nil] at hl
      injection hl with h1 h2; subst h1; subst h2
      intro _; rw [List.append_nil]; exact hpass
    | cons c q =>
      have := hy c q rfl
      subst this
      cases L with
      | nil => rw [lexF_tok (y := q) (tx := []) (kd := 6) (k := 1) (n := 0) (s := emptyS) _ rfl rfl] at hl; injection hl with h1 _; cases h1
      | cons x L =>
        obtain ⟨g, p, y', he, h1, h2, h3, h4, h5, h6, h7⟩ := h
        have hg : g = [] := by
          cases g with
          | nil => rfl
          | cons d g =>
            injection he with e1 e2; subst e1
            rw [passedP_cons, if_neg (by decide)] at h3; cases h3
        subst hg
        rw [List.nil_append] at he
        have hp : p = [10] := by
          have hL : lexF (10 :: q) (a + (r.length + 1)) = _ := lexF_tok (y := q) (tx := []) (kd := 6) (k := 1) (n := 0) (s := emptyS) _ rfl rfl
          rw [hL] at hl
          injection hl with e1 _
          injection e1 with e1 _
          have hk : x.kd = 6 := by rw [← e1]
          rw [hk] at h5
          rcases h5 with ⟨h, _⟩ | ⟨h, _⟩ | ⟨h, _⟩ | ⟨h, _⟩ | ⟨h, _⟩ | ⟨_, _, _, _, h⟩
          · cases h
          · cases h
          · cases h
          · cases h
          · cases h
          · exact h
        refine ⟨35 :: r, p, y', by rw [he]; rfl, by rw [h1]; simp, by rw [h2]; simp, hpass, .inr hp, h5, h6, h7⟩
  · intro p y kd tx n s a L e hP hz _ h
    exact ⟨[], p, y, rfl, by simp, by simp, rfl, .inl (by simp), hP, hz, by simpa using h⟩
  · intro l a d k _ h; cases h
/-- A lexeme's bytes. -/
def sl (t : List UInt8) (x : Tok) : List UInt8 := (t.drop x.at').take (x.fin - x.at')
structure Good (t : List UInt8) (x : Tok) : Prop where
  lt : x.at' < x.fin
  le : x.fin ≤ t.length
  piece : Piece x.kd (sl t x) x.tx x.n x.s
  one : ∃ y, ∀ z, Nx y z → oneP (sl t x ++ z) = .tok x.kd (x.fin - x.at') x.tx x.n x.s
theorem cov_good (t : List UInt8) : ∀ (L : List Tok) (l : List UInt8) (a : Nat) (e : Option (Bool × Nat)), Cov l a L e → l = t.drop a → a ≤ t.length → ∀ x ∈ L, Good t x ∧ a < x.fin
  | [], _, _, _, _, _, _, x, hx => by cases hx
  | x :: L, l, a, e, h, hl, ha, x', hx => by
    obtain ⟨g, p, y, h0, h1, h2, h3, h4, h5, h6, h7⟩ := h
    have hp := h5.pos
    have hlen : l.length = t.length - a := by rw [hl, List.length_drop]
    rw [h0] at hlen
    simp only [List.length_append] at hlen
    have hdrop : t.drop x.at' = p ++ y := by
      rw [h1, ← List.drop_drop, ← hl, h0, List.drop_left]
    have hsl : sl t x = p := by
      unfold sl; rw [hdrop, h2, h1, show a + g.length + p.length - (a + g.length) = p.length by omega, List.take_left]
    rcases List.mem_cons.1 hx with rfl | hx
    · refine ⟨⟨by omega, by omega, by rw [hsl]; exact h5, y, fun z hz => ?_⟩, by omega⟩
      rw [hsl, h6 z hz]; congr 1; omega
    · have := cov_good t L y x.fin e h7 (by rw [show x.fin = x.at' + p.length by omega, ← List.drop_drop, hdrop, List.drop_left]) (by omega) x' hx
      exact ⟨this.1, by omega⟩
/-- A text, cut at a lexeme's end. -/
theorem lex_cut : ∀ (L : List Tok) (l : List UInt8) (a : Nat) (e : Option (Bool × Nat)), Cov l a L e → ∀ i (h : i < L.length), a ≤ L[i].fin ∧ L[i].fin - a ≤ l.length ∧ 1 ≤ L[i].fin - a ∧ lexF (l.take (L[i].fin - a)) a = (L.take (i + 1), none)
  | [], _, _, _, _, i, h => absurd h (Nat.not_lt_zero _)
  | x :: L, l, a, e, hC, i, h => by
    obtain ⟨g, p, y, h0, h1, h2, h3, h4, h5, h6, h7⟩ := hC
    have hp := h5.pos
    have hx : x = ⟨x.kd, a + g.length, a + g.length + p.length, x.tx, x.n, x.s⟩ := by rw [← h1, show x.at' + p.length = x.fin by omega]
    have h4' : ∀ z, ((∀ c ∈ g, blankC c = true) ∨ ∃ q, p ++ z = 10 :: q) := fun z => h4.imp id (fun h => ⟨z, by rw [h]; rfl⟩)
    match i, h with
    | 0, _ =>
      simp only [List.getElem_cons_zero]
      have e1 : l.take (x.fin - a) = g ++ (p ++ []) := by
        rw [h0, h2, show a + g.length + p.length - a = (g ++ p).length by simp; omega, ← List.append_assoc, List.take_left, List.append_nil]
      refine ⟨by omega, by rw [h0]; simp; omega, by omega, ?_⟩
      rw [e1, gap_lex g _ a h3 (h4' _), lexF_tok (y := []) _ (h6 [] (Nx.nil _)) (by simp), lexF_nil, ← hx]; rfl
    | i + 1, h =>
      simp only [List.length_cons] at h
      obtain ⟨k1, k2, k3, k4⟩ := lex_cut L y x.fin e h7 i (by omega)
      simp only [List.getElem_cons_succ]
      have e1 : l.take (L[i].fin - a) = g ++ (p ++ y.take (L[i].fin - x.fin)) := by
        rw [h0, show L[i].fin - a = (g ++ p).length + (L[i].fin - x.fin) by simp; omega, ← List.append_assoc, List.take_length_add_append, List.append_assoc]
      refine ⟨by omega, by rw [h0]; simp; omega, by omega, ?_⟩
      have hN : Nx y (y.take (L[i].fin - x.fin)) := by
        intro c q hq
        cases y with
        | nil => simp at hq
        | cons d y => rw [show L[i].fin - x.fin = (L[i].fin - x.fin - 1) + 1 by omega, List.take_succ_cons] at hq; injection hq with e1 e2; exact .inr ⟨y, by rw [e1]⟩
      rw [e1, gap_lex g _ a h3 (h4' _), lexF_tok (y := y.take (L[i].fin - x.fin)) _ (h6 _ hN) (by simp), show a + g.length + p.length = x.fin by omega, k4, List.take_succ_cons]
      refine Prod.ext ?_ rfl
      simp only
      congr 1
      rw [h2]; exact hx.symm
/-- What stands between lexemes that are written anew. -/
def betweenP (i : Nat) : List UInt8 := if i % 4 = 0 then [32] else if i % 4 = 1 then [9, 32] else if i % 4 = 2 then [32, 13, 32] else [32, 32]
def remarkP : List UInt8 := [35, 32, 91, 34, 32, 114, 101, 109, 97, 114, 107]
def spellOne (t : List UInt8) (x : Tok) (i : Nat) : List UInt8 := (if x.kd = 6 then remarkP else []) ++ sl t x ++ betweenP i
def spell (t : List UInt8) : List Tok → Nat → List UInt8
  | [], _ => []
  | x :: L, i => spellOne t x i ++ spell t L (i + 1)
def dat (x : Tok) : Nat × Nat × List UInt8 × Nat × BitVec 256 := (x.fin - x.at', x.kd, x.tx, x.n, x.s)
theorem between_blank (i : Nat) : ∃ c q, betweenP i = c :: q ∧ ∀ d ∈ c :: q, blankC d = true := by
  unfold betweenP
  split
  · exact ⟨32, [], rfl, by decide⟩
  · split
    · exact ⟨9, [32], rfl, by decide⟩
    · split
      · exact ⟨32, [13, 32], rfl, by decide⟩
      · exact ⟨32, [32], rfl, by decide⟩
theorem passed_all : ∀ (g : List UInt8), (∀ c ∈ g, blankC c = true) → passedP g = true
  | [], _ => rfl
  | c :: g, h => by rw [passed_blank (h c (by simp))]; exact passed_all g (fun d hd => h d (by simp [hd]))
theorem spell_lex (t : List UInt8) : ∀ (L : List Tok) (i a : Nat), (∀ x ∈ L, Good t x) → ∃ M, lexF (spell t L i) a = (M, none) ∧ M.map dat = L.map dat
  | [], i, a, _ => ⟨[], rfl, rfl⟩
  | x :: L, i, a, h => by
    have hx := h x (by simp)
    obtain ⟨y, hy⟩ := hx.one
    obtain ⟨c, q, hb, hbl⟩ := between_blank i
    have hlen : (sl t x).length = x.fin - x.at' := by
      unfold sl; rw [List.length_take, List.length_drop]; have := hx.lt; have := hx.le; omega
    have hone := hy (betweenP i ++ spell t L (i + 1)) (by rw [hb, List.cons_append]; exact Nx.blank _ _ _ (.inr (hbl c (by simp))))
    have hgap : ∀ b, lexF (spell t (x :: L) i) b = lexF (sl t x ++ (betweenP i ++ spell t L (i + 1))) (b + (if x.kd = 6 then remarkP else []).length) := by
      intro b
      show lexF (((if x.kd = 6 then remarkP else []) ++ sl t x ++ betweenP i) ++ spell t L (i + 1)) b = _
      rw [List.append_assoc, List.append_assoc]
      refine gap_lex _ _ b ?_ ?_
      · split <;> rfl
      · by_cases hk : x.kd = 6
        · right
          have hp := hx.piece
          rcases hp with ⟨h, _⟩ | ⟨h, _⟩ | ⟨h, _⟩ | ⟨h, _⟩ | ⟨h, _⟩ | ⟨_, _, _, _, h⟩
          · omega
          · omega
          · omega
          · omega
          · omega
          · exact ⟨_, by rw [h]; rfl⟩
        · left; rw [if_neg hk]; intro c hc; cases hc
    obtain ⟨a', ha'⟩ : ∃ a', a + (if x.kd = 6 then remarkP else []).length = a' := ⟨_, rfl⟩
    obtain ⟨M, hM, hd⟩ := spell_lex t L (i + 1) (a' + (x.fin - x.at') + (betweenP i).length) (fun x hx => h x (by simp [hx]))
    refine ⟨⟨x.kd, a', a' + (x.fin - x.at'), x.tx, x.n, x.s⟩ :: M, ?_, ?_⟩
    · rw [hgap, ha', lexF_tok (y := betweenP i ++ spell t L (i + 1)) a' hone (by rw [← hlen, List.drop_left])]
      rw [gap_lex _ _ _ (by rw [hb]; exact passed_all _ hbl) (.inl (by rw [hb]; exact hbl)), hM]
    · rw [List.map_cons, List.map_cons, hd]
      congr 1
      unfold dat; simp only
      rw [show a' + (x.fin - x.at') - a' = x.fin - x.at' by omega]
theorem blanks_lex (t : List UInt8) : ∃ M, lexF (13 :: spell t (lexF t 0).1 0) 0 = (M, none) ∧ M.map dat = (lexF t 0).1.map dat := by
  rw [lexF_skip (y := spell t (lexF t 0).1 0) 0 rfl (by simp) rfl]
  exact spell_lex t _ 0 _ (fun x hx => (cov_good t _ t 0 _ (cov_lex t 0) rfl (Nat.zero_le _) x hx).1)

/-! ### Where a lexeme ends, a rune ends -/

theorem Piece.last {kd : Nat} {p tx : List UInt8} {n : Nat} {s : BitVec 256} (h : Piece kd p tx n s) : ∃ q c, p = q ++ [c] ∧ c.toNat < 128 := by
  have all : (∀ c ∈ p, c.toNat < 128) → p ≠ [] → ∃ q c, p = q ++ [c] ∧ c.toNat < 128 := fun ha hp => by
    rcases List.eq_nil_or_concat p with h | ⟨q, c, h⟩
    · exact absurd h hp
    · rw [List.concat_eq_append] at h; exact ⟨q, c, h, ha c (by rw [h]; simp)⟩
  rcases h with ⟨_, _, _, _, ⟨c, q, rfl, _⟩, hf, _⟩ | ⟨_, _, _, _, ⟨c, q, rfl, _⟩, hf⟩ | ⟨_, _, _, q, rfl, _⟩ | ⟨_, _, _, ⟨rfl, _⟩ | ⟨q, rfl, _⟩⟩ | ⟨_, _, _, _, rfl | rfl | ⟨c, hc, rfl⟩⟩ | ⟨_, _, _, _, rfl⟩
  · exact all (fun d hd => (fur_is (hf d hd)).1) (by simp)
  · exact all (fun d hd => (dig_is (hf d hd)).2.2.2.2) (by simp)
  · exact ⟨34 :: q, 34, rfl, by decide⟩
  · exact ⟨[], 46, rfl, by decide⟩
  · exact ⟨91 :: q, 93, rfl, by decide⟩
  · exact ⟨[], 61, rfl, by decide⟩
  · exact ⟨[61], 62, rfl, by decide⟩
  · refine ⟨[], c, rfl, ?_⟩
    have := all8 (fun c => !decide (c ∈ marks1) || decide (c.toNat < 128)) (by decide +kernel) c
    simpa [hc] using this
  · exact ⟨[], 10, rfl, by decide⟩
/-- Where a rune may end. -/
def BdL (t : List UInt8) (n : Nat) : Prop := n = t.length ∨ (∃ c, t[n]? = some c ∧ c.toNat < 128) ∨ ∃ c, 0 < n ∧ t[n - 1]? = some c ∧ c.toNat < 128
theorem bd_take {t p y : List UInt8} {a : Nat} (hl : t.drop a = p ++ y) (hp : ∃ q c, p = q ++ [c] ∧ c.toNat < 128) : BdL t (a + p.length) := by
  obtain ⟨q, c, rfl, hc⟩ := hp
  refine .inr (.inr ⟨c, by simp; omega, ?_, hc⟩)
  rw [show a + (q ++ [c]).length - 1 = a + q.length by simp, ← List.getElem?_drop, hl]; simp
theorem bd_tok {t l tx : List UInt8} {a kd k n : Nat} {s : BitVec 256} (h : oneP l = .tok kd k tx n s) (hl : t.drop a = l) (ha : a ≤ t.length) : BdL t (a + k) ∧ 1 ≤ k ∧ a + k ≤ t.length := by
  obtain ⟨p, y, rfl, rfl, hP, _⟩ := oneP_app h
  have := congrArg List.length hl
  simp only [List.length_drop, List.length_append] at this
  exact ⟨bd_take hl hP.last, hP.pos, by have := hP.pos; omega⟩
theorem bd_skip {t l : List UInt8} {a k : Nat} (h : oneP l = .skip k) (hl : t.drop a = l) (ha : a < t.length) : BdL t (a + k) ∧ 1 ≤ k ∧ a + k ≤ t.length := by
  have hlen := congrArg List.length hl
  simp only [List.length_drop] at hlen
  rcases oneP_skip h with ⟨rfl, _⟩ | ⟨c, y, rfl, hc, rfl⟩ | ⟨p, y, rfl, rfl, hp, hy⟩
  · simp at hlen; omega
  · simp at hlen
    exact ⟨bd_take (p := [c]) hl ⟨[], c, rfl, (gap_fur (.inr hc)).2.2.2⟩, by omega, by omega⟩
  · simp at hlen
    refine ⟨?_, by omega, by omega⟩
    cases y with
    | nil => simp at hlen; exact .inl (by omega)
    | cons c q =>
      have := hy c q rfl
      subst this
      refine .inr (.inl ⟨10, ?_, by decide⟩)
      rw [← List.getElem?_drop, hl, List.getElem?_cons_succ]; simp

/-! ### Moved, and one behind the other -/

def shift (k : Nat) (x : Tok) : Tok := ⟨x.kd, x.at' + k, x.fin + k, x.tx, x.n, x.s⟩
theorem lex_shift : ∀ (l : List UInt8) (a : Nat), ∀ k, lexF l (a + k) = ((lexF l a).1.map (shift k), (lexF l a).2.map (fun x => (x.1, x.2 + k))) := by
  suffices ∀ (n : Nat) (l : List UInt8) (a : Nat), l.length ≤ n → ∀ k, lexF l (a + k) = ((lexF l a).1.map (shift k), (lexF l a).2.map (fun x => (x.1, x.2 + k))) from fun l a => this _ l a (Nat.le_refl _)
  intro n
  induction n with
  | zero => intro l a h k; rw [List.eq_nil_of_length_eq_zero (Nat.le_zero.1 h)]; rfl
  | succ n ih =>
    intro l a h k
    by_cases hl : l = []
    · subst hl; rfl
    cases ho : oneP l with
    | bad d j => rw [lexF_bad _ ho, lexF_bad _ ho]; simp; omega
    | skip j =>
      have hj : 1 ≤ j := by
        rcases oneP_skip ho with ⟨h, _⟩ | ⟨_, _, _, _, h⟩ | ⟨_, _, _, h, _⟩
        · exact absurd h hl
        · omega
        · omega
      rw [lexF_skip _ ho hl rfl, lexF_skip _ ho hl rfl, show a + k + j = a + j + k by omega, ih _ _ (by rw [List.length_drop]; omega)]
    | tok kd j tx m s =>
      obtain ⟨p, y, h3, h4, h5, _⟩ := oneP_app ho
      have hj := h5.pos
      rw [lexF_tok _ ho rfl, lexF_tok _ ho rfl, show a + k + j = a + j + k by omega, ih _ _ (by rw [List.length_drop]; omega)]
      rfl

theorem Piece.noLF {kd : Nat} {p tx : List UInt8} {n : Nat} {s : BitVec 256} (h : Piece kd p tx n s) : (10 : UInt8) ∉ p ∨ p = [10] := by
  rcases h with ⟨_, _, _, _, _, hf, _⟩ | ⟨_, _, _, _, _, hf⟩ | ⟨_, _, _, q, rfl, hq, _⟩ | ⟨_, _, _, ⟨rfl, _⟩ | ⟨q, rfl, hq, _⟩⟩ | ⟨_, _, _, _, rfl | rfl | ⟨c, hc, rfl⟩⟩ | ⟨_, _, _, _, rfl⟩
  · exact .inl (fun h => (fur_is (hf 10 h)).2 rfl)
  · exact .inl (fun h => (dig_is (hf 10 h)).2.2.1 rfl)
  · exact .inl (by simpa using hq)
  · exact .inl (by decide)
  · exact .inl (by simpa using hq)
  · exact .inl (by decide)
  · exact .inl (by decide)
  · refine .inl (fun h => ?_)
    simp only [List.mem_singleton] at h; subst h; revert hc; decide
  · exact .inr rfl
theorem split_lf {l B p y : List UInt8} (h : l ++ 10 :: B = p ++ y) (hp : (10 : UInt8) ∉ p) : ∃ y', l = p ++ y' ∧ y = y' ++ 10 :: B := by
  rcases List.append_eq_append_iff.1 h with ⟨a, h1, h2⟩ | ⟨a, h1, h2⟩
  · cases a with
    | nil => exact ⟨[], by rw [h1, List.append_nil, List.append_nil], h2.symm⟩
    | cons c a => injection h2 with h3 _; subst h3; exact absurd (by rw [h1]; simp) hp
  · exact ⟨a, h1, h2⟩
theorem Nx.more (y B : List UInt8) : Nx y (y ++ 10 :: B) := by
  cases y with
  | nil => exact Nx.blank _ _ _ (.inl rfl)
  | cons c y => exact Nx.same _ _ _
theorem Nx.less (y B : List UInt8) : Nx (y ++ 10 :: B) y := by
  cases y with
  | nil => exact Nx.nil _
  | cons c y => exact Nx.same _ _ _
theorem bad_more {l : List UInt8} {d : Bool} {k : Nat} (h : oneP l = .bad d k) (B : List UInt8) : ∃ d' k', oneP (l ++ 10 :: B) = .bad d' k' := by
  cases ho : oneP (l ++ 10 :: B) with
  | bad d' k' => exact ⟨d', k', rfl⟩
  | skip j =>
    obtain ⟨c, y, rfl⟩ := oneP_bad_cons h
    exfalso
    rcases oneP_skip ho with ⟨h1, _⟩ | ⟨c', y', h1, hc, _⟩ | ⟨p, y', h1, _, _, _⟩
    · cases h1
    · injection h1 with h1 _; subst h1; rw [oneP_blank _ hc] at h; cases h
    · injection h1 with h1 _; subst h1; rw [oneP_cons, if_neg (by decide), if_pos rfl] at h; cases h
  | tok kd j tx n s =>
    exfalso
    obtain ⟨p, y, h1, h2, hP, hz⟩ := oneP_app ho
    rcases hP.noLF with hp | hp
    · obtain ⟨y', rfl, rfl⟩ := split_lf h1 hp
      rw [hz y' (Nx.less _ _)] at h; cases h
    · subst hp
      obtain ⟨c, y', rfl⟩ := oneP_bad_cons h
      injection h1 with h1 _; subst h1; cases h
def lfTok (a : Nat) : Tok := ⟨6, a, a + 1, [], 0, emptyS⟩
theorem lexF_lf (B : List UInt8) (a : Nat) : lexF (10 :: B) a = (lfTok a :: (lexF B (a + 1)).1, (lexF B (a + 1)).2) := lexF_tok (y := B) a rfl rfl
/-- Two texts with an LF between them. -/
theorem lex_join (B : List UInt8) : ∀ (l : List UInt8) (a : Nat),
    ((lexF l a).2 = none → lexF (l ++ 10 :: B) a = ((lexF l a).1 ++ lfTok (a + l.length) :: (lexF B (a + l.length + 1)).1, (lexF B (a + l.length + 1)).2)) ∧
    ((lexF l a).2 ≠ none → ∃ M x, lexF (l ++ 10 :: B) a = ((lexF l a).1 ++ M, some x)) := by
  refine lex_cases (M := fun l a L e => (e = none → lexF (l ++ 10 :: B) a = (L ++ lfTok (a + l.length) :: (lexF B (a + l.length + 1)).1, (lexF B (a + l.length + 1)).2)) ∧ (e ≠ none → ∃ M x, lexF (l ++ 10 :: B) a = (L ++ M, some x))) ?_ ?_ ?_ ?_ ?_
  · intro a; exact ⟨fun _ => lexF_lf B a, fun h => absurd rfl h⟩
  · intro c y a L e hc _ h
    have e1 : lexF (c :: y ++ 10 :: B) a = lexF (y ++ 10 :: B) (a + 1) := lexF_skip a (oneP_blank _ hc) (by simp) rfl
    rw [e1, List.length_cons, show a + (y.length + 1) = a + 1 + y.length by omega]; exact h
  · intro p y a L e hp hy _ h
    have e1 : lexF (35 :: (p ++ y) ++ 10 :: B) a = lexF (y ++ 10 :: B) (a + (p.length + 1)) := by
      rw [show 35 :: (p ++ y) ++ 10 :: B = 35 :: (p ++ (y ++ 10 :: B)) by simp]
      refine lexF_skip a (oneP_remark p _ hp ?_) (by simp) (by simp)
      intro c q e
      cases y with
      | nil => injection e with e _; exact e.symm
      | cons d y => injection e with e1 e2; subst e1; exact hy d y rfl
    rw [e1, List.length_cons, List.length_append, show a + (p.length + y.length + 1) = a + (p.length + 1) + y.length by omega]; exact h
  · intro p y kd tx n s a L e _ hz _ h
    have e1 : lexF (p ++ y ++ 10 :: B) a = (⟨kd, a, a + p.length, tx, n, s⟩ :: (lexF (y ++ 10 :: B) (a + p.length)).1, (lexF (y ++ 10 :: B) (a + p.length)).2) := by
      rw [List.append_assoc]
      exact lexF_tok a (hz _ (Nx.more y B)) (by simp)
    rw [e1, List.length_append, show a + (p.length + y.length) = a + p.length + y.length by omega]
    refine ⟨fun he => ?_, fun he => ?_⟩
    · rw [h.1 he]; rfl
    · obtain ⟨M, x, hM⟩ := h.2 he
      exact ⟨M, x, by rw [hM]; rfl⟩
  · intro l a d k ho
    refine ⟨fun h => (by cases h), fun _ => ?_⟩
    obtain ⟨d', k', h⟩ := bad_more ho B
    exact ⟨[], (d', a + k'), lexF_bad a h⟩
theorem lex_plus : ∀ (n a : Nat), lexF (List.replicate n 43) a = ((List.range n).map (fun i => (⟨5, a + i, a + i + 1, [43], 0, emptyS⟩ : Tok)), none)
  | 0, a => rfl
  | n + 1, a => by
    rw [List.replicate_succ, lexF_tok (y := List.replicate n 43) (tx := [43]) (kd := 5) (k := 1) (n := 0) (s := emptyS) a rfl rfl, lex_plus n (a + 1), List.range_succ_eq_map]
    simp only [List.map_cons, List.map_map, Nat.add_zero]
    refine Prod.ext ?_ rfl
    simp only
    congr 1
    refine List.map_congr_left (fun i _ => ?_)
    simp only [Function.comp]
    congr 1 <;> omega

end Go.Proofs.YtihjmeoklbmnmabDoor
