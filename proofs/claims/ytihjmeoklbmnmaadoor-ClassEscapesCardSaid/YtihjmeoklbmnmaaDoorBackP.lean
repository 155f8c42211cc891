/- What is written is read as it. Plain; no condition. -/
import Derived.Test.YtihjmeoklbmnmaaDoorClassP
namespace Go.Proofs.YtihjmeoklbmnmaaDoor
open Go

/-! ### As much fuel as bytes -/

theorem itemsP_fuel : ∀ (n m : Nat) (l : List UInt8) (s : BitVec 256), l.length < n → l.length < m → itemsP n l s = itemsP m l s
  | 0, _, _, _, h, _ => absurd h (Nat.not_lt_zero _)
  | _ + 1, 0, _, _, _, h => absurd h (Nat.not_lt_zero _)
  | n + 1, m + 1, l, s, h1, h2 => by
    have hi := itemP_len l
    unfold itemsP
    split
    · rfl
    · split
      · rfl
      · rename_i x r he
        rw [he] at hi
        obtain ⟨k, h3, h4, rfl⟩ := hi
        exact itemsP_fuel n m _ _ (by rw [List.length_drop]; omega) (by rw [List.length_drop]; omega)
def itemsF (l : List UInt8) (s : BitVec 256) : Rd := itemsP (l.length + 1) l s
theorem itemsF_stop {l : List UInt8} (s : BitVec 256) (h : stops l = true) : itemsF l s = .ok s l := by
  unfold itemsF itemsP; rw [if_pos h]
theorem itemsF_go {l r : List UInt8} {x : BitVec 256} (s : BitVec 256) (h : stops l = false) (hi : itemP l = .ok x r) : itemsF l s = itemsF r (s ||| x) := by
  have hl := itemP_len l
  rw [hi] at hl
  obtain ⟨k, h3, h4, rfl⟩ := hl
  unfold itemsF
  rw [itemsP, if_neg (by rw [h]; decide), hi]
  exact itemsP_fuel _ _ _ _ (by rw [List.length_drop]; omega) (by omega)
theorem itemsF_bad {l r : List UInt8} {d : Bool} (s : BitVec 256) (h : stops l = false) (hi : itemP l = .bad d r) : itemsF l s = .bad d r := by
  unfold itemsF
  rw [itemsP, if_neg (by rw [h]; decide), hi]
mutual
theorem classP_fuel : ∀ (n m o : Nat) (l : List UInt8), l.length < n → l.length < m → classP n o l = classP m o l
  | 0, _, _, _, h, _ => absurd h (Nat.not_lt_zero _)
  | _ + 1, 0, _, _, _, h => absurd h (Nat.not_lt_zero _)
  | n + 1, m + 1, o, l, h1, h2 => by
    unfold classP
    split
    · rfl
    · rename_i hp
      have hp' := pre_len (by simpa using hp : pre [91] l = true)
      split
      · rfl
      · have hh := headP_len (l.drop 1)
        split
        · rfl
        · rename_i s r he
          rw [he] at hh
          obtain ⟨k, h3, h4, rfl⟩ := hh
          simp only [List.length_drop, List.length_cons, List.length_nil] at h4 hp'
          exact tailsP_fuel n m o _ _ (by simp only [List.length_drop]; omega) (by simp only [List.length_drop]; omega)
theorem tailsP_fuel : ∀ (n m o : Nat) (l : List UInt8) (s : BitVec 256), l.length < n → l.length < m → tailsP n o l s = tailsP m o l s
  | 0, _, _, _, _, h, _ => absurd h (Nat.not_lt_zero _)
  | _ + 1, 0, _, _, _, _, h => absurd h (Nat.not_lt_zero _)
  | n + 1, m + 1, o, l, s, h1, h2 => by
    unfold tailsP
    split
    · rfl
    · split
      · rfl
      · rename_i hp
        have hl2 : 2 ≤ l.length := by
          by_cases h : pre [45, 45] l = true
          · exact pre_len h
          · refine pre_len (s := [38, 38]) ?_
            cases hq : pre [38, 38] l with
            | true => rfl
            | false => exact absurd ⟨by simpa using h, hq⟩ hp
        have hc := classP_fuel n m (o + 1) (l.drop 2) (by rw [List.length_drop]; omega) (by rw [List.length_drop]; omega)
        rw [hc]
        have hh := classP_len m (o + 1) (l.drop 2)
        split
        · rfl
        · rename_i x r he
          rw [he] at hh
          obtain ⟨k, h3, h4, rfl⟩ := hh
          simp only [List.length_drop] at h4
          exact tailsP_fuel n m o _ _ (by simp only [List.length_drop]; omega) (by simp only [List.length_drop]; omega)
end
def classF (o : Nat) (l : List UInt8) : Rd := classP (l.length + 1) o l
def tailsF (o : Nat) (l : List UInt8) (s : BitVec 256) : Rd := tailsP (l.length + 1) o l s
theorem classF_of {n o : Nat} {l : List UInt8} (h : l.length < n) : classP n o l = classF o l := classP_fuel _ _ _ _ h (by omega)
theorem tailsF_of {n o : Nat} {l : List UInt8} {s : BitVec 256} (h : l.length < n) : tailsP n o l s = tailsF o l s := tailsP_fuel _ _ _ _ _ h (by omega)
theorem parseP_eq (t : List UInt8) (a : Int) : parseP t a = classF 0 (t.drop (if a < 0 ∨ (t.length : Int) < a then t.length else a.toNat)) := by
  unfold parseP; exact classF_of (by rw [List.length_drop]; omega)
theorem classF_none (o : Nat) (l : List UInt8) (h : pre [91] l = false) : classF o l = .bad false l := by
  unfold classF classP; rw [if_pos h]
theorem classF_deep (o : Nat) (l : List UInt8) (h : pre [91] l = true) (ho : 40 ≤ o) : classF o l = .bad true l := by
  unfold classF classP; rw [if_neg (by rw [h]; decide), if_pos ho]
theorem classF_bad {o : Nat} {l r : List UInt8} {d : Bool} (h : pre [91] l = true) (ho : ¬ 40 ≤ o) (hh : headP (l.drop 1) = .bad d r) : classF o l = .bad d r := by
  unfold classF classP; rw [if_neg (by rw [h]; decide), if_neg ho, hh]
theorem classF_ok {o : Nat} {l r : List UInt8} {s : BitVec 256} (h : pre [91] l = true) (ho : ¬ 40 ≤ o) (hh : headP (l.drop 1) = .ok s r) : classF o l = tailsF o r s := by
  have hl := headP_len (l.drop 1)
  rw [hh] at hl
  obtain ⟨k, h3, h4, rfl⟩ := hl
  have hp := pre_len h
  simp only [List.length_drop, List.length_cons, List.length_nil] at h4 hp
  unfold classF classP
  rw [if_neg (by rw [h]; decide), if_neg ho, hh]
  exact tailsF_of (by simp only [List.length_drop]; omega)
theorem tailsF_end {o : Nat} {l : List UInt8} {s : BitVec 256} (h : pre [93] l = true) : tailsF o l s = .ok s (l.drop 1) := by
  unfold tailsF tailsP; rw [if_pos h]
theorem tailsF_none {o : Nat} {l : List UInt8} {s : BitVec 256} (h : pre [93] l = false) (h1 : pre [45, 45] l = false) (h2 : pre [38, 38] l = false) : tailsF o l s = .bad false l := by
  unfold tailsF tailsP; rw [if_neg (by rw [h]; decide), if_pos ⟨h1, h2⟩]
theorem tailsF_bad {o : Nat} {l r : List UInt8} {s : BitVec 256} {d : Bool} (h : pre [93] l = false) (h1 : pre [45, 45] l = true ∨ pre [38, 38] l = true) (hc : classF (o + 1) (l.drop 2) = .bad d r) : tailsF o l s = .bad d r := by
  have hl2 : 2 ≤ l.length := by rcases h1 with h | h <;> exact pre_len h
  unfold tailsF tailsP
  rw [if_neg (by rw [h]; decide), if_neg (by rcases h1 with h1 | h1 <;> rw [h1] <;> simp), classF_of (by rw [List.length_drop]; omega), hc]
theorem tailsF_go {o : Nat} {l r : List UInt8} {s x : BitVec 256} (h : pre [93] l = false) (h1 : pre [45, 45] l = true ∨ pre [38, 38] l = true) (hc : classF (o + 1) (l.drop 2) = .ok x r) :
    tailsF o l s = tailsF o r (if pre [45, 45] l then s &&& ~~~x else s &&& x) := by
  have hl2 : 2 ≤ l.length := by rcases h1 with h | h <;> exact pre_len h
  have hl := classP_len (l.drop 2).length.succ (o + 1) (l.drop 2)
  rw [show classP (l.drop 2).length.succ (o + 1) (l.drop 2) = classF (o + 1) (l.drop 2) from rfl, hc] at hl
  obtain ⟨k, h3, h4, rfl⟩ := hl
  simp only [List.length_drop] at h4
  unfold tailsF
  rw [tailsP, if_neg (by rw [h]; decide), if_neg (by rcases h1 with h1 | h1 <;> rw [h1] <;> simp), classF_of (by rw [List.length_drop]; omega), hc]
  exact tailsF_of (by simp only [List.length_drop]; omega)

/-! ### A byte's text is read as that byte -/

theorem hexD_nib : ∀ n, n < 16 → nibL (hexD n) = n := by decide
theorem u8_of (c : UInt8) : UInt8.ofNat (16 * (c.toNat / 16) + c.toNat % 16) = c := by
  rw [show 16 * (c.toNat / 16) + c.toNat % 16 = c.toNat by omega]; exact UInt8.ofNat_toNat
theorem esc_hex (c : UInt8) (r : List UInt8) : escP (120 :: hexD (c.toNat / 16) :: hexD (c.toNat % 16) :: r) = some (c, r) := by
  have h1 : c.toNat / 16 < 16 := by have := c.toNat_lt; omega
  have h2 : c.toNat % 16 < 16 := Nat.mod_lt _ (by omega)
  have hl : letterL 120 = none := by decide
  rw [escP_cons, hl]
  simp only [if_true, hexD_nib _ h1, hexD_nib _ h2, h1, h2, and_self]
  rw [u8_of]
theorem esc_mark {c : UInt8} (h : c ∈ marksT ∨ c ∈ marksQ) (r : List UInt8) : escP (c :: r) = some (c, r) := by
  have : c = 92 ∨ c = 91 ∨ c = 93 ∨ c = 45 ∨ c = 94 ∨ c = 38 ∨ c = 34 := by
    rcases h with h | h
    · simp only [marksT, List.mem_cons, List.not_mem_nil, or_false] at h
      rcases h with h | h | h | h | h | h <;> simp [h]
    · simp only [marksQ, List.mem_cons, List.not_mem_nil, or_false] at h
      rcases h with h | h <;> simp [h]
  rcases this with rfl | rfl | rfl | rfl | rfl | rfl | rfl <;> rfl
theorem esc_n (r : List UInt8) : escP (110 :: r) = some (10, r) ∧ escP (116 :: r) = some (9, r) ∧ escP (114 :: r) = some (13, r) := ⟨rfl, rfl, rfl⟩
/-- The ways in which a byte is written. -/
theorem wr_cases (c : UInt8) (least : Nat) (marks : List UInt8) (hm : ∀ x ∈ marks, x ∈ marksT ∨ x ∈ marksQ) :
    (∃ e, wr c least marks = 92 :: e ∧ ∀ r, escP (e ++ r) = some (c, r)) ∨ (wr c least marks = [c] ∧ least ≤ c.toNat ∧ c.toNat ≤ 126 ∧ c ∉ marks ∧ c ≠ 10) := by
  unfold wr
  split
  · rename_i h; subst h; exact .inl ⟨_, rfl, fun r => rfl⟩
  · split
    · rename_i h; subst h; exact .inl ⟨_, rfl, fun r => rfl⟩
    · split
      · rename_i h; subst h; exact .inl ⟨_, rfl, fun r => rfl⟩
      · split
        · exact .inl ⟨_, rfl, fun r => esc_hex c r⟩
        · split
          · rename_i h; exact .inl ⟨_, rfl, fun r => esc_mark (hm c h) r⟩
          · exact .inr ⟨rfl, by omega, by omega, by assumption, by assumption⟩
theorem charP_wr (c : UInt8) (r : List UInt8) : charP (wrT c ++ r) = some (c, r) := by
  rcases wr_cases c 33 marksT (fun x h => .inl h) with ⟨e, he, h⟩ | ⟨he, _, _, hm, h10⟩
  · unfold wrT; rw [he, List.cons_append, charP_cons]
    rw [if_neg (by decide), if_pos rfl]; exact h r
  · unfold wrT; rw [he, List.cons_append, List.nil_append, charP_cons]
    simp only [marksT, List.mem_cons, List.not_mem_nil, or_false, not_or] at hm
    rw [if_neg (by simp [hm, h10]), if_neg (by simp [hm])]
/-- What a byte's text begins with. -/
theorem wrT_head (c : UInt8) : ∃ x l, wrT c = x :: l ∧ x ≠ 91 ∧ x ≠ 93 ∧ x ≠ 45 ∧ x ≠ 94 ∧ x ≠ 38 := by
  rcases wr_cases c 33 marksT (fun x h => .inl h) with ⟨e, he, _⟩ | ⟨he, _, _, hm, h10⟩
  · exact ⟨92, e, he, by decide, by decide, by decide, by decide, by decide⟩
  · simp only [marksT, List.mem_cons, List.not_mem_nil, or_false, not_or] at hm
    exact ⟨c, [], he, hm.2.1, hm.2.2.1, hm.2.2.2.1, hm.2.2.2.2.1, hm.2.2.2.2.2⟩
theorem pre_no {a b : UInt8} {s l : List UInt8} (h : b ≠ a) : pre (a :: s) (b :: l) = false := by
  unfold pre; simp [List.isPrefixOf]; intro e; exact absurd e.symm h
theorem pre_wr {a : UInt8} (s : List UInt8) (c : UInt8) (r : List UInt8) (ha : a = 91 ∨ a = 93 ∨ a = 45 ∨ a = 94 ∨ a = 38) : pre (a :: s) (wrT c ++ r) = false := by
  obtain ⟨x, l, h, h1, h2, h3, h4, h5⟩ := wrT_head c
  rw [h, List.cons_append]
  refine pre_no ?_
  rcases ha with rfl | rfl | rfl | rfl | rfl <;> assumption
theorem stops_wr (c : UInt8) (r : List UInt8) : stops (wrT c ++ r) = false := by
  unfold stops; rw [pre_wr _ _ _ (by simp), pre_wr _ _ _ (by simp), pre_wr _ _ _ (by simp)]; rfl
/-- What may stand behind an item. -/
def clear (r : List UInt8) : Prop := pre [45] r = true → pre [45, 45] r = true
theorem clear_wr (c : UInt8) (r : List UInt8) : clear (wrT c ++ r) := fun h => by rw [pre_wr _ _ _ (by simp)] at h; cases h
theorem item_one (c : UInt8) (r : List UInt8) (h : clear r) : itemP (wrT c ++ r) = .ok (ofList [c]) r := by
  unfold itemP
  rw [pre_wr _ _ _ (by simp), if_neg (by decide), charP_wr]
  simp only
  rw [if_neg]
  intro h2
  simp only [Bool.and_eq_true, Bool.not_eq_true'] at h2
  rw [h h2.1] at h2; cases h2.2
theorem item_range (a b : UInt8) (r : List UInt8) (h : a.toNat ≤ b.toNat) : itemP (wrT a ++ (45 :: (wrT b ++ r))) = .ok (rangeSet a.toNat b.toNat) r := by
  unfold itemP
  rw [pre_wr _ _ _ (by simp), if_neg (by decide), charP_wr]
  simp only
  rw [if_pos]
  · simp only [List.drop_succ_cons, List.drop_zero]
    rw [charP_wr]
    simp only
    rw [if_neg (by omega)]
  · obtain ⟨x, l, hx, _, _, h3, _⟩ := wrT_head b
    rw [hx]
    simp only [pre, List.isPrefixOf, List.cons_append, beq_self_eq_true, Bool.true_and, Bool.and_true]
    simp [Ne.symm h3]
theorem ofList_one (c : UInt8) : ofList [c] = bit c.toNat := by
  have := ofList_snoc [] c
  rw [List.nil_append, ofList_nil, emptyS_or] at this; exact this
theorem items_span (p : Sp) (r : List UInt8) (s : BitVec 256) (hp : p.1.toNat ≤ p.2.toNat) (hr : clear r) : itemsF (spanL p ++ r) s = itemsF r (s ||| rangeSet p.1.toNat p.2.toNat) := by
  obtain ⟨a, b⟩ := p
  simp only at hp
  unfold spanL
  simp only
  rcases Nat.lt_trichotomy (a.toNat + 1) b.toNat with h | h | h
  · rw [if_pos h, if_pos (by omega), List.append_assoc, List.append_assoc]
    refine itemsF_go s (stops_wr _ _) ?_
    exact item_range a b r hp
  · rw [if_neg (by omega), if_pos (by omega), List.nil_append, List.append_assoc]
    rw [itemsF_go s (stops_wr _ _) (item_one a _ (clear_wr b r)), itemsF_go _ (stops_wr _ _) (item_one b r hr), BitVec.or_assoc]
    congr 2
    rw [ofList_one, ofList_one, ← h]
    rw [range_snoc a.toNat a.toNat (a.toNat + 1) (by omega) rfl, range_one]
  · have e : a = b := UInt8.toNat_inj.1 (by omega)
    subst e
    rw [if_neg (by omega), if_neg (by omega), List.append_nil, List.append_nil]
    rw [itemsF_go s (stops_wr _ _) (item_one a r hr), ofList_one, range_one]
theorem clear_body (l : List Sp) (r : List UInt8) (h : clear r) : clear (bodyL l ++ r) := by
  cases l with
  | nil => exact h
  | cons p l => show clear ((spanL p ++ bodyL l) ++ r); unfold spanL; rw [List.append_assoc, List.append_assoc]; exact clear_wr _ _
theorem items_body : ∀ (l : List Sp) (r : List UInt8) (s : BitVec 256), (∀ p ∈ l, p.1.toNat ≤ p.2.toNat) → clear r → itemsF (bodyL l ++ r) s = itemsF r (s ||| ofSpans l)
  | [], r, s, _, _ => by show itemsF r s = itemsF r (s ||| emptyS); rw [or_emptyS]
  | p :: l, r, s, hp, hr => by
    show itemsF ((spanL p ++ bodyL l) ++ r) s = _
    rw [List.append_assoc, items_span p _ s (hp p (by simp)) (clear_body l r hr), items_body l r _ (fun q hq => hp q (by simp [hq])) hr, BitVec.or_assoc]
    rfl
theorem body_not (l : List Sp) (r : List UInt8) (h : pre [94] r = false) : pre [94] (bodyL l ++ r) = false := by
  cases l with
  | nil => exact h
  | cons p l => show pre [94] ((spanL p ++ bodyL l) ++ r) = false; unfold spanL; rw [List.append_assoc, List.append_assoc]; exact pre_wr _ _ _ (by simp)
theorem clear_stops {r : List UInt8} (h : stops r = true) : clear r := fun h1 => by
  unfold stops at h
  match r, h1 with
  | c :: r, h1 =>
    have hc : c = 45 := by simp [pre, List.isPrefixOf] at h1; exact h1.symm
    subst hc
    simpa [pre, List.isPrefixOf] using h
theorem stops_not {r : List UInt8} (h : stops r = true) : pre [94] r = false := by
  unfold stops at h
  match r with
  | [] => rfl
  | c :: r =>
    refine pre_no ?_
    rintro rfl
    simp [pre, List.isPrefixOf] at h
/-- The body of a class, up to a tail or the end. -/
theorem head_body (l : List Sp) (r : List UInt8) (hl : ∀ p ∈ l, p.1.toNat ≤ p.2.toNat) (hr : stops r = true) : headP (bodyL l ++ r) = .ok (ofSpans l) r := by
  unfold headP
  rw [body_not l r (stops_not hr)]
  simp only [Bool.false_eq_true, if_false]
  rw [show itemsP ((bodyL l ++ r).length + 1) (bodyL l ++ r) emptyS = itemsF (bodyL l ++ r) emptyS from rfl, items_body l r _ hl (clear_stops hr), emptyS_or, itemsF_stop _ hr]
theorem head_not (l : List Sp) (r : List UInt8) (hl : ∀ p ∈ l, p.1.toNat ≤ p.2.toNat) (hr : stops r = true) : headP (94 :: (bodyL l ++ r)) = .ok (~~~ofSpans l) r := by
  unfold headP
  have h1 : pre [94] (94 :: (bodyL l ++ r)) = true := rfl
  rw [h1]
  simp only [if_true, List.drop_succ_cons, List.drop_zero]
  rw [itemsP_fuel _ ((bodyL l ++ r).length + 1) _ _ (by simp only [List.length_cons]; omega) (by omega)]
  rw [show itemsP ((bodyL l ++ r).length + 1) (bodyL l ++ r) emptyS = itemsF (bodyL l ++ r) emptyS from rfl, items_body l r _ hl (clear_stops hr), emptyS_or, itemsF_stop _ hr]
/-- A class's text, whatever stands behind. -/
theorem class_text (o : Nat) (ho : o < 40) (l : List Sp) (r : List UInt8) (hl : ∀ p ∈ l, p.1.toNat ≤ p.2.toNat) : classF o (textL l ++ r) = .ok (ofSpans l) r := by
  have e : textL l ++ r = 91 :: (bodyL l ++ (93 :: r)) := by simp [textL]
  rw [e, classF_ok (by rfl) (by omega) (by rw [List.drop_succ_cons, List.drop_zero]; exact head_body l (93 :: r) hl rfl), tailsF_end rfl]; rfl

/-! ### Quoted texts -/

theorem quotedP_cons (n : Nat) (c : UInt8) (r acc : List UInt8) : quotedP (n + 1) (c :: r) acc = (if c = 10 then .bad (c :: r) else if c = 34 then .ok acc r else if c = 92 then
        match escP r with
        | none => .bad (c :: r)
        | some (v, q) => quotedP n q (acc ++ [v])
      else quotedP n r (acc ++ [c])) := rfl
theorem quoted_wr (n : Nat) (c : UInt8) (r acc : List UInt8) : quotedP (n + 1) (wrQ c ++ r) acc = quotedP n r (acc ++ [c]) := by
  rcases wr_cases c 32 marksQ (fun x h => .inr h) with ⟨e, he, h⟩ | ⟨he, _, _, hm, h10⟩
  · unfold wrQ; rw [he, List.cons_append, quotedP_cons]
    rw [if_neg (by decide), if_neg (by decide), if_pos rfl, h r]
  · unfold wrQ; rw [he, List.cons_append, List.nil_append, quotedP_cons]
    simp only [marksQ, List.mem_cons, List.not_mem_nil, or_false, not_or] at hm
    rw [if_neg h10, if_neg hm.1, if_neg hm.2]
theorem quoted_all : ∀ (l : List UInt8) (n : Nat) (r acc : List UInt8), l.length < n → quotedP n (l.flatMap wrQ ++ (34 :: r)) acc = .ok (acc ++ l) r
  | [], n, r, acc, h => by
    match n, h with
    | n + 1, _ => simp [quotedP]
  | c :: l, n, r, acc, h => by
    match n, h with
    | n + 1, h =>
      rw [List.flatMap_cons, List.append_assoc, quoted_wr, quoted_all l n r _ (by simp at h; omega)]; simp

end Go.Proofs.YtihjmeoklbmnmaaDoor
