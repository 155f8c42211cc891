/- Texts of bytes, of quoted texts and of sets: how they are written, how they are read. Plain; no condition. -/
import Derived.Test.YtihjmeoklbmnmaaDoorStr
import Derived.Test.YtihjmeoklbmnmaaDoorRuns
namespace Go.Proofs.YtihjmeoklbmnmaaDoor
open Go

/-! ### How they are written -/

def hexD (n : Nat) : UInt8 := if n < 10 then UInt8.ofNat (48 + n) else UInt8.ofNat (87 + n)
/-- A byte's text: 'least' is the least one that stands as it is, but for the marks. -/
def wr (c : UInt8) (least : Nat) (marks : List UInt8) : List UInt8 :=
  if c = 10 then [92, 110] else if c = 9 then [92, 116] else if c = 13 then [92, 114]
  else if c.toNat < least ∨ 126 < c.toNat then [92, 120, hexD (c.toNat / 16), hexD (c.toNat % 16)]
  else if c ∈ marks then [92, c] else [c]
def marksT : List UInt8 := [92, 91, 93, 45, 94, 38]
def marksQ : List UInt8 := [34, 92]
def wrT (c : UInt8) : List UInt8 := wr c 33 marksT
def wrQ (c : UInt8) : List UInt8 := wr c 32 marksQ
def spanL (p : Sp) : List UInt8 := wrT p.1 ++ ((if p.1.toNat + 1 < p.2.toNat then [45] else []) ++ (if p.1.toNat < p.2.toNat then wrT p.2 else []))
def bodyL (l : List Sp) : List UInt8 := l.flatMap spanL
def textL (l : List Sp) : List UInt8 := 91 :: (bodyL l ++ [93])
def quoteL (s : List UInt8) : List UInt8 := 34 :: (s.flatMap wrQ ++ [34])

/-! ### How they are read -/

/-- A digit of base 16; 16: it is none. -/
def nibL (c : UInt8) : Nat :=
  if 48 ≤ c.toNat ∧ c.toNat ≤ 57 then c.toNat - 48 else if 97 ≤ c.toNat ∧ c.toNat ≤ 102 then c.toNat - 87 else if 65 ≤ c.toNat ∧ c.toNat ≤ 70 then c.toNat - 55 else 16
def alnumC (c : UInt8) : Bool := (decide (48 ≤ c.toNat) && decide (c.toNat ≤ 57)) || (decide (97 ≤ c.toNat) && decide (c.toNat ≤ 122)) || (decide (65 ≤ c.toNat) && decide (c.toNat ≤ 90))
/-- What a letter behind a backslash means. -/
def letterL (c : UInt8) : Option UInt8 :=
  if c = 114 then some 13 else if c = 102 then some 12 else if c = 118 then some 11 else if c = 110 then some 10 else if c = 116 then some 9
  else if c = 98 then some 8 else if c = 97 then some 7 else if c = 101 then some 27 else if c = 48 then some 0 else none
/-- An escape, behind its backslash. -/
def escP : List UInt8 → Option (UInt8 × List UInt8)
  | [] => none
  | c :: l =>
    match letterL c with
    | some v => some (v, l)
    | none =>
      if c = 120 then
        match l with
        | a :: b :: r => if nibL a < 16 ∧ nibL b < 16 then some (UInt8.ofNat (16 * nibL a + nibL b), r) else none
        | _ => none
      else if c.toNat < 33 ∨ 126 < c.toNat ∨ alnumC c = true then none else some (c, l)
/-- A byte of a class. -/
def charP : List UInt8 → Option (UInt8 × List UInt8)
  | [] => none
  | c :: l => if c = 91 ∨ c = 93 ∨ c = 45 ∨ c = 10 then none else if c = 92 then escP l else some (c, l)
/-- The text begins so. -/
def pre (s l : List UInt8) : Bool := s.isPrefixOf l
/-- The sets with names. -/
def lowerS : BitVec 256 := rangeSet 97 122
def upperS : BitVec 256 := rangeSet 65 90
def digitS : BitVec 256 := rangeSet 48 57
def alnumS : BitVec 256 := digitS ||| (lowerS ||| upperS)
def namedS (n : List UInt8) : Option (BitVec 256) :=
  if n = [100, 105, 103, 105, 116] then some digitS
  else if n = [108, 111, 119, 101, 114] then some lowerS
  else if n = [117, 112, 112, 101, 114] then some upperS
  else if n = [97, 108, 112, 104, 97] then some (lowerS ||| upperS)
  else if n = [97, 108, 110, 117, 109] then some alnumS
  else if n = [119, 111, 114, 100] then some (alnumS ||| ofList [95])
  else if n = [120, 100, 105, 103, 105, 116] then some (ofSpans [(48, 57), (97, 102), (65, 70)])
  else if n = [98, 108, 97, 110, 107] then some (ofList [32, 9])
  else if n = [115, 112, 97, 99, 101] then some (rangeSet 9 13 ||| ofList [32])
  else if n = [112, 117, 110, 99, 116] then some (rangeSet 33 126 &&& ~~~alnumS)
  else if n = [112, 114, 105, 110, 116] then some (rangeSet 32 126)
  else if n = [99, 110, 116, 114, 108] then some (rangeSet 0 31 ||| ofList [127])
  else if n = [97, 110, 121] then some (~~~emptyS)
  else none
/-- What stands ahead of the first ':]'; none: there is no such thing. -/
def cutAt : List UInt8 → Option (List UInt8)
  | [] => none
  | c :: l => if pre [58, 93] (c :: l) then some [] else (cutAt l).map (c :: ·)
/-- What reading comes to: a set and what is left; or a refusal ('deep') and what is left there. -/
inductive Rd where
  | ok (s : BitVec 256) (r : List UInt8)
  | bad (deep : Bool) (r : List UInt8)
def nameP (l : List UInt8) : Rd :=
  match cutAt (l.drop 2) with
  | none => .bad false l
  | some b => match namedS b with
    | none => .bad false l
    | some s => .ok s (l.drop (b.length + 4))
def itemP (l : List UInt8) : Rd :=
  if pre [91, 58] l then nameP l else
  match charP l with
  | none => .bad false l
  | some (lo, r) =>
    if pre [45] r && !pre [45, 45] r then
      match charP (r.drop 1) with
      | none => .bad false (r.drop 1)
      | some (hi, q) => if hi.toNat < lo.toNat then .bad false (r.drop 1) else .ok (rangeSet lo.toNat hi.toNat) q
    else .ok (ofList [lo]) r
def stops (l : List UInt8) : Bool := pre [45, 45] l || pre [38, 38] l || pre [93] l
def itemsP : Nat → List UInt8 → BitVec 256 → Rd
  | 0, l, _ => .bad false l
  | n + 1, l, s => if stops l then .ok s l else
    match itemP l with
    | .bad d r => .bad d r
    | .ok x r => itemsP n r (s ||| x)
def headP (l : List UInt8) : Rd :=
  match itemsP (l.length + 1) (if pre [94] l then l.drop 1 else l) emptyS with
  | .bad d r => .bad d r
  | .ok s r => .ok (if pre [94] l then ~~~s else s) r
mutual
def classP : Nat → Nat → List UInt8 → Rd
  | 0, _, l => .bad false l
  | n + 1, o, l => if pre [91] l = false then .bad false l else if 40 ≤ o then .bad true l else
    match headP (l.drop 1) with
    | .bad d r => .bad d r
    | .ok s r => tailsP n o r s
def tailsP : Nat → Nat → List UInt8 → BitVec 256 → Rd
  | 0, _, l, _ => .bad false l
  | n + 1, o, l, s => if pre [93] l then .ok s (l.drop 1) else
    if pre [45, 45] l = false ∧ pre [38, 38] l = false then .bad false l else
    match classP n (o + 1) (l.drop 2) with
    | .bad d r => .bad d r
    | .ok x r => tailsP n o r (if pre [45, 45] l then s &&& ~~~x else s &&& x)
end
/-- The text of a class at a place. -/
def parseP (t : List UInt8) (at' : Int) : Rd :=
  let n := if at' < 0 ∨ (t.length : Int) < at' then t.length else at'.toNat
  classP (t.length + 1) 0 (t.drop n)
/-- A quoted text, behind its first mark. -/
inductive Rq where
  | ok (s : List UInt8) (r : List UInt8)
  | bad (r : List UInt8)
def quotedP : Nat → List UInt8 → List UInt8 → Rq
  | 0, l, _ => .bad l
  | n + 1, l, acc =>
    match l with
    | [] => .bad l
    | c :: r => if c = 10 then .bad l else if c = 34 then .ok acc r else if c = 92 then
        match escP r with
        | none => .bad l
        | some (v, q) => quotedP n q (acc ++ [v])
      else quotedP n r (acc ++ [c])
def unquoteP (t : List UInt8) (at' : Int) : Rq :=
  let n := if at' < 0 ∨ (t.length : Int) < at' then t.length else at'.toNat
  if pre [34] (t.drop n) then quotedP (t.length + 1) (t.drop (n + 1)) [] else .bad (t.drop n)

/-! ### What is left is shorter -/

theorem pre_len {s l : List UInt8} (h : pre s l = true) : s.length ≤ l.length := (List.isPrefixOf_iff_prefix.1 h).length_le
theorem escP_cons (c : UInt8) (l : List UInt8) : escP (c :: l) = (match letterL c with
    | some v => some (v, l)
    | none =>
      if c = 120 then
        match l with
        | a :: b :: r => if nibL a < 16 ∧ nibL b < 16 then some (UInt8.ofNat (16 * nibL a + nibL b), r) else none
        | _ => none
      else if c.toNat < 33 ∨ 126 < c.toNat ∨ alnumC c = true then none else some (c, l)) := rfl
theorem charP_cons (c : UInt8) (l : List UInt8) : charP (c :: l) = if c = 91 ∨ c = 93 ∨ c = 45 ∨ c = 10 then none else if c = 92 then escP l else some (c, l) := rfl
theorem cutAt_cons (c : UInt8) (l : List UInt8) : cutAt (c :: l) = if pre [58, 93] (c :: l) then some [] else (cutAt l).map (c :: ·) := by rw [cutAt]
theorem escP_len {l : List UInt8} {v : UInt8} {r : List UInt8} (h : escP l = some (v, r)) : ∃ k, 1 ≤ k ∧ k ≤ l.length ∧ r = l.drop k := by
  match l with
  | [] => simp [escP] at h
  | c :: l =>
    rw [escP_cons] at h
    split at h
    · injection h with h; injection h with _ h; exact ⟨1, by omega, by simp, by simp [h]⟩
    · split at h
      · split at h
        · split at h
          · injection h with h; injection h with _ h; exact ⟨3, by omega, by simp, by simp [h]⟩
          · cases h
        · cases h
      · split at h
        · cases h
        · injection h with h; injection h with _ h; exact ⟨1, by omega, by simp, by simp [h]⟩
theorem charP_len {l : List UInt8} {v : UInt8} {r : List UInt8} (h : charP l = some (v, r)) : ∃ k, 1 ≤ k ∧ k ≤ l.length ∧ r = l.drop k := by
  match l with
  | [] => simp [charP] at h
  | c :: l =>
    rw [charP_cons] at h
    split at h
    · cases h
    · split at h
      · obtain ⟨k, h1, h2, h3⟩ := escP_len h
        exact ⟨k + 1, by omega, by simp; omega, by simp [h3]⟩
      · injection h with h; injection h with _ h; exact ⟨1, by omega, by simp, by simp [h]⟩
theorem cutAt_len : ∀ {l b : List UInt8}, cutAt l = some b → b.length + 2 ≤ l.length
  | [], b, h => by simp [cutAt] at h
  | c :: l, b, h => by
    rw [cutAt_cons] at h
    split at h
    · rename_i hp
      injection h with h; subst h; have := pre_len hp; simpa using this
    · cases hc : cutAt l with
      | none => rw [hc] at h; cases h
      | some b' => rw [hc] at h; injection h with h; subst h; have := cutAt_len hc; simp; omega
/-- The place of what is left, in what was read from. -/
def Rd.within (k0 : Nat) (l : List UInt8) : Rd → Prop
  | .ok _ r => ∃ k, k0 ≤ k ∧ k ≤ l.length ∧ r = l.drop k
  | .bad _ r => ∃ k, k ≤ l.length ∧ r = l.drop k
theorem nameP_len (l : List UInt8) : (nameP l).within 1 l := by
  unfold nameP
  split
  · exact ⟨0, by omega, by simp⟩
  · rename_i b hb
    split
    · exact ⟨0, by omega, by simp⟩
    · have := cutAt_len hb
      rw [List.length_drop] at this
      exact ⟨b.length + 4, by omega, by omega, rfl⟩
theorem itemP_len (l : List UInt8) : (itemP l).within 1 l := by
  unfold itemP
  split
  · exact nameP_len l
  · split
    · exact ⟨0, by omega, by simp⟩
    · rename_i lo r hc
      obtain ⟨k, h1, h2, rfl⟩ := charP_len hc
      split
      · rename_i hp
        simp only [Bool.and_eq_true] at hp
        have hk := pre_len hp.1
        simp only [List.length_drop, List.length_cons, List.length_nil] at hk
        split
        · exact ⟨k + 1, by omega, by simp⟩
        · rename_i hi q hq
          obtain ⟨j, h3, h4, rfl⟩ := charP_len hq
          simp only [List.length_drop] at h4
          split
          · exact ⟨k + 1, by omega, by simp⟩
          · exact ⟨k + 1 + j, by omega, by omega, by simp [Nat.add_assoc]⟩
      · exact ⟨k, h1, h2, rfl⟩
theorem Rd.within_drop {k0 j : Nat} {l : List UInt8} (hj : j ≤ l.length) : ∀ {x : Rd}, x.within k0 (l.drop j) → x.within (k0 + j) l
  | .ok _ r, ⟨k, h1, h2, h3⟩ => ⟨j + k, by omega, by rw [List.length_drop] at h2; omega, by rw [h3, List.drop_drop]⟩
  | .bad _ r, ⟨k, h2, h3⟩ => ⟨j + k, by rw [List.length_drop] at h2; omega, by rw [h3, List.drop_drop]⟩
theorem Rd.within_mono {k0 k1 : Nat} {l : List UInt8} (h : k1 ≤ k0) : ∀ {x : Rd}, x.within k0 l → x.within k1 l
  | .ok _ r, ⟨k, h1, h2, h3⟩ => ⟨k, by omega, h2, h3⟩
  | .bad _ r, h => h
theorem itemsP_len : ∀ (n : Nat) (l : List UInt8) (s : BitVec 256), (itemsP n l s).within 0 l
  | 0, l, s => ⟨0, by omega, by simp⟩
  | n + 1, l, s => by
    unfold itemsP
    split
    · exact ⟨0, by omega, by omega, by simp⟩
    · have hi := itemP_len l
      split
      · rename_i d r he; rw [he] at hi; exact hi
      · rename_i x r he
        rw [he] at hi
        obtain ⟨k, h1, h2, rfl⟩ := hi
        exact Rd.within_mono (Nat.zero_le _) (Rd.within_drop h2 (itemsP_len n (l.drop k) (s ||| x)))
/-- What items stop at. -/
theorem itemsP_stops : ∀ (n : Nat) (l : List UInt8) (s x : BitVec 256) (r : List UInt8), itemsP n l s = .ok x r → stops r = true
  | 0, l, s, x, r, h => by cases h
  | n + 1, l, s, x, r, h => by
    unfold itemsP at h
    split at h
    · rename_i hs; injection h with _ h; subst h; exact hs
    · split at h
      · cases h
      · exact itemsP_stops n _ _ _ _ h
theorem headP_len (l : List UInt8) : (headP l).within 0 l := by
  have key : (itemsP (l.length + 1) (if pre [94] l then l.drop 1 else l) emptyS).within 0 l := by
    split
    · rename_i hp
      exact Rd.within_mono (Nat.zero_le _) (Rd.within_drop (by have := pre_len hp; simpa using this) (itemsP_len _ _ _))
    · exact itemsP_len _ _ _
  unfold headP
  split
  · rename_i d r he; rw [he] at key; exact key
  · rename_i s r he; rw [he] at key; exact key
mutual
theorem classP_len : ∀ (n o : Nat) (l : List UInt8), (classP n o l).within 1 l
  | 0, o, l => ⟨0, by omega, by simp⟩
  | n + 1, o, l => by
    unfold classP
    split
    · exact ⟨0, by omega, by simp⟩
    · rename_i hp
      have hp' := pre_len (by simpa using hp : pre [91] l = true)
      split
      · exact ⟨0, by omega, by simp⟩
      · have hh := Rd.within_drop (by simpa using hp') (headP_len (l.drop 1))
        split
        · rename_i d r he; rw [he] at hh; exact hh
        · rename_i s r he
          rw [he] at hh
          obtain ⟨k, h1, h2, rfl⟩ := hh
          exact Rd.within_mono (by omega) (Rd.within_drop h2 (tailsP_len n o (l.drop k) s))
theorem tailsP_len : ∀ (n o : Nat) (l : List UInt8) (s : BitVec 256), (tailsP n o l s).within 1 l
  | 0, o, l, s => ⟨0, by omega, by simp⟩
  | n + 1, o, l, s => by
    unfold tailsP
    split
    · rename_i hp
      exact ⟨1, by omega, by have := pre_len hp; simpa using this, rfl⟩
    · split
      · exact ⟨0, by omega, by simp⟩
      · rename_i hp
        have h2 : 2 ≤ l.length := by
          by_cases h : pre [45, 45] l = true
          · exact pre_len h
          · refine pre_len (s := [38, 38]) ?_
            cases hq : pre [38, 38] l with
            | true => rfl
            | false => exact absurd ⟨by simpa using h, hq⟩ hp
        have hh := Rd.within_drop h2 (classP_len n (o + 1) (l.drop 2))
        split
        · rename_i d r he; rw [he] at hh; exact hh
        · rename_i x r he
          rw [he] at hh
          obtain ⟨k, h1, h3, rfl⟩ := hh
          exact Rd.within_mono (by omega) (Rd.within_drop h3 (tailsP_len n o (l.drop k) _))
end

end Go.Proofs.YtihjmeoklbmnmaaDoor
