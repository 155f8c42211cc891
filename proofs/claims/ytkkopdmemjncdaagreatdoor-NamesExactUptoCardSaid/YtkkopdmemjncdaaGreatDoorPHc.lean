/- Texts of mine, put together: ImgP, ImgR. No condition but what each says. -/
import Derived.Lib.Join
namespace Go.Proofs.YtkkopdmemjncdaaGreatDoor
def varB (n : Nat) : List UInt8 := if _h : n < 128 then [UInt8.ofNat n] else UInt8.ofNat (128 + n % 128) :: varB (n / 128)
termination_by n
decreasing_by omega
theorem varB_small {n : Nat} (h : n < 128) : varB n = [UInt8.ofNat n] := by rw [varB, dif_pos h]
theorem varB_big {n : Nat} (h : ¬ n < 128) : varB n = UInt8.ofNat (128 + n % 128) :: varB (n / 128) := by rw [varB, dif_neg h]
def
  rdV : List UInt8 → Option (Nat × List UInt8)
 | [] => none
 |
  c :: r => if c.toNat < 128 then some (c.toNat, r) else match rdV r with
  | some (n, r') => if n = 0 then none else some (c.toNat % 128 + 128 * n, r')
  | none => none
theorem rdV_var (n : Nat) (r : List UInt8) : rdV (varB n ++ r) = some (n, r) := by
 induction n using Nat.strongRecOn with
 |
  _
   n ih =>
  by_cases h : n < 128
  ·
   rw [varB_small h]
   have e : (UInt8.ofNat n).toNat = n := by rw [UInt8.toNat_ofNat_of_lt' (by show _ < 256; omega)]
   simp only [List.cons_append, List.nil_append, rdV, e, if_pos h]
  ·
   rw [varB_big h]
   have e : (UInt8.ofNat (128 + n % 128)).toNat = 128 + n % 128 := by rw [UInt8.toNat_ofNat_of_lt' (by show _ < 256; omega)]
   simp only [List.cons_append, rdV, e, ih (n / 128) (by omega)]
   rw [if_neg (by omega), if_neg (by omega)]
   congr 2; omega
theorem
    var_rdV : ∀ (l : List UInt8) (n : Nat) (r : List UInt8), rdV l = some (n, r) → l = varB n ++ r
 | [], n, r, h => by simp [rdV] at h
 |
  c
   :: l, n, r, h => by
  rw [rdV] at h
  have hc : c.toNat < 256 := c.toNat_lt
  by_cases h1 : c.toNat < 128
  ·
   rw [if_pos h1] at h
   injection h with h; injection h with h2 h3
   subst h2 h3
   rw [varB_small h1]; simp
  ·
   rw [if_neg h1] at h
   cases hr : rdV l with
   | none => rw [hr] at h; cases h
   |
    some x =>
    obtain ⟨m, r'⟩ := x
    rw [hr] at h
    by_cases h2 : m = 0
    · simp only [if_pos h2] at h; cases h
    ·
     simp only [if_neg h2] at h
     injection h with h; injection h with h3 h4
     subst h4
     have ih := var_rdV l m r' hr
     rw [varB_big (by omega), ← h3]
     have e1 : (c.toNat % 128 + 128 * m) / 128 = m := by omega
     have e2 : (c.toNat % 128 + 128 * m) % 128 = c.toNat % 128 := by omega
     rw [e1, e2, show 128 + c.toNat % 128 = c.toNat by omega, UInt8.ofNat_toNat, ih]
     rfl
def numR (most : Nat) (l : List UInt8) : Option (Nat × List UInt8) := match rdV l with
 | some (n, r) => if n ≤ most then some (n, r) else none
 | none => none
theorem numR_var {most n : Nat} (r : List UInt8) (h : n ≤ most) : numR most (varB n ++ r) = some (n, r) := by
 unfold numR; rw [rdV_var]; simp [h]
theorem var_numR {most n : Nat} {l r : List UInt8} (h : numR most l = some (n, r)) : l = varB n ++ r ∧ n ≤ most := by
 unfold numR at h
 cases hr : rdV l with
 | none => rw [hr] at h; cases h
 |
  some x =>
  obtain ⟨m, r'⟩ := x
  rw [hr] at h
  by_cases h2 : m ≤ most
  ·
   simp only [if_pos h2, Option.some.injEq, Prod.mk.injEq] at h
   obtain ⟨rfl, rfl⟩ := h
   exact ⟨var_rdV _ _ _ hr, h2⟩
  · simp only [if_neg h2] at h; cases h
def Cod {α : Type} (f : List UInt8 → Option (α × List UInt8)) (e : α → List UInt8) (P : α → Prop) : Prop :=
 (∀ a r, P a → f (e a ++ r) = some (a, r)) ∧ ∀ l a r, f l = some (a, r) → l = e a ++ r ∧ P a
def mapR {α β : Type} (f : List UInt8 → Option (α × List UInt8)) (t : α → β) (l : List UInt8) : Option (β × List UInt8) := match f l with
 | none => none
 | some (a, r) => some (t a, r)
theorem Cod.map {α β : Type} {f : List UInt8 → Option (α × List UInt8)} {e : α → List UInt8} {P : α → Prop} (h : Cod f e P) (t : α → β) (u : β → α) (Q : β → Prop) (e' : β → List UInt8)
  (h1 : ∀ b, Q b → P (u b) ∧ t (u b) = b ∧ e (u b) = e' b) (h2 : ∀ a, P a → Q (t a) ∧ e a = e' (t a)) : Cod (mapR f t) e' Q := by
 refine ⟨fun b r hb => ?_, fun l b r hl => ?_⟩
 ·
  obtain ⟨a1, a2, a3⟩ := h1 b hb
  unfold mapR
  rw [← a3, h.1 _ r a1]
  simp only [a2]
 ·
  unfold mapR at hl
  cases ha : f l with
  | none => rw [ha] at hl; cases hl
  |
   some x =>
   obtain ⟨a, r'⟩ := x
   simp only [ha, Option.some.injEq, Prod.mk.injEq] at hl
   obtain ⟨rfl, rfl⟩ := hl
   obtain ⟨a1, a2⟩ := h.2 _ _ _ ha
   obtain ⟨a3, a4⟩ := h2 a a2
   exact ⟨by rw [a1, a4], a3⟩
def
  manyR {α : Type} (f : List UInt8 → Option (α × List UInt8)) : Nat → List UInt8 → Option (List α × List UInt8)
 | 0, l => some ([], l)
 |
  n
   + 1, l => match f l with
  | none => none
  |
   some (a, l') => match manyR f n l' with
   | none => none
   | some (as, r) => some (a :: as, r)
theorem
    Cod.many {α : Type} {f : List UInt8 → Option (α × List UInt8)} {e : α → List UInt8} {P : α → Prop} (h : Cod f e P) : ∀ n, Cod (manyR f n) (fun l => l.flatMap e) (fun l => l.length = n ∧ ∀ a ∈ l, P a)
 | 0
   => ⟨fun l r hl => by
   have : l = [] := List.eq_nil_of_length_eq_zero hl.1
   subst this; rfl, fun l a r hl => by
   simp only [manyR, Option.some.injEq, Prod.mk.injEq] at hl
   obtain ⟨rfl, rfl⟩ := hl
   exact ⟨rfl, rfl, fun a h => by cases h⟩⟩
 | n
   +
    1
     => ⟨fun l r hl => by
   obtain ⟨hl1, hl2⟩ := hl
   cases l with
   | nil => simp at hl1
   |
    cons a as =>
    rw [manyR]; dsimp only; rw [List.flatMap_cons, List.append_assoc, h.1 a _ (hl2 a (by simp))]
    simp only [(h.many n).1 as r ⟨by simpa using hl1, fun x hx => hl2 x (by simp [hx])⟩], fun l as r hl => by
   rw [manyR] at hl
   cases ha : f l with
   | none => rw [ha] at hl; cases hl
   |
    some x =>
    obtain ⟨a, l'⟩ := x
    rw [ha] at hl
    cases hb : manyR f n l' with
    | none => simp only [hb] at hl; cases hl
    |
     some y =>
     obtain ⟨as', r'⟩ := y
     simp only [hb, Option.some.injEq, Prod.mk.injEq] at hl
     obtain ⟨rfl, rfl⟩ := hl
     obtain ⟨a1, a2⟩ := h.2 _ _ _ ha
     obtain ⟨b1, b2, b3⟩ := (h.many n).2 _ _ _ hb
     refine ⟨by dsimp only; rw [a1, b1, List.flatMap_cons, List.append_assoc], by simp [b2], fun x hx => ?_⟩
     rcases List.mem_cons.1 hx with rfl | hx
     · exact a2
     · exact b3 x hx⟩
def listR {α : Type} (most : Nat) (f : List UInt8 → Option (α × List UInt8)) (l : List UInt8) : Option (List α × List UInt8) := match numR most l with
 | none => none
 | some (n, l') => manyR f n l'
theorem Cod.list {α : Type} {f : List UInt8 → Option (α × List UInt8)} {e : α → List UInt8} {P : α → Prop} (h : Cod f e P) (most : Nat) : Cod (listR most f) (fun l => varB l.length ++ l.flatMap e) (fun l => l.length ≤ most ∧ ∀ a ∈ l, P a) := by
 refine ⟨fun l r hl => ?_, fun l as r hl => ?_⟩
 ·
  unfold listR
  rw [List.append_assoc, numR_var _ hl.1]
  exact (h.many l.length).1 l r ⟨rfl, hl.2⟩
 ·
  unfold listR at hl
  cases ha : numR most l with
  | none => rw [ha] at hl; cases hl
  |
   some x =>
   obtain ⟨n, l'⟩ := x
   rw [ha] at hl
   obtain ⟨a1, a2⟩ := var_numR ha
   obtain ⟨b1, b2, b3⟩ := (h.many n).2 _ _ _ hl
   exact ⟨by dsimp only; rw [a1, b1, b2, List.append_assoc], by rw [b2]; exact a2, b3⟩
structure Tb where
 modes : List (List UInt8)
 labels : List (List UInt8)
 cuts : List (Int × Int)
 acts : List (List (Int × Int))
 classes : List Int
 count : Int
 starts : List Int
 label : List Int
 base : List Int
 dflt : List Int
 next : List Int
 check : List Int
instance : Inhabited Tb := ⟨⟨[], [], [], [], [], 0, [], [], [], [], [], []⟩⟩
structure Rc where
 modes : List (List UInt8 × Int)
 rules : List (List UInt8 × ((Int × Int) × List (Int × Int)))
 count : Int
 classes : List Int
 states : List (Int × (Int × Int))
 slots : List (Int × Int)
def letB (c : UInt8) : Bool := (decide (97 ≤ c.toNat) && decide (c.toNat ≤ 122)) || ((decide (65 ≤ c.toNat) && decide (c.toNat ≤ 90)) || decide (c.toNat = 95))
def digB (c : UInt8) : Bool := decide (48 ≤ c.toNat) && decide (c.toNat ≤ 57)
def nameB : List UInt8 → Bool
 | [] => false
 | c :: r => decide (r.length + 1 ≤ 32) && (letB c && r.all fun d => letB d || digB d)
def allI {α : Type} (f : Nat → α → Bool) : Nat → List α → Bool
 | _, [] => true
 | i, a :: l => f i a && allI f (i + 1) l
end Go.Proofs.YtkkopdmemjncdaaGreatDoor
namespace Go.Proofs.YtkkopdmemjncdaaGreatDoor
theorem allI_iff {α : Type} {f : Nat → α → Bool} : ∀ {l : List α} {i : Nat}, allI f i l = true ↔ ∀ k a, l[k]? = some a → f (i + k) a = true
 | [], i => ⟨fun _ k a h => by simp at h, fun _ => rfl⟩
 |
  x
   :: l, i => by
  rw [allI, Bool.and_eq_true, allI_iff]
  refine ⟨fun ⟨h1, h2⟩ k a h => ?_, fun h => ⟨h 0 x rfl, fun k a hk => ?_⟩⟩
  ·
   cases k with
   | zero => simp at h; subst h; exact h1
   | succ k => have := h2 k a (by simpa using h); rw [show i + 1 + k = i + (k + 1) by omega] at this; exact this
  · have := h (k + 1) a (by simpa using hk); rw [show i + (k + 1) = i + 1 + k by omega] at this; exact this
theorem allI_take {α : Type} (f : Nat → α → Bool) (l : List α) (k : Nat) (a : α) (h : l[k]? = some a) : allI f 0 (l.take (k + 1)) = (allI f 0 (l.take k) && f k a) := by
 have aux : ∀ (l : List α) (i : Nat) (b : α), allI f i (l ++ [b]) = (allI f i l && f (i + l.length) b) := fun l => by
  induction l with
  | nil => intro i b; simp [allI]
  | cons x l ih => intro i b; simp only [List.cons_append, allI, ih, List.length_cons, Bool.and_assoc]; rw [show i + 1 + l.length = i + (l.length + 1) by omega]
 obtain ⟨hk, rfl⟩ := List.getElem?_eq_some_iff.1 h
 rw [List.take_succ_eq_append_getElem hk, aux, List.length_take, Nat.zero_add, show min k l.length = k by omega]
theorem allI_false {α : Type} {f : Nat → α → Bool} {l : List α} {k : Nat} {a : α} (h : l[k]? = some a) (hf : f k a = false) : allI f 0 l = false := by
 cases hh : allI f 0 l with
 | false => rfl
 | true => have := allI_iff.1 hh k a h; rw [Nat.zero_add, hf] at this; cases this
theorem all_take {α : Type} (f : α → Bool) (l : List α) (k : Nat) (a : α) (h : l[k]? = some a) : (l.take (k + 1)).all f = ((l.take k).all f && f a) := by
 obtain ⟨hk, rfl⟩ := List.getElem?_eq_some_iff.1 h
 rw [List.take_succ_eq_append_getElem hk, List.all_append]
 simp only [List.all_cons, List.all_nil, Bool.and_true]
theorem all_false {α : Type} {f : α → Bool} {l : List α} {k : Nat} {a : α} (h : l[k]? = some a) (hf : f a = false) : l.all f = false := by
 cases hh : l.all f with
 | false => rfl
 | true => have := List.all_eq_true.1 hh a (List.mem_of_getElem? h); rw [hf] at this; cases this
def iR (most : Nat) : List UInt8 → Option (Int × List UInt8) := mapR (numR most) (fun n => (n : Int))
end Go.Proofs.YtkkopdmemjncdaaGreatDoor
