/- Texts of mine, put together: ImgP, ImgR. No condition but what each says. -/
import Derived.Lib.Join

/- Images, plain: numbers as bytes, tables as bytes, there and back. No condition. -/
namespace Go.Proofs.YtkkopdmemjncdaaGreatDoor

/-! Numbers as bytes. -/
def varB (n : Nat) : List UInt8 := if _h : n < 128 then [UInt8.ofNat n] else UInt8.ofNat (128 + n % 128) :: varB (n / 128)
termination_by n
decreasing_by omega
theorem varB_small {n : Nat} (h : n < 128) : varB n = [UInt8.ofNat n] := by rw [varB, dif_pos h]
theorem varB_big {n : Nat} (h : ¬ n < 128) : varB n = UInt8.ofNat (128 + n % 128) :: varB (n / 128) := by rw [varB, dif_neg h]
theorem varB_pos (n : Nat) : 0 < (varB n).length := by
  by_cases h : n < 128
  · rw [varB_small h]; simp
  · rw [varB_big h]; simp
theorem varB_len3 (n : Nat) (h : n < 2097152) : (varB n).length ≤ 3 := by
  by_cases h1 : n < 128
  · rw [varB_small h1]; simp
  · rw [varB_big h1]
    by_cases h2 : n / 128 < 128
    · rw [varB_small h2]; simp
    · rw [varB_big h2, varB_small (by omega)]; simp
/-- A number from the front, written as it is to be. -/
def rdV : List UInt8 → Option (Nat × List UInt8)
  | [] => none
  | c :: r => if c.toNat < 128 then some (c.toNat, r) else match rdV r with
    | some (n, r') => if n = 0 then none else some (c.toNat % 128 + 128 * n, r')
    | none => none
theorem rdV_var (n : Nat) (r : List UInt8) : rdV (varB n ++ r) = some (n, r) := by
  induction n using Nat.strongRecOn with
  | _ n ih =>
    by_cases h : n < 128
    · rw [varB_small h]
      have e : (UInt8.ofNat n).toNat = n := by rw [UInt8.toNat_ofNat_of_lt' (by show _ < 256; omega)]
      simp only [List.cons_append, List.nil_append, rdV, e, if_pos h]
    · rw [varB_big h]
      have e : (UInt8.ofNat (128 + n % 128)).toNat = 128 + n % 128 := by rw [UInt8.toNat_ofNat_of_lt' (by show _ < 256; omega)]
      simp only [List.cons_append, rdV, e, ih (n / 128) (by omega)]
      rw [if_neg (by omega), if_neg (by omega)]
      congr 2; omega
theorem var_rdV : ∀ (l : List UInt8) (n : Nat) (r : List UInt8), rdV l = some (n, r) → l = varB n ++ r
  | [], n, r, h => by simp [rdV] at h
  | c :: l, n, r, h => by
    rw [rdV] at h
    have hc : c.toNat < 256 := c.toNat_lt
    by_cases h1 : c.toNat < 128
    · rw [if_pos h1] at h
      injection h with h; injection h with h2 h3
      subst h2 h3
      rw [varB_small h1]; simp
    · rw [if_neg h1] at h
      cases hr : rdV l with
      | none => rw [hr] at h; cases h
      | some x =>
        obtain ⟨m, r'⟩ := x
        rw [hr] at h
        by_cases h2 : m = 0
        · simp only [if_pos h2] at h; cases h
        · simp only [if_neg h2] at h
          injection h with h; injection h with h3 h4
          subst h4
          have ih := var_rdV l m r' hr
          rw [varB_big (by omega), ← h3]
          have e1 : (c.toNat % 128 + 128 * m) / 128 = m := by omega
          have e2 : (c.toNat % 128 + 128 * m) % 128 = c.toNat % 128 := by omega
          rw [e1, e2, show 128 + c.toNat % 128 = c.toNat by omega, UInt8.ofNat_toNat, ih]
          rfl
/-- .. of so much at most. -/
def numR (most : Nat) (l : List UInt8) : Option (Nat × List UInt8) := match rdV l with
  | some (n, r) => if n ≤ most then some (n, r) else none
  | none => none
theorem numR_var {most n : Nat} (r : List UInt8) (h : n ≤ most) : numR most (varB n ++ r) = some (n, r) := by
  unfold numR; rw [rdV_var]; simp [h]
theorem var_numR {most n : Nat} {l r : List UInt8} (h : numR most l = some (n, r)) : l = varB n ++ r ∧ n ≤ most := by
  unfold numR at h
  cases hr : rdV l with
  | none => rw [hr] at h; cases h
  | some x =>
    obtain ⟨m, r'⟩ := x
    rw [hr] at h
    by_cases h2 : m ≤ most
    · simp only [if_pos h2, Option.some.injEq, Prod.mk.injEq] at h
      obtain ⟨rfl, rfl⟩ := h
      exact ⟨var_rdV _ _ _ hr, h2⟩
    · simp only [if_neg h2] at h; cases h

/-! Readers and what they read. -/
/-- A reader reads just what is written so. -/
def Cod {α : Type} (f : List UInt8 → Option (α × List UInt8)) (e : α → List UInt8) (P : α → Prop) : Prop :=
  (∀ a r, P a → f (e a ++ r) = some (a, r)) ∧ ∀ l a r, f l = some (a, r) → l = e a ++ r ∧ P a
theorem cod_num (most : Nat) : Cod (numR most) varB (· ≤ most) := ⟨fun _ r h => numR_var r h, fun _ _ _ h => var_numR h⟩
/-- One behind the other. -/
def seqR {α β : Type} (f : List UInt8 → Option (α × List UInt8)) (g : α → List UInt8 → Option (β × List UInt8)) (l : List UInt8) : Option ((α × β) × List UInt8) := match f l with
  | none => none
  | some (a, l') => match g a l' with
    | none => none
    | some (b, r) => some ((a, b), r)
theorem Cod.seq {α β : Type} {f : List UInt8 → Option (α × List UInt8)} {e : α → List UInt8} {P : α → Prop} {g : α → List UInt8 → Option (β × List UInt8)} {e' : α → β → List UInt8} {P' : α → β → Prop}
    (h : Cod f e P) (h' : ∀ a, P a → Cod (g a) (e' a) (P' a)) : Cod (seqR f g) (fun x => e x.1 ++ e' x.1 x.2) (fun x => P x.1 ∧ P' x.1 x.2) := by
  refine ⟨fun ⟨a, b⟩ r ⟨h1, h2⟩ => ?_, fun l ⟨a, b⟩ r hl => ?_⟩
  · unfold seqR
    rw [List.append_assoc, h.1 a _ h1]
    simp only [(h' a h1).1 b r h2]
  · unfold seqR at hl
    cases ha : f l with
    | none => rw [ha] at hl; cases hl
    | some x =>
      obtain ⟨a', l'⟩ := x
      rw [ha] at hl
      cases hb : g a' l' with
      | none => simp only [hb] at hl; cases hl
      | some y =>
        obtain ⟨b', r'⟩ := y
        simp only [hb, Option.some.injEq, Prod.mk.injEq] at hl
        obtain ⟨⟨rfl, rfl⟩, rfl⟩ := hl
        obtain ⟨h1, h2⟩ := h.2 _ _ _ ha
        obtain ⟨h3, h4⟩ := (h' _ h2).2 _ _ _ hb
        exact ⟨by rw [h1, h3, List.append_assoc], h2, h4⟩
/-- Told as something else. -/
def mapR {α β : Type} (f : List UInt8 → Option (α × List UInt8)) (t : α → β) (l : List UInt8) : Option (β × List UInt8) := match f l with
  | none => none
  | some (a, r) => some (t a, r)
theorem Cod.map {α β : Type} {f : List UInt8 → Option (α × List UInt8)} {e : α → List UInt8} {P : α → Prop} (h : Cod f e P) (t : α → β) (u : β → α) (Q : β → Prop) (e' : β → List UInt8)
    (h1 : ∀ b, Q b → P (u b) ∧ t (u b) = b ∧ e (u b) = e' b) (h2 : ∀ a, P a → Q (t a) ∧ e a = e' (t a)) : Cod (mapR f t) e' Q := by
  refine ⟨fun b r hb => ?_, fun l b r hl => ?_⟩
  · obtain ⟨a1, a2, a3⟩ := h1 b hb
    unfold mapR
    rw [← a3, h.1 _ r a1]
    simp only [a2]
  · unfold mapR at hl
    cases ha : f l with
    | none => rw [ha] at hl; cases hl
    | some x =>
      obtain ⟨a, r'⟩ := x
      simp only [ha, Option.some.injEq, Prod.mk.injEq] at hl
      obtain ⟨rfl, rfl⟩ := hl
      obtain ⟨a1, a2⟩ := h.2 _ _ _ ha
      obtain ⟨a3, a4⟩ := h2 a a2
      exact ⟨by rw [a1, a4], a3⟩
/-- So many. -/
def manyR {α : Type} (f : List UInt8 → Option (α × List UInt8)) : Nat → List UInt8 → Option (List α × List UInt8)
  | 0, l => some ([], l)
  | n + 1, l => match f l with
    | none => none
    | some (a, l') => match manyR f n l' with
      | none => none
      | some (as, r) => some (a :: as, r)
theorem Cod.many {α : Type} {f : List UInt8 → Option (α × List UInt8)} {e : α → List UInt8} {P : α → Prop} (h : Cod f e P) : ∀ n, Cod (manyR f n) (fun l => l.flatMap e) (fun l => l.length = n ∧ ∀ a ∈ l, P a)
  | 0 => ⟨fun l r hl => by
      have : l = [] := List.eq_nil_of_length_eq_zero hl.1
      subst this; rfl, fun l a r hl => by
      simp only [manyR, Option.some.injEq, Prod.mk.injEq] at hl
      obtain ⟨rfl, rfl⟩ := hl
      exact ⟨rfl, rfl, fun a h => by cases h⟩⟩
  | n + 1 => ⟨fun l r hl => by
      obtain ⟨hl1, hl2⟩ := hl
      cases l with
      | nil => simp at hl1
      | cons a as =>
        rw [manyR]; dsimp only; rw [List.flatMap_cons, List.append_assoc, h.1 a _ (hl2 a (by simp))]
        simp only [(h.many n).1 as r ⟨by simpa using hl1, fun x hx => hl2 x (by simp [hx])⟩], fun l as r hl => by
      rw [manyR] at hl
      cases ha : f l with
      | none => rw [ha] at hl; cases hl
      | some x =>
        obtain ⟨a, l'⟩ := x
        rw [ha] at hl
        cases hb : manyR f n l' with
        | none => simp only [hb] at hl; cases hl
        | some y =>
          obtain ⟨as', r'⟩ := y
          simp only [hb, Option.some.injEq, Prod.mk.injEq] at hl
          obtain ⟨rfl, rfl⟩ := hl
          obtain ⟨a1, a2⟩ := h.2 _ _ _ ha
          obtain ⟨b1, b2, b3⟩ := (h.many n).2 _ _ _ hb
          refine ⟨by dsimp only; rw [a1, b1, List.flatMap_cons, List.append_assoc], by simp [b2], fun x hx => ?_⟩
          rcases List.mem_cons.1 hx with rfl | hx
          · exact a2
          · exact b3 x hx⟩
/-- A number, and so many. -/
def listR {α : Type} (most : Nat) (f : List UInt8 → Option (α × List UInt8)) (l : List UInt8) : Option (List α × List UInt8) := match numR most l with
  | none => none
  | some (n, l') => manyR f n l'
theorem Cod.list {α : Type} {f : List UInt8 → Option (α × List UInt8)} {e : α → List UInt8} {P : α → Prop} (h : Cod f e P) (most : Nat) : Cod (listR most f) (fun l => varB l.length ++ l.flatMap e) (fun l => l.length ≤ most ∧ ∀ a ∈ l, P a) := by
  refine ⟨fun l r hl => ?_, fun l as r hl => ?_⟩
  · unfold listR
    rw [List.append_assoc, numR_var _ hl.1]
    exact (h.many l.length).1 l r ⟨rfl, hl.2⟩
  · unfold listR at hl
    cases ha : numR most l with
    | none => rw [ha] at hl; cases hl
    | some x =>
      obtain ⟨n, l'⟩ := x
      rw [ha] at hl
      obtain ⟨a1, a2⟩ := var_numR ha
      obtain ⟨b1, b2, b3⟩ := (h.many n).2 _ _ _ hl
      exact ⟨by dsimp only; rw [a1, b1, b2, List.append_assoc], by rw [b2]; exact a2, b3⟩
/-- A text. -/
def txB (s : List UInt8) : List UInt8 := varB s.length ++ s
def txR (l : List UInt8) : Option (List UInt8 × List UInt8) := match numR 32 l with
  | none => none
  | some (n, l') => if n ≤ l'.length then some (l'.take n, l'.drop n) else none
theorem cod_tx : Cod txR txB (fun s => s.length ≤ 32) := by
  refine ⟨fun s r hs => ?_, fun l s r hl => ?_⟩
  · unfold txR txB
    rw [List.append_assoc, numR_var _ hs]
    simp only [List.length_append, Nat.le_add_right, if_true, List.take_left, List.drop_left]
  · unfold txR at hl
    cases ha : numR 32 l with
    | none => rw [ha] at hl; cases hl
    | some x =>
      obtain ⟨n, l'⟩ := x
      rw [ha] at hl
      obtain ⟨a1, a2⟩ := var_numR ha
      by_cases hn : n ≤ l'.length
      · simp only [if_pos hn, Option.some.injEq, Prod.mk.injEq] at hl
        obtain ⟨rfl, rfl⟩ := hl
        have e : (l'.take n).length = n := by rw [List.length_take]; omega
        refine ⟨?_, by dsimp only; rw [e]; exact a2⟩
        unfold txB
        rw [e, a1, List.append_assoc, List.take_append_drop]
      · simp only [if_neg hn] at hl; cases hl

/-! Tables. -/
structure Tb where
  modes : List (List UInt8)
  labels : List (List UInt8)
  cuts : List (Int × Int)
  acts : List (List (Int × Int))
  classes : List Int
  count : Int
  starts : List Int
  label : List Int
  base : List Int
  dflt : List Int
  next : List Int
  check : List Int
instance : Inhabited Tb := ⟨⟨[], [], [], [], [], 0, [], [], [], [], [], []⟩⟩
/-- What is laid, list by list. -/
structure Rc where
  modes : List (List UInt8 × Int)
  rules : List (List UInt8 × ((Int × Int) × List (Int × Int)))
  count : Int
  classes : List Int
  states : List (Int × (Int × Int))
  slots : List (Int × Int)
def rcOf (t : Tb) : Rc := ⟨t.modes.zip t.starts, t.labels.zip (t.cuts.zip t.acts), t.count, t.classes, t.label.zip (t.base.zip t.dflt), t.check.zip t.next⟩
def tbOf (x : Rc) : Tb := ⟨x.modes.map (·.1), x.rules.map (·.1), x.rules.map (·.2.1), x.rules.map (·.2.2), x.classes, x.count, x.modes.map (·.2), x.states.map (·.1), x.states.map (·.2.1), x.states.map (·.2.2), x.slots.map (·.2), x.slots.map (·.1)⟩
theorem zip_unzip {α β : Type} (l : List (α × β)) : (l.map (·.1)).zip (l.map (·.2)) = l := by
  induction l with
  | nil => rfl
  | cons a l ih => simp [ih]
theorem zip_fst {α β : Type} : ∀ (a : List α) (b : List β), a.length ≤ b.length → (a.zip b).map (·.1) = a
  | [], _, _ => by simp
  | a :: l, [], h => by simp at h
  | a :: l, b :: m, h => by simp at h; simp [zip_fst l m h]
theorem zip_snd {α β : Type} : ∀ (a : List α) (b : List β), b.length ≤ a.length → (a.zip b).map (·.2) = b
  | _, [], _ => by simp
  | [], b :: m, h => by simp at h
  | a :: l, b :: m, h => by simp at h; simp [zip_snd l m h]
theorem rcOf_tbOf (x : Rc) : rcOf (tbOf x) = x := by
  obtain ⟨m, r, c, cl, s, sl⟩ := x
  simp only [rcOf, tbOf, Rc.mk.injEq, true_and]
  refine ⟨zip_unzip m, ?_, ?_, zip_unzip sl⟩
  · have h := zip_unzip (r.map (·.2)); rw [List.map_map, List.map_map] at h
    have h2 : (r.map (·.2.1)).zip (r.map (·.2.2)) = r.map (·.2) := h
    rw [h2]; exact zip_unzip r
  · have h := zip_unzip (s.map (·.2)); rw [List.map_map, List.map_map] at h
    have h2 : (s.map (·.2.1)).zip (s.map (·.2.2)) = s.map (·.2) := h
    rw [h2]; exact zip_unzip s
theorem tbOf_rcOf (t : Tb) (h1 : t.starts.length = t.modes.length) (h2 : t.cuts.length = t.labels.length) (h3 : t.acts.length = t.labels.length) (h4 : t.label.length = t.base.length) (h5 : t.dflt.length = t.base.length) (h6 : t.check.length = t.next.length) : tbOf (rcOf t) = t := by
  obtain ⟨mo, la, cu, ac, cl, co, st, lb, ba, df, ne, ch⟩ := t
  simp only at h1 h2 h3 h4 h5 h6
  have e1 : (cu.zip ac).length = la.length := by rw [List.length_zip]; omega
  have e2 : (ba.zip df).length = lb.length := by rw [List.length_zip]; omega
  have c1 : (la.zip (cu.zip ac)).map (·.2) = cu.zip ac := zip_snd _ _ (by omega)
  have c2 : (lb.zip (ba.zip df)).map (·.2) = ba.zip df := zip_snd _ _ (by omega)
  simp only [tbOf, rcOf, Tb.mk.injEq, true_and]
  refine ⟨zip_fst _ _ (by omega), zip_fst _ _ (by omega), ?_, ?_, zip_snd _ _ (by omega), zip_fst _ _ (by omega), ?_, ?_, zip_snd _ _ (by omega), zip_fst _ _ (by omega)⟩
  · have : (la.zip (cu.zip ac)).map (·.2.1) = ((la.zip (cu.zip ac)).map (·.2)).map (·.1) := by rw [List.map_map]; rfl
    rw [this, c1]; exact zip_fst _ _ (by omega)
  · have : (la.zip (cu.zip ac)).map (·.2.2) = ((la.zip (cu.zip ac)).map (·.2)).map (·.2) := by rw [List.map_map]; rfl
    rw [this, c1]; exact zip_snd _ _ (by omega)
  · have : (lb.zip (ba.zip df)).map (·.2.1) = ((lb.zip (ba.zip df)).map (·.2)).map (·.1) := by rw [List.map_map]; rfl
    rw [this, c2]; exact zip_fst _ _ (by omega)
  · have : (lb.zip (ba.zip df)).map (·.2.2) = ((lb.zip (ba.zip df)).map (·.2)).map (·.2) := by rw [List.map_map]; rfl
    rw [this, c2]; exact zip_snd _ _ (by omega)

def letB (c : UInt8) : Bool := (decide (97 ≤ c.toNat) && decide (c.toNat ≤ 122)) || ((decide (65 ≤ c.toNat) && decide (c.toNat ≤ 90)) || decide (c.toNat = 95))
def digB (c : UInt8) : Bool := decide (48 ≤ c.toNat) && decide (c.toNat ≤ 57)
/-- A text that may be a name. -/
def nameB : List UInt8 → Bool
  | [] => false
  | c :: r => decide (r.length + 1 ≤ 32) && (letB c && r.all fun d => letB d || digB d)
theorem nameB_len {s : List UInt8} (h : nameB s = true) : s.length ≤ 32 := by
  cases s with
  | nil => simp
  | cons c r => simp only [nameB, Bool.and_eq_true, decide_eq_true_eq] at h; simpa using h.1
def cutB (c : Int × Int) : Bool := decide (c.1 = 0 ∧ c.2 = 0) || (decide (c.1 = 1 ∧ 0 ≤ c.2 ∧ c.2 ≤ 65536) || decide (c.1 = 2 ∧ 1 ≤ c.2 ∧ c.2 ≤ 65536))
def actB (m : Nat) (a : Int × Int) : Bool := decide ((a.1 = 1 ∨ a.1 = 2) ∧ 0 ≤ a.2 ∧ a.2 < m) || decide (a.1 = 3 ∧ a.2 = 0)
def actsB (m : Nat) (l : List (Int × Int)) : Bool := l.all (actB m) && decide (l.length ≤ 8)
def ruleB (m : Nat) (x : List UInt8 × ((Int × Int) × List (Int × Int))) : Bool := nameB x.1 && (cutB x.2.1 && actsB m x.2.2)
def ruledB (t : Tb) : Bool := decide (t.labels.length ≤ 200 ∧ t.cuts.length = t.labels.length ∧ t.acts.length = t.labels.length) && (t.labels.zip (t.cuts.zip t.acts)).all (ruleB t.modes.length)
def clsGo : Int → List Int → Option Int
  | n, [] => some n
  | n, c :: r => if c < 0 ∨ n < c then none else clsGo (max n (c + 1)) r
def classesB (l : List Int) (count : Int) : Bool := decide (l.length = 256) && decide (clsGo 0 l = some count)
def rowB (i : Nat) (x : Int × Int) : Bool := decide (0 ≤ x.1 ∧ x.1 ≤ 262144 ∧ -1 ≤ x.2 ∧ x.2 < i)
def slotB (n slots : Nat) (classes : Int) (base : List Int) (i : Nat) (x : Int × Int) : Bool :=
  decide (-1 ≤ x.1 ∧ x.1 < n ∧ -1 ≤ x.2 ∧ x.2 < n) && (decide (x.1 = -1 → x.2 = -1 ∧ i + 1 ≠ slots) && decide (0 ≤ x.1 → base.getD x.1.toNat 0 ≤ i ∧ (i : Int) < base.getD x.1.toNat 0 + classes))
/-- Of a list each part with its place. -/
def allI {α : Type} (f : Nat → α → Bool) : Nat → List α → Bool
  | _, [] => true
  | i, a :: l => f i a && allI f (i + 1) l
def combB (t : Tb) : Bool := decide (1 ≤ t.count ∧ t.count ≤ 256 ∧ 1 ≤ t.base.length ∧ t.base.length ≤ 600 ∧ t.next.length ≤ 262144 ∧ t.dflt.length = t.base.length ∧ t.check.length = t.next.length) &&
  (allI rowB 0 (t.base.zip t.dflt) && allI (slotB t.base.length t.next.length t.count t.base) 0 (t.check.zip t.next))
def modeB (modes : List (List UInt8)) (n : Nat) (i : Nat) (x : List UInt8 × Int) : Bool := nameB x.1 && (!(modes.take i).contains x.1 && decide (0 ≤ x.2 ∧ x.2 < n))
def labB (r : Nat) (x : Int) : Bool := decide (-1 ≤ x ∧ x < r)
/-- Whether tables may be. -/
def mayB (t : Tb) : Bool := decide (1 ≤ t.modes.length ∧ t.modes.length ≤ 16 ∧ t.starts.length = t.modes.length) && (ruledB t && (classesB t.classes t.count && (combB t && (decide (t.label.length = t.base.length) &&
  (allI (modeB t.modes t.label.length) 0 (t.modes.zip t.starts) && t.label.all (labB t.labels.length))))))

/-! Tables as bytes. -/
def headB : List UInt8 := [66, 76, 84, 1]
def encM (x : List UInt8 × Int) : List UInt8 := txB x.1 ++ varB x.2.toNat
def encA (a : Int × Int) : List UInt8 := varB a.1.toNat ++ varB a.2.toNat
def encL (l : List (Int × Int)) : List UInt8 := varB l.length ++ l.flatMap encA
def encR (x : List UInt8 × ((Int × Int) × List (Int × Int))) : List UInt8 := txB x.1 ++ (encA x.2.1 ++ encL x.2.2)
def encS (x : Int × (Int × Int)) : List UInt8 := varB (x.1 + 1).toNat ++ (varB x.2.1.toNat ++ varB (x.2.2 + 1).toNat)
def encC (x : Int × Int) : List UInt8 := varB (x.1 + 1).toNat ++ (if 0 ≤ x.1 then varB (x.2 + 1).toNat else [])
def encI (n : Int) : List UInt8 := varB n.toNat
def encRc (x : Rc) : List UInt8 := (varB x.modes.length ++ x.modes.flatMap encM) ++ ((varB x.rules.length ++ x.rules.flatMap encR) ++ (encI x.count ++ (x.classes.flatMap encI ++ ((varB x.states.length ++ x.states.flatMap encS) ++ (varB x.slots.length ++ x.slots.flatMap encC)))))
def encT (t : Tb) : List UInt8 := headB ++ encRc (rcOf t)

end Go.Proofs.YtkkopdmemjncdaaGreatDoor

/- Images, plain: tables read back; whatever is read is written so. No condition. -/
namespace Go.Proofs.YtkkopdmemjncdaaGreatDoor

theorem varB_len1 {n : Nat} (h : n < 128) : (varB n).length = 1 := by rw [varB_small h]; rfl
theorem varB_len2 {n : Nat} (h : n < 16384) : (varB n).length ≤ 2 := by
  by_cases h1 : n < 128
  · rw [varB_small h1]; simp
  · rw [varB_big h1, varB_small (by omega)]; simp
theorem allI_iff {α : Type} {f : Nat → α → Bool} : ∀ {l : List α} {i : Nat}, allI f i l = true ↔ ∀ k a, l[k]? = some a → f (i + k) a = true
  | [], i => ⟨fun _ k a h => by simp at h, fun _ => rfl⟩
  | x :: l, i => by
    rw [allI, Bool.and_eq_true, allI_iff]
    refine ⟨fun ⟨h1, h2⟩ k a h => ?_, fun h => ⟨h 0 x rfl, fun k a hk => ?_⟩⟩
    · cases k with
      | zero => simp at h; subst h; exact h1
      | succ k => have := h2 k a (by simpa using h); rw [show i + 1 + k = i + (k + 1) by omega] at this; exact this
    · have := h (k + 1) a (by simpa using hk); rw [show i + (k + 1) = i + 1 + k by omega] at this; exact this
theorem allI_mem {α : Type} {f : Nat → α → Bool} {l : List α} (h : allI f 0 l = true) {a : α} (ha : a ∈ l) : ∃ k, k < l.length ∧ f k a = true := by
  obtain ⟨k, hk, rfl⟩ := List.mem_iff_getElem.1 ha
  have := allI_iff.1 h k l[k] (List.getElem?_eq_getElem hk)
  rw [Nat.zero_add] at this
  exact ⟨k, hk, this⟩
theorem allI_take {α : Type} (f : Nat → α → Bool) (l : List α) (k : Nat) (a : α) (h : l[k]? = some a) : allI f 0 (l.take (k + 1)) = (allI f 0 (l.take k) && f k a) := by
  have aux : ∀ (l : List α) (i : Nat) (b : α), allI f i (l ++ [b]) = (allI f i l && f (i + l.length) b) := fun l => by
    induction l with
    | nil => intro i b; simp [allI]
    | cons x l ih => intro i b; simp only [List.cons_append, allI, ih, List.length_cons, Bool.and_assoc]; rw [show i + 1 + l.length = i + (l.length + 1) by omega]
  obtain ⟨hk, rfl⟩ := List.getElem?_eq_some_iff.1 h
  rw [List.take_succ_eq_append_getElem hk, aux, List.length_take, Nat.zero_add, show min k l.length = k by omega]
theorem allI_false {α : Type} {f : Nat → α → Bool} {l : List α} {k : Nat} {a : α} (h : l[k]? = some a) (hf : f k a = false) : allI f 0 l = false := by
  cases hh : allI f 0 l with
  | false => rfl
  | true => have := allI_iff.1 hh k a h; rw [Nat.zero_add, hf] at this; cases this
theorem all_take {α : Type} (f : α → Bool) (l : List α) (k : Nat) (a : α) (h : l[k]? = some a) : (l.take (k + 1)).all f = ((l.take k).all f && f a) := by
  obtain ⟨hk, rfl⟩ := List.getElem?_eq_some_iff.1 h
  rw [List.take_succ_eq_append_getElem hk, List.all_append]
  simp only [List.all_cons, List.all_nil, Bool.and_true]
theorem all_false {α : Type} {f : α → Bool} {l : List α} {k : Nat} {a : α} (h : l[k]? = some a) (hf : f a = false) : l.all f = false := by
  cases hh : l.all f with
  | false => rfl
  | true => have := List.all_eq_true.1 hh a (List.mem_of_getElem? h); rw [hf] at this; cases this
theorem clsGo_lt : ∀ (l : List Int) (n m : Int), clsGo n l = some m → n ≤ m ∧ ∀ c ∈ l, 0 ≤ c ∧ c < m
  | [], n, m, h => by simp only [clsGo, Option.some.injEq] at h; exact ⟨by omega, fun c h => by cases h⟩
  | c :: l, n, m, h => by
    rw [clsGo] at h
    by_cases hc : c < 0 ∨ n < c
    · rw [if_pos hc] at h; cases h
    · rw [if_neg hc] at h
      obtain ⟨h1, h2⟩ := clsGo_lt l _ m h
      refine ⟨by omega, fun d hd => ?_⟩
      rcases List.mem_cons.1 hd with rfl | hd
      · omega
      · exact h2 d hd

/-! Readers. -/
def iR (most : Nat) : List UInt8 → Option (Int × List UInt8) := mapR (numR most) (fun n => (n : Int))
def dR (most : Nat) : List UInt8 → Option (Int × List UInt8) := mapR (numR most) (fun n => (n : Int) - 1)
theorem cod_i (most : Nat) : Cod (iR most) encI (fun x => 0 ≤ x ∧ x ≤ most) :=
  (cod_num most).map _ Int.toNat _ _ (fun b hb => ⟨by omega, by omega, rfl⟩) (fun a ha => ⟨⟨by omega, by omega⟩, by unfold encI; rw [Int.toNat_natCast]⟩)
theorem cod_d (most : Nat) : Cod (dR most) (fun x => varB (x + 1).toNat) (fun x => -1 ≤ x ∧ x + 1 ≤ most) :=
  (cod_num most).map _ (fun x => (x + 1).toNat) _ _ (fun b hb => ⟨by show (b + 1).toNat ≤ most; omega, by omega, rfl⟩) (fun a ha => ⟨⟨by omega, by omega⟩, by rw [Int.sub_add_cancel, Int.toNat_natCast]⟩)
def modeR : List UInt8 → Option ((List UInt8 × Int) × List UInt8) := seqR txR (fun _ => iR 600)
def actR (dd : Nat) : List UInt8 → Option ((Int × Int) × List UInt8) := seqR (iR dd) (fun _ => iR 16)
def cutR (kk : Nat) : List UInt8 → Option ((Int × Int) × List UInt8) := seqR (iR kk) (fun _ => iR 65536)
def ruleR (kk dd : Nat) : List UInt8 → Option ((List UInt8 × ((Int × Int) × List (Int × Int))) × List UInt8) := seqR txR (fun _ => seqR (cutR kk) (fun _ => listR 8 (actR dd)))
def stateR : List UInt8 → Option ((Int × (Int × Int)) × List UInt8) := seqR (dR 200) (fun _ => seqR (iR 262144) (fun _ => dR 600))
def nextR (c : Int) : List UInt8 → Option (Int × List UInt8) := if 0 ≤ c then dR 600 else fun l => some (-1, l)
def slotR : List UInt8 → Option ((Int × Int) × List UInt8) := seqR (dR 600) nextR
def rcR (kk dd cc : Nat) : List UInt8 → Option (Rc × List UInt8) :=
  mapR (seqR (listR 16 modeR) (fun _ => seqR (listR 200 (ruleR kk dd)) (fun _ => seqR (iR 256) (fun _ => seqR (manyR (iR cc) 256) (fun _ => seqR (listR 600 stateR) (fun _ => listR 262144 slotR))))))
    (fun x => ⟨x.1, x.2.1, x.2.2.1, x.2.2.2.1, x.2.2.2.2.1, x.2.2.2.2.2⟩)
def PM (x : List UInt8 × Int) : Prop := x.1.length ≤ 32 ∧ (0 ≤ x.2 ∧ x.2 ≤ (600 : Nat))
def PA (dd : Nat) (a : Int × Int) : Prop := (0 ≤ a.1 ∧ a.1 ≤ dd) ∧ (0 ≤ a.2 ∧ a.2 ≤ (16 : Nat))
def PR (kk dd : Nat) (x : List UInt8 × ((Int × Int) × List (Int × Int))) : Prop := x.1.length ≤ 32 ∧ (((0 ≤ x.2.1.1 ∧ x.2.1.1 ≤ kk) ∧ (0 ≤ x.2.1.2 ∧ x.2.1.2 ≤ (65536 : Nat))) ∧ (x.2.2.length ≤ 8 ∧ ∀ a ∈ x.2.2, PA dd a))
def PS (x : Int × (Int × Int)) : Prop := (-1 ≤ x.1 ∧ x.1 + 1 ≤ (200 : Nat)) ∧ ((0 ≤ x.2.1 ∧ x.2.1 ≤ (262144 : Nat)) ∧ (-1 ≤ x.2.2 ∧ x.2.2 + 1 ≤ (600 : Nat)))
def PC (x : Int × Int) : Prop := (-1 ≤ x.1 ∧ x.1 + 1 ≤ (600 : Nat)) ∧ (if 0 ≤ x.1 then -1 ≤ x.2 ∧ x.2 + 1 ≤ (600 : Nat) else x.2 = -1)
def PRc (kk dd cc : Nat) (x : Rc) : Prop := (x.modes.length ≤ 16 ∧ ∀ a ∈ x.modes, PM a) ∧ ((x.rules.length ≤ 200 ∧ ∀ a ∈ x.rules, PR kk dd a) ∧ ((0 ≤ x.count ∧ x.count ≤ (256 : Nat)) ∧ ((x.classes.length = 256 ∧ ∀ a ∈ x.classes, 0 ≤ a ∧ a ≤ cc) ∧ ((x.states.length ≤ 600 ∧ ∀ a ∈ x.states, PS a) ∧ (x.slots.length ≤ 262144 ∧ ∀ a ∈ x.slots, PC a)))))
theorem cod_mode : Cod modeR encM PM := cod_tx.seq (fun _ _ => cod_i 600)
theorem cod_act (dd : Nat) : Cod (actR dd) encA (PA dd) := (cod_i dd).seq (fun _ _ => cod_i 16)
theorem cod_cut (kk : Nat) : Cod (cutR kk) encA (fun a => (0 ≤ a.1 ∧ a.1 ≤ kk) ∧ (0 ≤ a.2 ∧ a.2 ≤ (65536 : Nat))) := (cod_i kk).seq (fun _ _ => cod_i 65536)
theorem cod_rule (kk dd : Nat) : Cod (ruleR kk dd) encR (PR kk dd) := cod_tx.seq (fun _ _ => (cod_cut kk).seq (fun _ _ => (cod_act dd).list 8))
theorem cod_state : Cod stateR encS PS := (cod_d 200).seq (fun _ _ => (cod_i 262144).seq (fun _ _ => cod_d 600))
theorem cod_slot : Cod slotR encC PC := (cod_d 600).seq (e' := fun (c x : Int) => if 0 ≤ c then varB (x + 1).toNat else []) (P' := fun (c x : Int) => if 0 ≤ c then -1 ≤ x ∧ x + 1 ≤ (600 : Nat) else x = -1) (fun c _ => by
  unfold nextR
  by_cases hc : 0 ≤ c
  · simp only [if_pos hc]; exact cod_d 600
  · simp only [if_neg hc]
    exact ⟨fun a r h => by rw [h]; rfl, fun l a r h => by
      simp only [Option.some.injEq, Prod.mk.injEq] at h
      obtain ⟨rfl, rfl⟩ := h
      exact ⟨rfl, rfl⟩⟩)
theorem cod_rc (kk dd cc : Nat) : Cod (rcR kk dd cc) encRc (PRc kk dd cc) :=
  (((cod_mode.list 16).seq (fun _ _ => ((cod_rule kk dd).list 200).seq (fun _ _ => (cod_i 256).seq (fun _ _ => ((cod_i cc).many 256).seq (fun _ _ => (cod_state.list 600).seq (fun _ _ => cod_slot.list 262144)))))).map
    _ (fun x : Rc => (x.modes, x.rules, x.count, x.classes, x.states, x.slots)) _ _ (fun b hb => ⟨hb, rfl, rfl⟩) (fun a ha => ⟨ha, rfl⟩))

/-- What mayB says. -/
theorem may_prc {t : Tb} (h : mayB t = true) (kk dd cc : Nat) (h2 : 2 ≤ kk) (h3 : 3 ≤ dd) (h4 : 255 ≤ cc) : PRc kk dd cc (rcOf t) ∧ tbOf (rcOf t) = t := by
  unfold mayB at h
  simp only [Bool.and_eq_true, decide_eq_true_eq] at h
  obtain ⟨⟨m1, m2, m3⟩, hr, hc, hb, hl, hm, hlab⟩ := h
  unfold ruledB at hr
  simp only [Bool.and_eq_true, decide_eq_true_eq] at hr
  obtain ⟨⟨r1, r2, r3⟩, r4⟩ := hr
  unfold classesB at hc
  simp only [Bool.and_eq_true, decide_eq_true_eq] at hc
  obtain ⟨c1, c2⟩ := hc
  unfold combB at hb
  simp only [Bool.and_eq_true, decide_eq_true_eq] at hb
  obtain ⟨⟨b1, b2, b3, b4, b5, b6, b7⟩, b8, b9⟩ := hb
  obtain ⟨_, c3⟩ := clsGo_lt _ _ _ c2
  refine ⟨⟨⟨by simp [rcOf]; omega, fun a ha => ?_⟩, ⟨by simp [rcOf]; omega, fun a ha => ?_⟩, ⟨by show 0 ≤ t.count; omega, by show t.count ≤ _; omega⟩, ⟨c1, fun a ha => ?_⟩, ⟨by simp [rcOf]; omega, fun a ha => ?_⟩, ⟨by simp [rcOf]; omega, fun a ha => ?_⟩⟩, tbOf_rcOf t m3 r2 r3 hl b6 b7⟩
  · obtain ⟨k, _, hk⟩ := allI_mem hm ha
    unfold modeB at hk
    simp only [Bool.and_eq_true, decide_eq_true_eq] at hk
    obtain ⟨k1, _, k2, k3⟩ := hk
    exact ⟨nameB_len k1, k2, by omega⟩
  · have hk := List.all_eq_true.1 r4 a ha
    unfold ruleB at hk
    simp only [Bool.and_eq_true] at hk
    obtain ⟨k1, k2, k3⟩ := hk
    unfold cutB at k2
    simp only [Bool.or_eq_true, decide_eq_true_eq] at k2
    unfold actsB at k3
    simp only [Bool.and_eq_true, decide_eq_true_eq] at k3
    refine ⟨nameB_len k1, ⟨⟨by omega, by omega⟩, by omega, by omega⟩, k3.2, fun x hx => ?_⟩
    have hx1 := List.all_eq_true.1 k3.1 x hx
    unfold actB at hx1
    simp only [Bool.or_eq_true, decide_eq_true_eq] at hx1
    exact ⟨⟨by omega, by omega⟩, by omega, by omega⟩
  · have := c3 a ha
    exact ⟨this.1, by omega⟩
  · have ha1 : a.1 ∈ t.label := (List.of_mem_zip ha).1
    have ha2 : a.2 ∈ t.base.zip t.dflt := (List.of_mem_zip ha).2
    have k1 := List.all_eq_true.1 hlab a.1 ha1
    unfold labB at k1
    simp only [decide_eq_true_eq] at k1
    obtain ⟨k, hk0, hk⟩ := allI_mem b8 ha2
    rw [List.length_zip] at hk0
    unfold rowB at hk
    simp only [decide_eq_true_eq] at hk
    exact ⟨⟨k1.1, by omega⟩, ⟨hk.1, by omega⟩, hk.2.2.1, by omega⟩
  · obtain ⟨k, hk0, hk⟩ := allI_mem b9 ha
    unfold slotB at hk
    simp only [Bool.and_eq_true, decide_eq_true_eq] at hk
    obtain ⟨⟨k1, k2, k3, k4⟩, k5, _⟩ := hk
    refine ⟨⟨k1, by omega⟩, ?_⟩
    by_cases h0 : 0 ≤ a.1
    · rw [if_pos h0]; exact ⟨k3, by omega⟩
    · rw [if_neg h0]; exact (k5 (by omega)).1

/-- Tables of bytes. -/
def decT (kk dd cc : Nat) (b : List UInt8) : Option Tb :=
  if 4 ≤ b.length ∧ b.length ≤ 2097152 ∧ b.take 4 = headB then match rcR kk dd cc (b.drop 4) with
    | some (x, []) => if mayB (tbOf x) then some (tbOf x) else none
    | _ => none
  else none
theorem flat_len {α : Type} (e : α → List UInt8) (K : Nat) : ∀ (l : List α), (∀ a ∈ l, (e a).length ≤ K) → (l.flatMap e).length ≤ l.length * K
  | [], _ => by simp
  | a :: l, h => by
    have h1 := h a (by simp)
    have h2 := flat_len e K l (fun x hx => h x (by simp [hx]))
    rw [List.flatMap_cons, List.length_append, List.length_cons, Nat.add_mul]; omega
theorem encT_len {t : Tb} (h : mayB t = true) : (encT t).length ≤ 2097152 := by
  obtain ⟨⟨⟨m1, m2⟩, ⟨r1, r2⟩, ⟨n1, n2⟩, ⟨c1, c2⟩, ⟨s1, s2⟩, ⟨k1, k2⟩⟩, _⟩ := may_prc h 2 3 255 (by omega) (by omega) (by omega)
  unfold encT
  generalize rcOf t = x at *
  have tx : ∀ s : List UInt8, s.length ≤ 32 → (txB s).length ≤ 33 := fun s hs => by
    unfold txB; rw [List.length_append, varB_len1 (by omega)]; omega
  have f1 := flat_len encM 35 x.modes (fun a ha => by
    obtain ⟨h1, h2, h3⟩ := m2 a ha
    unfold encM; rw [List.length_append]
    have := tx a.1 h1
    have := varB_len2 (n := a.2.toNat) (by omega)
    omega)
  have ea : ∀ a : Int × Int, PA 3 a → (encA a).length ≤ 2 := fun a ha => by
    obtain ⟨⟨_, h1⟩, _, h2⟩ := ha
    unfold encA; rw [List.length_append, varB_len1 (by omega), varB_len1 (by omega)]; omega
  have f2 := flat_len encR 56 x.rules (fun a ha => by
    obtain ⟨h1, ⟨⟨h2, h3⟩, h4, h5⟩, h6, h7⟩ := r2 a ha
    unfold encR encL
    rw [List.length_append, List.length_append, List.length_append, varB_len1 (by omega)]
    have := tx a.1 h1
    have g1 := flat_len encA 2 a.2.2 (fun y hy => ea y (h7 y hy))
    have g2 : (encA a.2.1).length ≤ 4 := by
      unfold encA; rw [List.length_append, varB_len1 (by omega)]
      have := varB_len3 a.2.1.2.toNat (by omega); omega
    omega)
  have f3 := flat_len encI 2 x.classes (fun a ha => by
    obtain ⟨h1, h2⟩ := c2 a ha
    exact varB_len2 (by omega))
  have f4 := flat_len encS 7 x.states (fun a ha => by
    obtain ⟨⟨h1, h2⟩, ⟨h3, h4⟩, h5, h6⟩ := s2 a ha
    unfold encS
    rw [List.length_append, List.length_append]
    have := varB_len2 (n := (a.1 + 1).toNat) (by omega)
    have := varB_len3 a.2.1.toNat (by omega)
    have := varB_len2 (n := (a.2.2 + 1).toNat) (by omega)
    omega)
  have f5 := flat_len encC 4 x.slots (fun a ha => by
    obtain ⟨⟨h1, h2⟩, h3⟩ := k2 a ha
    unfold encC
    rw [List.length_append]
    have := varB_len2 (n := (a.1 + 1).toNat) (by omega)
    by_cases h0 : 0 ≤ a.1
    · rw [if_pos h0] at h3 ⊢
      have := varB_len2 (n := (a.2 + 1).toNat) (by omega)
      omega
    · rw [if_neg h0]; simp; omega)
  have g1 := varB_len3 x.modes.length (by omega)
  have g2 := varB_len3 x.rules.length (by omega)
  have g3 := varB_len3 x.states.length (by omega)
  have g4 := varB_len3 x.slots.length (by omega)
  have g5 : (encI x.count).length ≤ 3 := varB_len3 _ (by omega)
  unfold encRc headB
  simp only [List.length_append, List.length_cons, List.length_nil]
  omega

/-- What is read is what is written, and may be. -/
theorem dec_enc {t : Tb} (h : mayB t = true) (kk dd cc : Nat) (h2 : 2 ≤ kk) (h3 : 3 ≤ dd) (h4 : 255 ≤ cc) : decT kk dd cc (encT t) = some t := by
  obtain ⟨h5, h6⟩ := may_prc h kk dd cc h2 h3 h4
  have h7 := encT_len h
  have h8 := (cod_rc kk dd cc).1 (rcOf t) [] h5
  rw [List.append_nil] at h8
  unfold decT
  have e1 : (encT t).drop 4 = encRc (rcOf t) := rfl
  have e2 : (encT t).take 4 = headB := rfl
  have e3 : 4 ≤ (encT t).length := by unfold encT headB; simp only [List.length_append, List.length_cons, List.length_nil]; omega
  rw [if_pos ⟨e3, h7, e2⟩, e1, h8]
  simp only [h6, if_pos h]
theorem enc_dec {kk dd cc : Nat} {b : List UInt8} {t : Tb} (h : decT kk dd cc b = some t) : mayB t = true ∧ encT t = b := by
  unfold decT at h
  by_cases h1 : 4 ≤ b.length ∧ b.length ≤ 2097152 ∧ b.take 4 = headB
  · rw [if_pos h1] at h
    cases hr : rcR kk dd cc (b.drop 4) with
    | none => rw [hr] at h; cases h
    | some y =>
      obtain ⟨x, r⟩ := y
      rw [hr] at h
      cases r with
      | cons c r => cases h
      | nil =>
        dsimp only at h
        by_cases hm : mayB (tbOf x) = true
        · rw [if_pos hm] at h
          injection h with h
          subst h
          refine ⟨hm, ?_⟩
          obtain ⟨h2, _⟩ := (cod_rc kk dd cc).2 _ _ _ hr
          unfold encT
          rw [rcOf_tbOf, ← List.take_append_drop 4 b, h1.2.2, h2, List.append_nil]
        · rw [if_neg hm] at h; cases h
  · rw [if_neg h1] at h; cases h
/-- The two readers read alike. -/
theorem dec_same (b : List UInt8) : decT 9 9 256 b = decT 2 3 255 b := by
  cases h : decT 2 3 255 b with
  | some t =>
    obtain ⟨h1, rfl⟩ := enc_dec h
    exact dec_enc h1 _ _ _ (by omega) (by omega) (by omega)
  | none =>
    cases h2 : decT 9 9 256 b with
    | none => rfl
    | some t =>
      obtain ⟨h3, rfl⟩ := enc_dec h2
      rw [dec_enc h3 _ _ _ (by omega) (by omega) (by omega)] at h
      cases h
/-- A beginning is none; nor is it with more behind it. -/
theorem dec_part {t : Tb} (h : mayB t = true) (n : Nat) (hn : n < (encT t).length) : decT 2 3 255 ((encT t).take n) = none := by
  cases h2 : decT 2 3 255 ((encT t).take n) with
  | none => rfl
  | some u =>
    obtain ⟨h3, h4⟩ := enc_dec h2
    have p1 := (may_prc h 2 3 255 (by omega) (by omega) (by omega)).1
    have p2 := (may_prc h3 2 3 255 (by omega) (by omega) (by omega)).1
    have e1 := (cod_rc 2 3 255).1 (rcOf t) [] p1
    have e2 := (cod_rc 2 3 255).1 (rcOf u) ((encT t).drop n) p2
    have e3 : encRc (rcOf t) ++ [] = encRc (rcOf u) ++ (encT t).drop n := by
      have a1 := List.take_append_drop n (encT t)
      rw [← h4] at a1
      unfold encT at a1
      rw [List.append_assoc] at a1
      rw [List.append_nil]
      have := List.append_cancel_left a1
      unfold encT
      exact this.symm
    rw [e3, e2] at e1
    injection e1 with e1; injection e1 with _ e1
    have := congrArg List.length e1
    rw [List.length_drop, List.length_nil] at this
    omega
theorem dec_more {t : Tb} (h : mayB t = true) (c : UInt8) : decT 2 3 255 (encT t ++ [c]) = none := by
  cases h2 : decT 2 3 255 (encT t ++ [c]) with
  | none => rfl
  | some u =>
    obtain ⟨h3, h4⟩ := enc_dec h2
    have p1 := (may_prc h 2 3 255 (by omega) (by omega) (by omega)).1
    have p2 := (may_prc h3 2 3 255 (by omega) (by omega) (by omega)).1
    have e1 := (cod_rc 2 3 255).1 (rcOf t) [c] p1
    have e2 := (cod_rc 2 3 255).1 (rcOf u) [] p2
    have e3 : encRc (rcOf u) ++ [] = encRc (rcOf t) ++ [c] := by
      unfold encT at h4
      rw [List.append_assoc] at h4
      rw [List.append_nil]
      exact List.append_cancel_left h4
    rw [e3, e1] at e2
    injection e2 with e2; injection e2 with _ e2
    cases e2

end Go.Proofs.YtkkopdmemjncdaaGreatDoor
