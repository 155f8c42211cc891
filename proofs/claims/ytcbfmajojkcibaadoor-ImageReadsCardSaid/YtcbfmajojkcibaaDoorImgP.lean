/- Images, plain: numbers as bytes, tables as bytes, there and back. No condition. -/
import Derived.Lib.Join
namespace Go.Proofs.YtcbfmajojkcibaaDoor

/-! Numbers as bytes. -/
def varB (n : Nat) : List UInt8 := if _h : n < 128 then [UInt8.ofNat n] else UInt8.ofNat (128 + n % 128) :: varB (n / 128)
termination_by n
decreasing_by omega
theorem varB_small {n : Nat} (h : n < 128) : varB n = [UInt8.ofNat n] := by rw [varB, dif_pos h]
theorem varB_big {n : Nat} (h : ¬ n < 128) : varB n = UInt8.ofNat (128 + n % 128) :: varB (n / 128) := by rw [varB, dif_neg h]
theorem varB_pos (n : Nat) : 0 < (varB n).length := by
  by_cases h : n < 128
  · rw [varB_small h]; simp
  · rw [varB_big h]; simp
theorem varB_len3 (n : Nat) (h : n < 2097152) : (varB n).length ≤ 3 := by
  by_cases h1 : n < 128
  · rw [varB_small h1]; simp
  · rw [varB_big h1]
    by_cases h2 : n / 128 < 128
    · rw [varB_small h2]; simp
    · rw [varB_big h2, varB_small (by omega)]; simp
/-- A number from the front, written as it is to be. -/
def rdV : List UInt8 → Option (Nat × List UInt8)
  | [] => none
  | c :: r => if c.toNat < 128 then some (c.toNat, r) else match rdV r with
    | some (n, r') => if n = 0 then none else some (c.toNat % 128 + 128 * n, r')
    | none => none
theorem rdV_var (n : Nat) (r : List UInt8) : rdV (varB n ++ r) = some (n, r) := by
  induction n using Nat.strongRecOn with
  | _ n ih =>
    by_cases h : n < 128
    · rw [varB_small h]
      have e : (UInt8.ofNat n).toNat = n := by rw [UInt8.toNat_ofNat_of_lt' (by show _ < 256; omega)]
      simp only [List.cons_append, List.nil_append, rdV, e, if_pos h]
    · rw [varB_big h]
      have e : (UInt8.ofNat (128 + n % 128)).toNat = 128 + n % 128 := by rw [UInt8.toNat_ofNat_of_lt' (by show _ < 256; omega)]
      simp only [List.cons_append, rdV, e, ih (n / 128) (by omega)]
      rw [if_neg (by omega), if_neg (by omega)]
      congr 2; omega
theorem var_rdV : ∀ (l : List UInt8) (n : Nat) (r : List UInt8), rdV l = some (n, r) → l = varB n ++ r
  | [], n, r, h => by simp [rdV] at h
  | c :: l, n, r, h => by
    rw [rdV] at h
    have hc : c.toNat < 256 := c.toNat_lt
    by_cases h1 : c.toNat < 128
    · rw [if_pos h1] at h
      injection h with h; injection h with h2 h3
      subst h2 h3
      rw [varB_small h1]; simp
    · rw [if_neg h1] at h
      cases hr : rdV l with
      | none => rw [hr] at h; cases h
      | some x =>
        obtain ⟨m, r'⟩ := x
        rw [hr] at h
        by_cases h2 : m = 0
        · simp only [if_pos h2] at h; cases h
        · simp only [if_neg h2] at h
          injection h with h; injection h with h3 h4
          subst h4
          have ih := var_rdV l m r' hr
          rw [varB_big (by omega), ← h3]
          have e1 : (c.toNat % 128 + 128 * m) / 128 = m := by omega
          have e2 : (c.toNat % 128 + 128 * m) % 128 = c.toNat % 128 := by omega
          rw [e1, e2, show 128 + c.toNat % 128 = c.toNat by omega, UInt8.ofNat_toNat, ih]
          rfl
/-- .. of so much at most. -/
def numR (most : Nat) (l : List UInt8) : Option (Nat × List UInt8) := match rdV l with
  | some (n, r) => if n ≤ most then some (n, r) else none
  | none => none
theorem numR_var {most n : Nat} (r : List UInt8) (h : n ≤ most) : numR most (varB n ++ r) = some (n, r) := by
  unfold numR; rw [rdV_var]; simp [h]
theorem var_numR {most n : Nat} {l r : List UInt8} (h : numR most l = some (n, r)) : l = varB n ++ r ∧ n ≤ most := by
  unfold numR at h
  cases hr : rdV l with
  | none => rw [hr] at h; cases h
  | some x =>
    obtain ⟨m, r'⟩ := x
    rw [hr] at h
    by_cases h2 : m ≤ most
    · simp only [if_pos h2, Option.some.injEq, Prod.mk.injEq] at h
      obtain ⟨rfl, rfl⟩ := h
      exact ⟨var_rdV _ _ _ hr, h2⟩
    · simp only [if_neg h2] at h; cases h

/-! Readers and what they read. -/
/-- A reader reads just what is written so. -/
def Cod {α : Type} (f : List UInt8 → Option (α × List UInt8)) (e : α → List UInt8) (P : α → Prop) : Prop :=
  (∀ a r, P a → f (e a ++ r) = some (a, r)) ∧ ∀ l a r, f l = some (a, r) → l = e a ++ r ∧ P a
theorem cod_num (most : Nat) : Cod (numR most) varB (· ≤ most) := ⟨fun _ r h => numR_var r h, fun _ _ _ h => var_numR h⟩
/-- One behind the other. -/
def seqR {α β : Type} (f : List UInt8 → Option (α × List UInt8)) (g : α → List UInt8 → Option (β × List UInt8)) (l : List UInt8) : Option ((α × β) × List UInt8) := match f l with
  | none => none
  | some (a, l') => match g a l' with
    | none => none
    | some (b, r) => some ((a, b), r)
theorem Cod.seq {α β : Type} {f : List UInt8 → Option (α × List UInt8)} {e : α → List UInt8} {P : α → Prop} {g : α → List UInt8 → Option (β × List UInt8)} {e' : α → β → List UInt8} {P' : α → β → Prop}
    (h : Cod f e P) (h' : ∀ a, P a → Cod (g a) (e' a) (P' a)) : Cod (seqR f g) (fun x => e x.1 ++ e' x.1 x.2) (fun x => P x.1 ∧ P' x.1 x.2) := by
  refine ⟨fun ⟨a, b⟩ r ⟨h1, h2⟩ => ?_, fun l ⟨a, b⟩ r hl => ?_⟩
  · unfold seqR
    rw [List.append_assoc, h.1 a _ h1]
    simp only [(h' a h1).1 b r h2]
  · unfold seqR at hl
    cases ha : f l with
    | none => rw [ha] at hl; cases hl
    | some x =>
      obtain ⟨a', l'⟩ := x
      rw [ha] at hl
      cases hb : g a' l' with
      | none => simp only [hb] at hl; cases hl
      | some y =>
        obtain ⟨b', r'⟩ := y
        simp only [hb, Option.some.injEq, Prod.mk.injEq] at hl
        obtain ⟨⟨rfl, rfl⟩, rfl⟩ := hl
        obtain ⟨h1, h2⟩ := h.2 _ _ _ ha
        obtain ⟨h3, h4⟩ := (h' _ h2).2 _ _ _ hb
        exact ⟨by rw [h1, h3, List.append_assoc], h2, h4⟩
/-- Told as something else. -/
def mapR {α β : Type} (f : List UInt8 → Option (α × List UInt8)) (t : α → β) (l : List UInt8) : Option (β × List UInt8) := match f l with
  | none => none
  | some (a, r) => some (t a, r)
theorem Cod.map {α β : Type} {f : List UInt8 → Option (α × List UInt8)} {e : α → List UInt8} {P : α → Prop} (h : Cod f e P) (t : α → β) (u : β → α) (Q : β → Prop) (e' : β → List UInt8)
    (h1 : ∀ b, Q b → P (u b) ∧ t (u b) = b ∧ e (u b) = e' b) (h2 : ∀ a, P a → Q (t a) ∧ e a = e' (t a)) : Cod (mapR f t) e' Q := by
  refine ⟨fun b r hb => ?_, fun l b r hl => ?_⟩
  · obtain ⟨a1, a2, a3⟩ := h1 b hb
    unfold mapR
    rw [← a3, h.1 _ r a1]
    simp only [a2]
  · unfold mapR at hl
    cases ha : f l with
    | none => rw [ha] at hl; cases hl
    | some x =>
      obtain ⟨a, r'⟩ := x
      simp only [ha, Option.some.injEq, Prod.mk.injEq] at hl
      obtain ⟨rfl, rfl⟩ := hl
      obtain ⟨a1, a2⟩ := h.2 _ _ _ ha
      obtain ⟨a3, a4⟩ := h2 a a2
      exact ⟨by rw [a1, a4], a3⟩
/-- So many. -/
def manyR {α : Type} (f : List UInt8 → Option (α × List UInt8)) : Nat → List UInt8 → Option (List α × List UInt8)
  | 0, l => some ([], l)
  | n + 1, l => match f l with
    | none => none
    | some (a, l') => match manyR f n l' with
      | none => none
      | some (as, r) => some (a :: as, r)
theorem Cod.many {α : Type} {f : List UInt8 → Option (α × List UInt8)} {e : α → List UInt8} {P : α → Prop} (h : Cod f e P) : ∀ n, Cod (manyR f n) (fun l => l.flatMap e) (fun l => l.length = n ∧ ∀ a ∈ l, P a)
  | 0 => ⟨fun l r hl => by
      have : l = [] := List.eq_nil_of_length_eq_zero hl.1
      subst this; rfl, fun l a r hl => by
      simp only [manyR, Option.some.injEq, Prod.mk.injEq] at hl
      obtain ⟨rfl, rfl⟩ := hl
      exact ⟨rfl, rfl, fun a h => by cases h⟩⟩
  | n + 1 => ⟨fun l r hl => by
      obtain ⟨hl1, hl2⟩ := hl
      cases l with
      | nil => simp at hl1
      | cons a as =>
        rw [manyR]; dsimp only; rw [List.flatMap_cons, List.append_assoc, h.1 a _ (hl2 a (by simp))]
        simp only [(h.many n).1 as r ⟨by simpa using hl1, fun x hx => hl2 x (by simp [hx])⟩], fun l as r hl => by
      rw [manyR] at hl
      cases ha : f l with
      | none => rw [ha] at hl; cases hl
      | some x =>
        obtain ⟨a, l'⟩ := x
        rw [ha] at hl
        cases hb : manyR f n l' with
        | none => simp only [hb] at hl; cases hl
        | some y =>
          obtain ⟨as', r'⟩ := y
          simp only [hb, Option.some.injEq, Prod.mk.injEq] at hl
          obtain ⟨rfl, rfl⟩ := hl
          obtain ⟨a1, a2⟩ := h.2 _ _ _ ha
          obtain ⟨b1, b2, b3⟩ := (h.many n).2 _ _ _ hb
          refine ⟨by dsimp only; rw [a1, b1, List.flatMap_cons, List.append_assoc], by simp [b2], fun x hx => ?_⟩
          rcases List.mem_cons.1 hx with rfl | hx
          · exact a2
          · exact b3 x hx⟩
/-- A number, and so many. -/
def listR {α : Type} (most : Nat) (f : List UInt8 → Option (α × List UInt8)) (l : List UInt8) : Option (List α × List UInt8) := match numR most l with
  | none => none
  | some (n, l') => manyR f n l'
theorem Cod.list {α : Type} {f : List UInt8 → Option (α × List UInt8)} {e : α → List UInt8} {P : α → Prop} (h : Cod f e P) (most : Nat) : Cod (listR most f) (fun l => varB l.length ++ l.flatMap e) (fun l => l.length ≤ most ∧ ∀ a ∈ l, P a) := by
  refine ⟨fun l r hl => ?_, fun l as r hl => ?_⟩
  · unfold listR
    rw [List.append_assoc, numR_var _ hl.1]
    exact (h.many l.length).1 l r ⟨rfl, hl.2⟩
  · unfold listR at hl
    cases ha : numR most l with
    | none => rw [ha] at hl; cases hl
    | some x =>
      obtain ⟨n, l'⟩ := x
      rw [ha] at hl
      obtain ⟨a1, a2⟩ := var_numR ha
      obtain ⟨b1, b2, b3⟩ := (h.many n).2 _ _ _ hl
      exact ⟨by dsimp only; rw [a1, b1, b2, List.append_assoc], by rw [b2]; exact a2, b3⟩
/-- A text. -/
def txB (s : List UInt8) : List UInt8 := varB s.length ++ s
def txR (l : List UInt8) : Option (List UInt8 × List UInt8) := match numR 32 l with
  | none => none
  | some (n, l') => if n ≤ l'.length then some (l'.take n, l'.drop n) else none
theorem cod_tx : Cod txR txB (fun s => s.length ≤ 32) := by
  refine ⟨fun s r hs => ?_, fun l s r hl => ?_⟩
  · unfold txR txB
    rw [List.append_assoc, numR_var _ hs]
    simp only [List.length_append, Nat.le_add_right, if_true, List.take_left, List.drop_left]
  · unfold txR at hl
    cases ha : numR 32 l with
    | none => rw [ha] at hl; cases hl
    | some x =>
      obtain ⟨n, l'⟩ := x
      rw [ha] at hl
      obtain ⟨a1, a2⟩ := var_numR ha
      by_cases hn : n ≤ l'.length
      · simp only [if_pos hn, Option.some.injEq, Prod.mk.injEq] at hl
        obtain ⟨rfl, rfl⟩ := hl
        have e : (l'.take n).length = n := by rw [List.length_take]; omega
        refine ⟨?_, by dsimp only; rw [e]; exact a2⟩
        unfold txB
        rw [e, a1, List.append_assoc, List.take_append_drop]
      · simp only [if_neg hn] at hl; cases hl

/-! Tables. -/
structure Tb where
  modes : List (List UInt8)
  labels : List (List UInt8)
  cuts : List (Int × Int)
  acts : List (List (Int × Int))
  classes : List Int
  count : Int
  starts : List Int
  label : List Int
  base : List Int
  dflt : List Int
  next : List Int
  check : List Int
instance : Inhabited Tb := ⟨⟨[], [], [], [], [], 0, [], [], [], [], [], []⟩⟩
/-- What is laid, list by list. -/
structure Rc where
  modes : List (List UInt8 × Int)
  rules : List (List UInt8 × ((Int × Int) × List (Int × Int)))
  count : Int
  classes : List Int
  states : List (Int × (Int × Int))
  slots : List (Int × Int)
def rcOf (t : Tb) : Rc := ⟨t.modes.zip t.starts, t.labels.zip (t.cuts.zip t.acts), t.count, t.classes, t.label.zip (t.base.zip t.dflt), t.check.zip t.next⟩
def tbOf (x : Rc) : Tb := ⟨x.modes.map (·.1), x.rules.map (·.1), x.rules.map (·.2.1), x.rules.map (·.2.2), x.classes, x.count, x.modes.map (·.2), x.states.map (·.1), x.states.map (·.2.1), x.states.map (·.2.2), x.slots.map (·.2), x.slots.map (·.1)⟩
theorem zip_unzip {α β : Type} (l : List (α × β)) : (l.map (·.1)).zip (l.map (·.2)) = l := by
  induction l with
  | nil => rfl
  | cons a l ih => simp [ih]
theorem zip_fst {α β : Type} : ∀ (a : List α) (b : List β), a.length ≤ b.length → (a.zip b).map (·.1) = a
  | [], _, _ => by simp
  | a :: l, [], h => by simp at h
  | a :: l, b :: m, h => by simp at h; simp [zip_fst l m h]
theorem zip_snd {α β : Type} : ∀ (a : List α) (b : List β), b.length ≤ a.length → (a.zip b).map (·.2) = b
  | _, [], _ => by simp
  | [], b :: m, h => by simp at h
  | a :: l, b :: m, h => by simp at h; simp [zip_snd l m h]
theorem rcOf_tbOf (x : Rc) : rcOf (tbOf x) = x := by
  obtain ⟨m, r, c, cl, s, sl⟩ := x
  simp only [rcOf, tbOf, Rc.mk.injEq, true_and]
  refine ⟨zip_unzip m, ?_, ?_, zip_unzip sl⟩
  · have h := zip_unzip (r.map (·.2)); rw [List.map_map, List.map_map] at h
    have h2 : (r.map (·.2.1)).zip (r.map (·.2.2)) = r.map (·.2) := h
    rw [h2]; exact zip_unzip r
  · have h := zip_unzip (s.map (·.2)); rw [List.map_map, List.map_map] at h
    have h2 : (s.map (·.2.1)).zip (s.map (·.2.2)) = s.map (·.2) := h
    rw [h2]; exact zip_unzip s
theorem tbOf_rcOf (t : Tb) (h1 : t.starts.length = t.modes.length) (h2 : t.cuts.length = t.labels.length) (h3 : t.acts.length = t.labels.length) (h4 : t.label.length = t.base.length) (h5 : t.dflt.length = t.base.length) (h6 : t.check.length = t.next.length) : tbOf (rcOf t) = t := by
  obtain ⟨mo, la, cu, ac, cl, co, st, lb, ba, df, ne, ch⟩ := t
  simp only at h1 h2 h3 h4 h5 h6
  have e1 : (cu.zip ac).length = la.length := by rw [List.length_zip]; omega
  have e2 : (ba.zip df).length = lb.length := by rw [List.length_zip]; omega
  have c1 : (la.zip (cu.zip ac)).map (·.2) = cu.zip ac := zip_snd _ _ (by omega)
  have c2 : (lb.zip (ba.zip df)).map (·.2) = ba.zip df := zip_snd _ _ (by omega)
  simp only [tbOf, rcOf, Tb.mk.injEq, true_and]
  refine ⟨zip_fst _ _ (by omega), zip_fst _ _ (by omega), ?_, ?_, zip_snd _ _ (by omega), zip_fst _ _ (by omega), ?_, ?_, zip_snd _ _ (by omega), zip_fst _ _ (by omega)⟩
  · have : (la.zip (cu.zip ac)).map (·.2.1) = ((la.zip (cu.zip ac)).map (·.2)).map (·.1) := by rw [List.map_map]; rfl
    rw [this, c1]; exact zip_fst _ _ (by omega)
  · have : (la.zip (cu.zip ac)).map (·.2.2) = ((la.zip (cu.zip ac)).map (·.2)).map (·.2) := by rw [List.map_map]; rfl
    rw [this, c1]; exact zip_snd _ _ (by omega)
  · have : (lb.zip (ba.zip df)).map (·.2.1) = ((lb.zip (ba.zip df)).map (·.2)).map (·.1) := by rw [List.map_map]; rfl
    rw [this, c2]; exact zip_fst _ _ (by omega)
  · have : (lb.zip (ba.zip df)).map (·.2.2) = ((lb.zip (ba.zip df)).map (·.2)).map (·.2) := by rw [List.map_map]; rfl
    rw [this, c2]; exact zip_snd _ _ (by omega)

def letB (c : UInt8) : Bool := (decide (97 ≤ c.toNat) && decide (c.toNat ≤ 122)) || ((decide (65 ≤ c.toNat) && decide (c.toNat ≤ 90)) || decide (c.toNat = 95))
def digB (c : UInt8) : Bool := decide (48 ≤ c.toNat) && decide (c.toNat ≤ 57)
/-- A text that may be a name. -/
def nameB : List UInt8 → Bool
  | [] => false
  | c :: r => decide (r.length + 1 ≤ 32) && (letB c && r.all fun d => letB d || digB d)
theorem nameB_len {s : List UInt8} (h : nameB s = true) : s.length ≤ 32 := by
  cases s with
  | nil => simp
  | cons c r => simp only [nameB, Bool.and_eq_true, decide_eq_true_eq] at h; simpa using h.1
def cutB (c : Int × Int) : Bool := decide (c.1 = 0 ∧ c.2 = 0) || (decide (c.1 = 1 ∧ 0 ≤ c.2 ∧ c.2 ≤ 65536) || decide (c.1 = 2 ∧ 1 ≤ c.2 ∧ c.2 ≤ 65536))
def actB (m : Nat) (a : Int × Int) : Bool := decide ((a.1 = 1 ∨ a.1 = 2) ∧ 0 ≤ a.2 ∧ a.2 < m) || decide (a.1 = 3 ∧ a.2 = 0)
def actsB (m : Nat) (l : List (Int × Int)) : Bool := l.all (actB m) && decide (l.length ≤ 8)
def ruleB (m : Nat) (x : List UInt8 × ((Int × Int) × List (Int × Int))) : Bool := nameB x.1 && (cutB x.2.1 && actsB m x.2.2)
def ruledB (t : Tb) : Bool := decide (t.labels.length ≤ 200 ∧ t.cuts.length = t.labels.length ∧ t.acts.length = t.labels.length) && (t.labels.zip (t.cuts.zip t.acts)).all (ruleB t.modes.length)
def clsGo : Int → List Int → Option Int
  | n, [] => some n
  | n, c :: r => if c < 0 ∨ n < c then none else clsGo (max n (c + 1)) r
def classesB (l : List Int) (count : Int) : Bool := decide (l.length = 256) && decide (clsGo 0 l = some count)
def rowB (i : Nat) (x : Int × Int) : Bool := decide (0 ≤ x.1 ∧ x.1 ≤ 262144 ∧ -1 ≤ x.2 ∧ x.2 < i)
def slotB (n slots : Nat) (classes : Int) (base : List Int) (i : Nat) (x : Int × Int) : Bool :=
  decide (-1 ≤ x.1 ∧ x.1 < n ∧ -1 ≤ x.2 ∧ x.2 < n) && (decide (x.1 = -1 → x.2 = -1 ∧ i + 1 ≠ slots) && decide (0 ≤ x.1 → base.getD x.1.toNat 0 ≤ i ∧ (i : Int) < base.getD x.1.toNat 0 + classes))
/-- Of a list each part with its place. -/
def allI {α : Type} (f : Nat → α → Bool) : Nat → List α → Bool
  | _, [] => true
  | i, a :: l => f i a && allI f (i + 1) l
def combB (t : Tb) : Bool := decide (1 ≤ t.count ∧ t.count ≤ 256 ∧ 1 ≤ t.base.length ∧ t.base.length ≤ 600 ∧ t.next.length ≤ 262144 ∧ t.dflt.length = t.base.length ∧ t.check.length = t.next.length) &&
  (allI rowB 0 (t.base.zip t.dflt) && allI (slotB t.base.length t.next.length t.count t.base) 0 (t.check.zip t.next))
def modeB (modes : List (List UInt8)) (n : Nat) (i : Nat) (x : List UInt8 × Int) : Bool := nameB x.1 && (!(modes.take i).contains x.1 && decide (0 ≤ x.2 ∧ x.2 < n))
def labB (r : Nat) (x : Int) : Bool := decide (-1 ≤ x ∧ x < r)
/-- Whether tables may be. -/
def mayB (t : Tb) : Bool := decide (1 ≤ t.modes.length ∧ t.modes.length ≤ 16 ∧ t.starts.length = t.modes.length) && (ruledB t && (classesB t.classes t.count && (combB t && (decide (t.label.length = t.base.length) &&
  (allI (modeB t.modes t.label.length) 0 (t.modes.zip t.starts) && t.label.all (labB t.labels.length))))))

/-! Tables as bytes. -/
def headB : List UInt8 := [66, 76, 84, 1]
def encM (x : List UInt8 × Int) : List UInt8 := txB x.1 ++ varB x.2.toNat
def encA (a : Int × Int) : List UInt8 := varB a.1.toNat ++ varB a.2.toNat
def encL (l : List (Int × Int)) : List UInt8 := varB l.length ++ l.flatMap encA
def encR (x : List UInt8 × ((Int × Int) × List (Int × Int))) : List UInt8 := txB x.1 ++ (encA x.2.1 ++ encL x.2.2)
def encS (x : Int × (Int × Int)) : List UInt8 := varB (x.1 + 1).toNat ++ (varB x.2.1.toNat ++ varB (x.2.2 + 1).toNat)
def encC (x : Int × Int) : List UInt8 := varB (x.1 + 1).toNat ++ (if 0 ≤ x.1 then varB (x.2 + 1).toNat else [])
def encI (n : Int) : List UInt8 := varB n.toNat
def encRc (x : Rc) : List UInt8 := (varB x.modes.length ++ x.modes.flatMap encM) ++ ((varB x.rules.length ++ x.rules.flatMap encR) ++ (encI x.count ++ (x.classes.flatMap encI ++ ((varB x.states.length ++ x.states.flatMap encS) ++ (varB x.slots.length ++ x.slots.flatMap encC)))))
def encT (t : Tb) : List UInt8 := headB ++ encRc (rcOf t)

end Go.Proofs.YtcbfmajojkcibaaDoor
