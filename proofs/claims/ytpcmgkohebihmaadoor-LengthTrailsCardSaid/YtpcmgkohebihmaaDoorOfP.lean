/- How long the words of an expression are: plain. No condition. -/
import Derived.Test.YtpcmgkohebihmaaDoorForm
namespace Go.Proofs.YtpcmgkohebihmaaDoor
open Go

mutual
def nodesE : Ex → Nat
  | .mk _ _ _ _ _ _ args => 1 + nodesL args
def nodesL : List Ex → Nat
  | [] => 0
  | a :: r => nodesE a + nodesL r
end
mutual
def goodE : Ex → Bool
  | .mk op _ _ _ mn mx args => kindB op args.length mn mx && goodL args
def goodL : List Ex → Bool
  | [] => true
  | a :: r => goodE a && goodL r
end
def fold1 (f : Le → Le → Le) : List Le → Le
  | [] => .zero
  | x :: r => r.foldl f x
mutual
def ofE : Ex → Le
  | .mk op _ s _ mn mx args => if op = 2 then (if s == emptyS then .no else ⟨false, 1, 1⟩) else if op = 5 then fold1 catL (ofL args) else if op = 6 then fold1 altL (ofL args) else if op = 7 then manyL mn mx ((ofL args).headD .zero) else .zero
def ofL : List Ex → List Le
  | [] => []
  | a :: r => ofE a :: ofL r
end
theorem ofL_map : ∀ l, ofL l = l.map ofE
  | [] => by rw [ofL]; rfl
  | a :: r => by rw [ofL, ofL_map r]; rfl
theorem goodL_mem : ∀ (l : List Ex), goodL l = true → ∀ a ∈ l, goodE a = true
  | [], _, a, h => by cases h
  | x :: l, h, a, ha => by
    rw [goodL, Bool.and_eq_true] at h
    rcases List.mem_cons.1 ha with rfl | ha
    · exact h.1
    · exact goodL_mem l h.2 a ha
theorem nodesL_mem : ∀ (l : List Ex) (a : Ex), a ∈ l → nodesE a ≤ nodesL l
  | [], a, h => by cases h
  | x :: l, a, ha => by
    rw [nodesL]
    rcases List.mem_cons.1 ha with rfl | ha
    · omega
    · have := nodesL_mem l a ha; omega
theorem nodesL_take : ∀ (l : List Ex) (j : Nat), nodesL (l.take j) ≤ nodesL l
  | [], j => by simp
  | x :: l, 0 => by rw [List.take_zero, nodesL]; omega
  | x :: l, j + 1 => by rw [List.take_succ_cons, nodesL, nodesL]; have := nodesL_take l j; omega

theorem nodes_len : ∀ l : List Ex, l.length ≤ nodesL l
  | [] => by simp
  | x :: l => by
    rw [nodesL, List.length_cons]
    have h1 := nodes_len l
    have h2 : 1 ≤ nodesE x := by cases x; rw [nodesE]; omega
    omega
def within (x : Le) (n : Nat) : Prop := 0 ≤ x.least ∧ x.least ≤ n ∧ -1 ≤ x.most ∧ x.most ≤ n
theorem within.mono {x : Le} {m n : Nat} (h : within x m) (hmn : m ≤ n) : within x n := by
  obtain ⟨h1, h2, h3, h4⟩ := h; exact ⟨h1, by omega, h3, by omega⟩
theorem within.small {x : Le} {n : Nat} (h : within x n) (hn : n ≤ 1099511627776) : small x := by
  obtain ⟨h1, h2, h3, h4⟩ := h; exact ⟨h1, by omega, h3, by omega⟩
theorem within_cat {a b : Le} {m n : Nat} (ha : within a m) (hb : within b n) : within (catL a b) (m + n) := by
  obtain ⟨h1, h2, h3, h4⟩ := ha
  obtain ⟨k1, k2, k3, k4⟩ := hb
  unfold catL
  split
  · exact ⟨by decide, by show (0 : Int) ≤ _; omega, by decide, by show (0 : Int) ≤ _; omega⟩
  · refine ⟨?_, ?_, ?_, ?_⟩ <;> dsimp only
    · omega
    · omega
    · split <;> omega
    · split <;> omega
theorem within_alt {a b : Le} {m n : Nat} (ha : within a m) (hb : within b n) : within (altL a b) (m + n) := by
  obtain ⟨h1, h2, h3, h4⟩ := ha
  obtain ⟨k1, k2, k3, k4⟩ := hb
  unfold altL
  split
  · exact ⟨k1, by omega, k3, by omega⟩
  split
  · exact ⟨h1, by omega, h3, by omega⟩
  · refine ⟨?_, ?_, ?_, ?_⟩ <;> dsimp only
    · omega
    · omega
    · split <;> omega
    · split <;> omega
theorem within_many {mn mx : Int} {a : Le} {n : Nat} (ha : within a n) : within (manyL mn mx a) n := by
  have key : within (if mx = -1 ∧ a.none = false ∧ a.most ≠ 0 then ⟨a.none, a.least, -1⟩ else a) n := by
    obtain ⟨h1, h2, h3, h4⟩ := ha
    split
    · exact ⟨h1, h2, by show (-1 : Int) ≤ -1; omega, by show (-1 : Int) ≤ _; omega⟩
    · exact ⟨h1, h2, h3, h4⟩
  unfold manyL
  dsimp only
  generalize (if mx = -1 ∧ a.none = false ∧ a.most ≠ 0 then (⟨a.none, a.least, -1⟩ : Le) else a) = l1 at key ⊢
  by_cases h : mn = 0
  · rw [if_pos h]
    have := within_alt key (b := .zero) (n := 0) ⟨by decide, by decide, by decide, by decide⟩
    exact this
  · rw [if_neg h]; exact key
theorem within_fold (f : Le → Le → Le) (hf : ∀ {a b : Le} {m n : Nat}, within a m → within b n → within (f a b) (m + n)) : ∀ (r : List Ex) (x : Le) (m : Nat), within x m → (∀ a ∈ r, within (ofE a) (nodesE a)) → within ((r.map ofE).foldl f x) (m + nodesL r)
  | [], x, m, hx, _ => by rw [nodesL]; exact hx
  | a :: r, x, m, hx, hr => by
    rw [nodesL, List.map_cons, List.foldl_cons, ← Nat.add_assoc]
    exact within_fold f hf r _ _ (hf hx (hr a (by simp))) (fun b hb => hr b (by simp [hb]))
theorem of_within : ∀ k, ∀ e : Ex, SizeOf.sizeOf e ≤ k → within (ofE e) (nodesE e) := by
  intro k
  induction k with
  | zero => intro e h; cases e; simp only [Ex.mk.sizeOf_spec] at h; omega
  | succ k ih =>
    intro e h
    cases e with
    | mk op pos s text mn mx args =>
      have hall : ∀ a ∈ args, within (ofE a) (nodesE a) := fun a ha => ih a (by have := Ex.size_arg (.mk op pos s text mn mx args) a ha; omega)
      rw [ofE, nodesE, ofL_map]
      split
      · split
        · exact ⟨by decide, by show (0 : Int) ≤ _; omega, by decide, by show (0 : Int) ≤ _; omega⟩
        · exact ⟨by decide, by show (1 : Int) ≤ _; omega, by decide, by show (1 : Int) ≤ _; omega⟩
      split
      · cases args with
        | nil => exact ⟨by decide, by show (0 : Int) ≤ _; omega, by decide, by show (0 : Int) ≤ _; omega⟩
        | cons a r =>
          have := within_fold catL (fun h1 h2 => within_cat h1 h2) r _ _ (hall a (by simp)) (fun b hb => hall b (by simp [hb]))
          rw [nodesL]; exact this.mono (by omega)
      split
      · cases args with
        | nil => exact ⟨by decide, by show (0 : Int) ≤ _; omega, by decide, by show (0 : Int) ≤ _; omega⟩
        | cons a r =>
          have := within_fold altL (fun h1 h2 => within_alt h1 h2) r _ _ (hall a (by simp)) (fun b hb => hall b (by simp [hb]))
          rw [nodesL]; exact this.mono (by omega)
      split
      · cases args with
        | nil => exact (within_many (n := 0) ⟨by decide, by decide, by decide, by decide⟩).mono (by omega)
        | cons a r =>
          rw [nodesL]; exact (within_many (hall a (by simp))).mono (by omega)
      · exact ⟨by decide, by show (0 : Int) ≤ _; omega, by decide, by show (0 : Int) ≤ _; omega⟩

theorem fold_parts (f : Le → Le → Le) (hf : ∀ {a b : Le} {m n : Nat}, within a m → within b n → within (f a b) (m + n)) (l : List (Ex × List Value)) (hl : 0 < l.length) (hw : ∀ p ∈ l, within (ofE p.1) (nodesE p.1)) (hn : nodesL (l.map (·.1)) ≤ 1048576) :
    ∃ x r, (l.map fun p => ofE p.1) = x :: r ∧ small x ∧ (∀ y ∈ r, small y) ∧ ∀ j, small ((r.take j).foldl f x) := by
  cases l with
  | nil => simp at hl
  | cons p l =>
    rw [List.map_cons, nodesL] at hn
    have hsm : ∀ q ∈ l, nodesE q.1 ≤ 1048576 := fun q hq => by
      have := nodesL_mem (l.map (·.1)) q.1 (List.mem_map.2 ⟨q, hq, rfl⟩); omega
    refine ⟨ofE p.1, l.map fun q => ofE q.1, rfl, (hw p (by simp)).small (by omega), fun y hy => ?_, fun j => ?_⟩
    · obtain ⟨q, hq, rfl⟩ := List.mem_map.1 hy
      exact (hw q (by simp [hq])).small (by have := hsm q hq; omega)
    · have h1 := within_fold f hf ((l.map (·.1)).take j) (ofE p.1) _ (hw p (by simp)) (fun a ha => by
        obtain ⟨q, hq, rfl⟩ := List.mem_map.1 (List.mem_of_mem_take ha)
        exact hw q (by simp [hq]))
      have h2 := nodesL_take (l.map (·.1)) j
      rw [List.map_take, List.map_map] at h1
      exact h1.small (by omega)
theorem parts_good : ∀ k, ∀ e : Ex, SizeOf.sizeOf e ≤ k → ∀ d n m, partsE e d n = some m → goodE e = true ∧ m = n + nodesE e := by
  intro k
  induction k with
  | zero => intro e h; cases e; simp only [Ex.mk.sizeOf_spec] at h; omega
  | succ k ih =>
    intro e h d n m hm
    cases e with
    | mk op pos s text mn mx args =>
      rw [partsE] at hm
      split at hm
      · cases hm
      · rename_i hne
        have hk : kindB op args.length mn mx = true := by
          cases hkb : kindB op args.length mn mx
          · exact absurd (Or.inr (Or.inr (Or.inr hkb))) hne
          · rfl
        have key : ∀ (r : List Ex) (n : Nat), (∀ a ∈ r, a ∈ args) → partsL r (d + 1) n = some m → goodL r = true ∧ m = n + nodesL r := by
          intro r
          induction r with
          | nil => intro n _ h; rw [partsL] at h; injection h with h; rw [goodL, nodesL]; exact ⟨rfl, by omega⟩
          | cons a r ihr =>
            intro n hr h
            rw [partsL] at h
            split at h
            · cases h
            · rename_i q hq
              have ha := Ex.size_arg (.mk op pos s text mn mx args) a (hr a (by simp))
              have h1 := ih a (by omega) _ _ _ hq
              have h2 := ihr q (fun b hb => hr b (by simp [hb])) h
              rw [goodL, nodesL, h1.1, h2.1]
              exact ⟨rfl, by omega⟩
        have h3 := key args (n + 1) (fun a h => h) hm
        rw [goodE, nodesE, hk, h3.1]
        exact ⟨rfl, by omega⟩

end Go.Proofs.YtpcmgkohebihmaaDoor
