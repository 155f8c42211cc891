/- The plain law of lengths: when built expressions are cores, and how long their words are. No condition. -/
import Derived.Test.YtpcmgkohebihmaaDoorBuilt
import Derived.Test.YtpcmgkohebihmaaDoorSize
namespace Go.Proofs.YtpcmgkohebihmaaDoor
open Go

theorem Ex.ind {M : Ex → Prop} (h : ∀ op pos s text mn mx args, (∀ a ∈ args, M a) → M (.mk op pos s text mn mx args)) : ∀ k, ∀ e : Ex, SizeOf.sizeOf e ≤ k → M e := by
  intro k
  induction k with
  | zero => intro e hk; cases e; simp only [Ex.mk.sizeOf_spec] at hk; omega
  | succ k ih =>
    intro e hk
    cases e with
    | mk op pos s text mn mx args =>
      exact h op pos s text mn mx args fun a ha => ih a (by have := Ex.size_arg (.mk op pos s text mn mx args) a ha; omega)
theorem Ex.all {M : Ex → Prop} (h : ∀ op pos s text mn mx args, (∀ a ∈ args, M a) → M (.mk op pos s text mn mx args)) (e : Ex) : M e := Ex.ind h _ e (Nat.le_refl _)

mutual
def depthE : Ex → Nat
  | .mk _ _ _ _ _ _ args => depthL args + 1
def depthL : List Ex → Nat
  | [] => 0
  | a :: r => max (depthE a) (depthL r)
end
mutual
def allE : Ex → Bool
  | .mk op pos s text mn mx args => leanB op pos s text mn mx && (kindB op args.length mn mx && allL args)
def allL : List Ex → Bool
  | [] => true
  | a :: r => allE a && allL r
end

theorem parts_iff : ∀ e, ∀ d n m, partsE e d n = some m ↔ (allE e = true ∧ n + nodesE e ≤ 65536 ∧ d + depthE e ≤ 4097 ∧ m = n + nodesE e) := by
  refine Ex.all fun op pos s text mn mx args ih d n m => ?_
  have key : ∀ (r : List Ex), (∀ a ∈ r, a ∈ args) → ∀ d n m, n ≤ 65536 → d ≤ 4097 → (partsL r d n = some m ↔ (allL r = true ∧ n + nodesL r ≤ 65536 ∧ d + depthL r ≤ 4097 ∧ m = n + nodesL r)) := by
    intro r
    induction r with
    | nil =>
      intro _ d n m hn hd
      rw [partsL, allL, nodesL, depthL]
      constructor
      · intro h; injection h with h; exact ⟨rfl, by omega, by omega, by omega⟩
      · rintro ⟨_, _, _, rfl⟩; rfl
    | cons a r ihr =>
      intro hr d n m hn hd
      have iha := ih a (hr a (by simp))
      rw [partsL, allL, nodesL, depthL, Bool.and_eq_true]
      cases hq : partsE a d n with
      | none =>
        constructor
        · intro h; cases h
        · rintro ⟨⟨h1, _⟩, h2, h3, _⟩
          have := (iha d n (n + nodesE a)).2 ⟨h1, by omega, by omega, rfl⟩
          rw [hq] at this; cases this
      | some q =>
        obtain ⟨h1, h2, h3, rfl⟩ := (iha d n q).1 hq
        have := ihr (fun b hb => hr b (by simp [hb])) d (n + nodesE a) m h2 hd
        show partsL r d (n + nodesE a) = some m ↔ _
        rw [this]
        constructor
        · rintro ⟨g1, g2, g3, rfl⟩; exact ⟨⟨h1, g1⟩, by omega, by omega, by omega⟩
        · rintro ⟨⟨_, g1⟩, g2, g3, rfl⟩; exact ⟨g1, by omega, by omega, by omega⟩
  rw [partsE, allE, nodesE, depthE, Bool.and_eq_true, Bool.and_eq_true]
  by_cases h : 65536 < n + 1 ∨ 4096 < d ∨ leanB op pos s text mn mx = false ∨ kindB op args.length mn mx = false
  · rw [if_pos h]
    constructor
    · intro h; cases h
    · rintro ⟨⟨g1, g2, _⟩, g3, g4, _⟩
      exfalso
      rcases h with h | h | h | h
      · omega
      · omega
      · rw [h] at g1; cases g1
      · rw [h] at g2; cases g2
  · rw [if_neg h]
    have hn : ¬ 65536 < n + 1 := fun g => h (.inl g)
    have hd : ¬ 4096 < d := fun g => h (.inr (.inl g))
    have hl : leanB op pos s text mn mx = true := by
      cases hb : leanB op pos s text mn mx
      · exact absurd (.inr (.inr (.inl hb))) h
      · rfl
    have hk : kindB op args.length mn mx = true := by
      cases hb : kindB op args.length mn mx
      · exact absurd (.inr (.inr (.inr hb))) h
      · rfl
    rw [key args (fun a h => h) (d + 1) (n + 1) m (by omega) (by omega)]
    constructor
    · rintro ⟨g1, g2, g3, rfl⟩; exact ⟨⟨hl, hk, g1⟩, by omega, by omega, by omega⟩
    · rintro ⟨⟨_, _, g1⟩, g2, g3, rfl⟩; exact ⟨g1, by omega, by omega, by omega⟩

theorem core_iff (e : Ex) : isCore e = true ↔ (allE e = true ∧ nodesE e ≤ 65536 ∧ depthE e ≤ 4096) := by
  unfold isCore
  rw [Option.isSome_iff_exists]
  constructor
  · rintro ⟨m, h⟩
    obtain ⟨h1, h2, h3, _⟩ := (parts_iff e 1 0 m).1 h
    exact ⟨h1, by omega, by omega⟩
  · rintro ⟨h1, h2, h3⟩
    exact ⟨_, (parts_iff e 1 0 _).2 ⟨h1, by omega, by omega, rfl⟩⟩

theorem depth_nodes : ∀ e, depthE e ≤ nodesE e := by
  refine Ex.all fun op pos s text mn mx args ih => ?_
  rw [depthE, nodesE]
  have key : ∀ (r : List Ex), (∀ a ∈ r, a ∈ args) → depthL r ≤ nodesL r := by
    intro r
    induction r with
    | nil => intro _; rw [depthL]; omega
    | cons a r ihr =>
      intro hr
      have h1 := ih a (hr a (by simp))
      have h2 := ihr fun b hb => hr b (by simp [hb])
      rw [depthL, nodesL]; omega
  have := key args fun a h => h
  omega

theorem size_nodes : ∀ e, ∀ d, sizeE e d ≤ 20000 → sizeE e d = nodesE e := by
  refine Ex.all fun op pos s text mn mx args ih d h => ?_
  rw [sizeE] at h ⊢
  rw [nodesE]
  split at h
  · omega
  · rename_i hd
    rw [if_neg hd]
    have key : ∀ (r : List Ex), (∀ a ∈ r, a ∈ args) → ∀ n, sizeL r d n ≤ 20000 → sizeL r d n = n + nodesL r := by
      intro r
      induction r with
      | nil => intro _ n _; rw [sizeL, nodesL]; omega
      | cons a r ihr =>
        intro hr n hn
        rw [sizeL] at hn ⊢
        split at hn
        · rename_i hlt
          rw [if_pos hlt]
          have h1 := ihr (fun b hb => hr b (by simp [hb])) _ hn
          have h2 := ih a (hr a (by simp)) (d + 1) (by omega)
          rw [nodesL]; omega
        · omega
    exact key args (fun a h => h) 1 h

/-! Two behind one another, one or the other, one any number of times. -/
theorem two_core {op : Int} (hop : op = 5 ∨ op = 6) (a b : Ex) : isCore (mkE op 0 [a, b]) = true ↔ (allE a = true ∧ allE b = true ∧ 1 + (nodesE a + nodesE b) ≤ 65536 ∧ max (depthE a) (depthE b) ≤ 4095) := by
  rw [core_iff, mkE, allE, nodesE, depthE, allL, allL, allL, nodesL, nodesL, nodesL, depthL, depthL, depthL]
  have h1 : leanB op 0 emptyS ⟨#[]⟩ 0 0 = true := by rcases hop with rfl | rfl <;> simp [leanB]
  have h2 : kindB op [a, b].length 0 0 = true := by rcases hop with rfl | rfl <;> simp [kindB]
  rw [h1, h2]
  simp only [Bool.true_and, Bool.and_true, Bool.and_eq_true]
  constructor
  · rintro ⟨⟨g1, g2⟩, g3, g4⟩; exact ⟨g1, g2, by omega, by omega⟩
  · rintro ⟨g1, g2, g3, g4⟩; exact ⟨⟨g1, g2⟩, by omega, by omega⟩
theorem star_core (a : Ex) : isCore (mkE 7 (-1) [a]) = true ↔ (allE a = true ∧ 1 + nodesE a ≤ 65536 ∧ depthE a ≤ 4095) := by
  rw [core_iff, mkE, allE, nodesE, depthE, allL, allL, nodesL, nodesL, depthL, depthL]
  have h1 : leanB 7 0 emptyS ⟨#[]⟩ 0 (-1) = true := by simp [leanB]
  have h2 : kindB 7 [a].length 0 (-1) = true := by simp [kindB]
  rw [h1, h2]
  simp only [Bool.true_and, Bool.and_true]
  constructor
  · rintro ⟨g1, g2, g3⟩; exact ⟨g1, by omega, by omega⟩
  · rintro ⟨g1, g2, g3⟩; exact ⟨g1, by omega, by omega⟩

theorem two_refused {op : Int} (hop : op = 5 ∨ op = 6) {a b : Ex} (h : isCore a = false ∨ isCore b = false) : isCore (mkE op 0 [a, b]) = false := by
  cases hc : isCore (mkE op 0 [a, b])
  · rfl
  · obtain ⟨h1, h2, h3, h4⟩ := (two_core hop a b).1 hc
    have ha := (core_iff a).2 ⟨h1, by omega, by omega⟩
    have hb := (core_iff b).2 ⟨h2, by omega, by omega⟩
    rcases h with h | h
    · rw [ha] at h; cases h
    · rw [hb] at h; cases h
theorem star_refused {a : Ex} (h : isCore a = false) : isCore (mkE 7 (-1) [a]) = false := by
  cases hc : isCore (mkE 7 (-1) [a])
  · rfl
  · obtain ⟨h1, h3, h4⟩ := (star_core a).1 hc
    rw [(core_iff a).2 ⟨h1, by omega, by omega⟩] at h; cases h
theorem two_great {op : Int} (hop : op = 5 ∨ op = 6) {a b : Ex} (ha : isCore a = true) (hb : isCore b = true) (hs : sizeE a 0 + sizeE b 0 ≤ 20000) (h : isCore (mkE op 0 [a, b]) = false) : 4000 < sizeE a 0 + sizeE b 0 := by
  have h1 := size_nodes a 0 (by omega)
  have h2 := size_nodes b 0 (by omega)
  have h3 := depth_nodes a
  have h4 := depth_nodes b
  rcases Nat.lt_or_ge 4000 (sizeE a 0 + sizeE b 0) with g | g
  · exact g
  · have := (two_core hop a b).2 ⟨((core_iff a).1 ha).1, ((core_iff b).1 hb).1, by omega, by omega⟩
    rw [this] at h; cases h
theorem star_great {a b : Ex} (ha : isCore a = true) (hs : sizeE a 0 + sizeE b 0 ≤ 20000) (h : isCore (mkE 7 (-1) [a]) = false) : 4000 < sizeE a 0 + sizeE b 0 := by
  have h1 := size_nodes a 0 (by omega)
  have h3 := depth_nodes a
  rcases Nat.lt_or_ge 4000 (sizeE a 0 + sizeE b 0) with g | g
  · exact g
  · have := (star_core a).2 ⟨((core_iff a).1 ha).1, by omega, by omega⟩
    rw [this] at h; cases h

theorem cat_of (a b : Ex) : ofE (mkE 5 0 [a, b]) = catL (ofE a) (ofE b) := by
  rw [mkE, ofE]; simp [ofL, fold1]
theorem alt_of (a b : Ex) : ofE (mkE 6 0 [a, b]) = altL (ofE a) (ofE b) := by
  rw [mkE, ofE]; simp [ofL, fold1]
theorem star_of (a : Ex) : ofE (mkE 7 (-1) [a]) = manyL 0 (-1) (ofE a) := by
  rw [mkE, ofE]; simp [ofL]

/-- None is none; the least is not above the greatest. -/
def fine (z : Le) : Prop := (z.none = true → z = .no) ∧ (z.most < 0 ∨ z.least ≤ z.most)
theorem fine_zero : fine .zero := ⟨fun h => (by cases h), .inr (Int.le_refl _)⟩
theorem fine_no : fine .no := ⟨fun _ => rfl, .inr (Int.le_refl _)⟩
theorem fine_cat {a b : Le} (ha : fine a) (hb : fine b) : fine (catL a b) := by
  unfold catL
  split
  · exact fine_no
  · refine ⟨fun h => by simp at h, ?_⟩
    have h1 := ha.2
    have h2 := hb.2
    simp only
    split <;> omega
theorem fine_alt {a b : Le} (ha : fine a) (hb : fine b) : fine (altL a b) := by
  unfold altL
  split
  · exact hb
  · split
    · exact ha
    · refine ⟨fun h => by simp at h, ?_⟩
      have h1 := ha.2
      have h2 := hb.2
      simp only
      split <;> omega
theorem fine_many {mn mx : Int} {a : Le} (ha : fine a) : fine (manyL mn mx a) := by
  unfold manyL
  have h : fine (if mx = -1 ∧ a.none = false ∧ a.most ≠ 0 then ⟨a.none, a.least, -1⟩ else a) := by
    split
    · rename_i h
      exact ⟨fun h' => (by rw [show a.none = false from h.2.1] at h'; cases h'), .inl (by simp)⟩
    · exact ha
  simp only
  split
  · exact fine_alt h fine_zero
  · exact h
theorem fine_of : ∀ e, fine (ofE e) := by
  refine Ex.all fun op pos s text mn mx args ih => ?_
  have key : ∀ (f : Le → Le → Le), (∀ a b, fine a → fine b → fine (f a b)) → ∀ (r : List Ex), (∀ a ∈ r, a ∈ args) → ∀ x, fine x → fine ((ofL r).foldl f x) := by
    intro f hf r
    induction r with
    | nil => intro _ x hx; rw [ofL]; exact hx
    | cons a r ihr =>
      intro hr x hx
      rw [ofL, List.foldl_cons]
      exact ihr (fun b hb => hr b (by simp [hb])) _ (hf _ _ hx (ih a (hr a (by simp))))
  have key1 : ∀ (f : Le → Le → Le), (∀ a b, fine a → fine b → fine (f a b)) → fine (fold1 f (ofL args)) := by
    intro f hf
    cases args with
    | nil => rw [ofL]; exact fine_zero
    | cons a r =>
      rw [ofL]
      exact key f hf r (fun b hb => by simp [hb]) _ (ih a (by simp))
  rw [ofE]
  split
  · split
    · exact fine_no
    · exact ⟨fun h => (by cases h), .inr (Int.le_refl _)⟩
  · split
    · exact key1 catL fun a b => fine_cat
    · split
      · exact key1 altL fun a b => fine_alt
      · split
        · refine fine_many ?_
          cases args with
          | nil => rw [ofL]; exact fine_zero
          | cons a r => rw [ofL]; exact ih a (by simp)
        · exact fine_zero

end Go.Proofs.YtpcmgkohebihmaaDoor
