/- The longest rows of neighbours of a rising list of bytes. Plain; no condition. -/
import Derived.Test.YtihjmeoklbmnmaaDoorSpans
import Derived.Test.YtihjmeoklbmnmaaDoorOf
namespace Go.Proofs.YtihjmeoklbmnmaaDoor
open Go

/-- acc: the longest rows of neighbours of the rising list l, built up byte by byte. -/
inductive Runs : List Sp → List UInt8 → Prop
  | nil : Runs [] []
  | new (acc : List Sp) (l : List UInt8) (b : UInt8) : Runs acc l → (∀ p, acc.getLast? = some p → p.2.toNat + 2 ≤ b.toNat) → Runs (acc ++ [(b, b)]) (l ++ [b])
  | ext (acc : List Sp) (p : Sp) (l : List UInt8) (b : UInt8) : Runs (acc ++ [p]) l → p.2.toNat + 1 = b.toNat → Runs (acc ++ [(p.1, b)]) (l ++ [b])

theorem Runs.mem {acc : List Sp} {l : List UInt8} (h : Runs acc l) : ∀ p ∈ acc, p.1.toNat ≤ p.2.toNat ∧ p.2 ∈ l := by
  induction h with
  | nil => simp
  | new acc l b _ _ ih =>
    intro p hp
    rcases List.mem_append.1 hp with hp | hp
    · exact ⟨(ih p hp).1, List.mem_append_left _ (ih p hp).2⟩
    · simp at hp; subst hp; simp
  | ext acc q l b _ hq ih =>
    intro p hp
    rcases List.mem_append.1 hp with hp | hp
    · exact ⟨(ih p (List.mem_append_left _ hp)).1, List.mem_append_left _ (ih p (List.mem_append_left _ hp)).2⟩
    · simp at hp; subst hp
      have := (ih q (by simp)).1
      refine ⟨by simp only; omega, by simp⟩
theorem Runs.gap {acc : List Sp} {l : List UInt8} (h : Runs acc l) : ∀ i p q, acc[i]? = some p → acc[i + 1]? = some q → p.2.toNat + 2 ≤ q.1.toNat := by
  induction h with
  | nil => intro i p q h; simp at h
  | new acc l b _ hl ih =>
    intro i p q h1 h2
    rcases Nat.lt_trichotomy (i + 1) acc.length with h | h | h
    · rw [List.getElem?_append_left (by omega)] at h1 h2
      exact ih i p q h1 h2
    · rw [List.getElem?_append_left (by omega)] at h1
      rw [List.getElem?_append_right (by omega), h, Nat.sub_self] at h2
      simp at h2; subst h2
      refine hl p ?_
      rw [List.getLast?_eq_getElem?, ← h1]; congr 1; omega
    · rw [List.getElem?_append_right (by omega)] at h2
      have : i + 1 - acc.length ≠ 0 := by omega
      obtain ⟨k, hk⟩ := Nat.exists_eq_succ_of_ne_zero this
      rw [hk] at h2; simp at h2
  | ext acc q0 l b _ hq ih =>
    intro i p q h1 h2
    rcases Nat.lt_trichotomy (i + 1) acc.length with h | h | h
    · rw [List.getElem?_append_left (by omega)] at h1 h2
      exact ih i p q (by rw [List.getElem?_append_left (by omega)]; exact h1) (by rw [List.getElem?_append_left (by omega)]; exact h2)
    · rw [List.getElem?_append_left (by omega)] at h1
      rw [List.getElem?_append_right (by omega), h, Nat.sub_self] at h2
      simp at h2; subst h2
      exact ih i p q0 (by rw [List.getElem?_append_left (by omega)]; exact h1) (by rw [List.getElem?_append_right (by omega), h, Nat.sub_self]; rfl)
    · rw [List.getElem?_append_right (by omega)] at h2
      have : i + 1 - acc.length ≠ 0 := by omega
      obtain ⟨k, hk⟩ := Nat.exists_eq_succ_of_ne_zero this
      rw [hk] at h2; simp at h2
/-- How many bytes the spans have together. -/
def spanSum : List Sp → Nat
  | [] => 0
  | p :: l => (p.2.toNat - p.1.toNat + 1) + spanSum l
theorem spanSum_append (a b : List Sp) : spanSum (a ++ b) = spanSum a + spanSum b := by
  induction a with
  | nil => simp [spanSum]
  | cons p a ih => rw [List.cons_append, spanSum, ih, spanSum]; omega
theorem Runs.sum {acc : List Sp} {l : List UInt8} (h : Runs acc l) : spanSum acc = l.length := by
  induction h with
  | nil => rfl
  | new acc l b _ _ ih => rw [spanSum_append, ih]; simp [spanSum]
  | ext acc q l b hr hq ih =>
    have := (hr.mem q (by simp)).1
    rw [spanSum_append] at ih ⊢
    simp only [spanSum, List.length_append, List.length_cons, List.length_nil] at ih ⊢
    omega
theorem range_snoc (lo hi b : Nat) (h : lo ≤ hi) (hb : hi + 1 = b) : rangeSet lo b = rangeSet lo hi ||| bit b :=
  set_ext _ _ fun k hk => by
    simp only [BitVec.getLsbD_or, getLsbD_rangeSet, getLsbD_bit]
    rw [Bool.eq_iff_iff]; simp [hk]; omega
theorem range_one (b : Nat) : rangeSet b b = bit b :=
  set_ext _ _ fun k hk => by
    simp only [getLsbD_rangeSet, getLsbD_bit]
    rw [Bool.eq_iff_iff]; simp [hk]; omega
theorem Runs.set {acc : List Sp} {l : List UInt8} (h : Runs acc l) : ofSpans acc = ofList l := by
  induction h with
  | nil => exact ofList_nil.symm
  | new acc l b _ _ ih => rw [ofSpans_append, ih, ofList_snoc]; simp only [ofSpans, or_emptyS, range_one]
  | ext acc q l b hr hq ih =>
    have := (hr.mem q (by simp)).1
    rw [ofSpans_append] at ih ⊢
    rw [ofList_snoc, ← ih]
    simp only [ofSpans, or_emptyS]
    rw [range_snoc _ _ _ this hq, BitVec.or_assoc]
theorem Runs.len {acc : List Sp} {l : List UInt8} (h : Runs acc l) : acc.length ≤ l.length := by
  induction h with
  | nil => simp
  | new acc l b _ _ ih => simp; omega
  | ext acc q l b _ _ ih => simp at ih ⊢; omega

end Go.Proofs.YtihjmeoklbmnmaaDoor
