/- A store into an owned row. No condition. -/
import Derived.Test.YtambkpgcccjhmaaDoorMem
import Derived.Test.YtambkpgcccjhmaaDoorRuns
namespace Go.Proofs.YtambkpgcccjhmaaDoor
open Go Go.RowKit

theorem owns_block {w : World} {B e size n : Nat} {v : Value} {xs : List Value} (h : w.ownsRow B e size v n xs) (hn : 0 < n) : ∃ g cap, v = .slice (some ⟨g, 0, none⟩) n cap ∧ B ≤ g ∧ g < w.heap.size ∧ n ≤ maxLen := by
  obtain ⟨_, h2⟩ := h
  rcases h2 with ⟨_, h0⟩ | ⟨g, cap, cur, hv, hb, hh, h3, h4, _⟩
  · omega
  · exact ⟨g, cap, hv, hb, (Array.getElem?_eq_some_iff.1 hh).1, by omega⟩
theorem owns_set {w : World} {B e size n g cap : Nat} {xs : List Value} (h : w.ownsRow B e size (.slice (some ⟨g, 0, none⟩) n cap) n xs) (j : Nat) (hj : j < xs.length) (u : Value) :
    (w.setCell ⟨g, j, none⟩ u).ownsRow B e size (.slice (some ⟨g, 0, none⟩) n cap) n (xs.set j u) := by
  obtain ⟨h1, h2⟩ := h
  refine ⟨by rw [List.length_set]; exact h1, .inr ?_⟩
  rcases h2 with ⟨h2, _⟩ | ⟨g', cap', cur, hv, hb, hh, h3, h4, h5, h6⟩
  · cases h2
  · simp only [Value.slice.injEq, Option.some.injEq, Addr.mk.injEq, and_true, true_and] at hv
    obtain ⟨rfl, rfl⟩ := hv
    refine ⟨g, cap, cur.setIfInBounds j u, rfl, hb, ?_, h3, h4, by simpa using h5, ?_⟩
    · simp [World.setCell, Array.getElem?_modify, hh]
    · rw [Array.toList_setIfInBounds, ← h6, List.take_set]
theorem owns_cell {w : World} {B e size n g cap : Nat} {xs : List Value} (h : w.ownsRow B e size (.slice (some ⟨g, 0, none⟩) n cap) n xs) (j : Nat) (u : Value) (hj : xs[j]? = some u) : w.cell? ⟨g, j, none⟩ = some u := by
  have := World.ownsRow.cells h (g := g) rfl j u hj
  rw [show (⟨g, 0, none⟩ : Addr).add j = ⟨g, j, none⟩ by
    unfold Addr.add
    by_cases h0 : j = 0
    · subst h0; rfl
    · rw [if_neg h0]; simp] at this
  exact this
theorem owns_mark {w : World} {B e size n g cap : Nat} {xs : List Value} (h : w.ownsRow B e size (.slice (some ⟨g, 0, none⟩) n cap) n xs) (j : Nat) : w.frozen? ⟨g, j, none⟩ = false := by
  obtain ⟨_, h2⟩ := h
  rcases h2 with ⟨h2, _⟩ | ⟨g', cap', cur, hv, hb, hh, _⟩
  · cases h2
  · simp only [Value.slice.injEq, Option.some.injEq, Addr.mk.injEq, and_true, true_and] at hv
    obtain ⟨rfl, _⟩ := hv
    simp [World.frozen?, hh]

theorem spsCells_snoc (q : List Sp) (p : Sp) : spsCells (q ++ [p]) = spsCells q ++ [vB p.1, vB p.2] := by
  simp [spsCells, spCells]
theorem spsCells_length (q : List Sp) : (spsCells q).length = q.length * 2 := flatMap_len spCells 2 spCells_len q
theorem spsCells_hi (q : List Sp) (p : Sp) : (spsCells (q ++ [p]))[q.length * 2 + 1]? = some (vB p.2) := by
  rw [spsCells_snoc, List.getElem?_append_right (by rw [spsCells_length]; omega), spsCells_length, show q.length * 2 + 1 - q.length * 2 = 1 by omega]; rfl
theorem spsCells_setHi (q : List Sp) (p : Sp) (b : UInt8) : (spsCells (q ++ [p])).set (q.length * 2 + 1) (vB b) = spsCells (q ++ [(p.1, b)]) := by
  rw [spsCells_snoc, spsCells_snoc, List.set_append_right _ _ (by rw [spsCells_length]; omega), spsCells_length, show q.length * 2 + 1 - q.length * 2 = 1 by omega]; rfl

end Go.Proofs.YtambkpgcccjhmaaDoor
