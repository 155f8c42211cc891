/- Slices of texts. No condition. -/
import Derived.Test.YtcbfmajojkcibaaDoorPStr0
namespace Go.Proofs.YtcbfmajojkcibaaDoor
open Go Go.RowKit

theorem flat_at {α : Type} (f : α → List Value) (k : Nat) (hf : ∀ a, (f a).length = k) : ∀ (l : List α) (i : Nat) (a : α) (j : Nat), l[i]? = some a → j < k → (l.flatMap f)[i * k + j]? = (f a)[j]?
  | [], i, a, j, h, _ => by simp at h
  | x :: l, 0, a, j, h, hj => by
    simp only [List.getElem?_cons_zero, Option.some.injEq] at h
    subst h
    rw [List.flatMap_cons, Nat.zero_mul, Nat.zero_add, List.getElem?_append_left (by rw [hf]; exact hj)]
  | x :: l, i + 1, a, j, h, hj => by
    rw [List.flatMap_cons, List.getElem?_append_right (by rw [hf, Nat.add_mul]; omega), hf, show (i + 1) * k + j - k = i * k + j by rw [Nat.add_mul]; omega]
    exact flat_at f k hf l i a j (by simpa using h) hj
def vS (l : List UInt8) : Value := .string (st l)
/-- A text of a slice of texts. -/
theorem str_at {w : World} {p : Option Addr} {c : Nat} {l : List (List UInt8)} (h : Sl w (.slice p l.length c) 1 l.length (l.map vS)) {k : Nat} {s : List UInt8} (hk : l[k]? = some s) :
    ∃ b off, p = some ⟨b, off, none⟩ ∧ b < w.heap.size ∧ w.cell? ⟨b, off + k, none⟩ = some (.string (st s)) := by
  have hl : k < l.length := (List.getElem?_eq_some_iff.1 hk).1
  obtain ⟨_, _, ⟨_, h0⟩ | ⟨b, off, cap, hv, hb, hc⟩⟩ := h
  · omega
  · injection hv with hp _ _
    exact ⟨b, off, hp, hb (by omega), hc k _ (by rw [List.getElem?_map, hk]; rfl)⟩

end Go.Proofs.YtcbfmajojkcibaaDoor
