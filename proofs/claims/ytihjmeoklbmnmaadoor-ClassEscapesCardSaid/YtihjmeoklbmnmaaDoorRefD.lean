/- bolterref1: List, Spans, Least. No condition. -/
import Derived.Test.YtihjmeoklbmnmaaDoorRefC
import Derived.Test.YtihjmeoklbmnmaaDoorSpansOf
import Derived.Test.YtihjmeoklbmnmaaDoorEqB
namespace Go.Proofs.YtihjmeoklbmnmaaDoor
open Go Go.RowKit

theorem owns_base {w : World} {B B' e k n : Nat} {v : Value} {xs : List Value} (h : w.ownsRow B e k v n xs) (hB : B' ≤ B) : w.ownsRow B' e k v n xs := by
  obtain ⟨h1, h2⟩ := h
  refine ⟨h1, h2.imp id ?_⟩
  rintro ⟨g, cap, cur, hv, hb, r⟩
  exact ⟨g, cap, cur, hv, by omega, r⟩
theorem new1_cell (w : World) (a : Value) (e : TypeId) : ∀ (j : Nat) (u : Value), [a][j]? = some u → (w.alloc (.cells #[a] e)).cell? ((⟨w.heap.size, 0, none⟩ : Addr).add j) = some u := fun j u hj => by
  match j, hj with
  | 0, hj => simp at hj; subst hj; simp [Addr.add]
theorem one_one (x : Int) : ∀ u ∈ [Value.int .u8 x], u.oneCell' = true := fun u hu => by simp at hu; subst hu; rfl

end Go.Proofs.YtihjmeoklbmnmaaDoor
