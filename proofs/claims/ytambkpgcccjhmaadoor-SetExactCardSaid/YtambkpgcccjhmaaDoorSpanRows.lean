/- Owned rows over growth; rows of one, two and four numbers; the type of a span. No condition. -/
import Derived.Test.YtambkpgcccjhmaaDoorRows
import Derived.Test.YtambkpgcccjhmaaDoorMem
namespace Go.Proofs.YtambkpgcccjhmaaDoor
open Go Go.RowKit

theorem owns_later {w w' : World} {B e n k : Nat} {v : Value} {xs : List Value} (h : w.ownsRow B e k v n xs) (hG : Gr w w') : w'.ownsRow B e k v n xs := by
  obtain ⟨h1, h2⟩ := h
  refine ⟨h1, h2.imp id ?_⟩
  rintro ⟨g, cap, cur, hv, hb, hh, r⟩
  refine ⟨g, cap, cur, hv, hb, ?_, r⟩
  have hlt : g < w.heap.size := (Array.getElem?_eq_some_iff.1 hh).1
  rw [Below.block hG g hlt]; exact hh
/-- An owned row, while another block is written. -/
theorem owns_heap {w w' : World} {B e n k : Nat} {v : Value} {xs : List Value} (h : w.ownsRow B e k v n xs) (hb : ∀ g, v.ownBlock = some g → w'.heap[g]? = w.heap[g]?) : w'.ownsRow B e k v n xs := by
  obtain ⟨h1, h2⟩ := h
  refine ⟨h1, h2.imp id ?_⟩
  rintro ⟨g, cap, cur, hv, hb', hh, r⟩
  exact ⟨g, cap, cur, hv, hb', by rw [hb g (by rw [hv]; rfl)]; exact hh, r⟩

theorem new2_cells (w : World) (a b : Value) (e : TypeId) : ∀ (j : Nat) (u : Value), [a, b][j]? = some u → (w.alloc (.cells #[a, b] e)).cell? ((⟨w.heap.size, 0, none⟩ : Addr).add j) = some u := fun j u hj => by
  have := (boxAt.new (w := w) [a, b] e rfl).cell j u hj
  rw [show (⟨w.heap.size, 0, none⟩ : Addr).add j = ⟨w.heap.size, j, none⟩ by
    unfold Addr.add
    by_cases h : j = 0
    · subst h; rfl
    · rw [if_neg h]; simp]
  exact this
theorem new_cells (w : World) (vs : List Value) (e : TypeId) : ∀ (j : Nat) (u : Value), vs[j]? = some u → (w.alloc (.cells vs.toArray e)).cell? ((⟨w.heap.size, 0, none⟩ : Addr).add j) = some u := fun j u hj => by
  have := (boxAt.new (w := w) vs e rfl).cell j u hj
  rw [show (⟨w.heap.size, 0, none⟩ : Addr).add j = ⟨w.heap.size, j, none⟩ by
    unfold Addr.add
    by_cases h : j = 0
    · subst h; rfl
    · rw [if_neg h]; simp]
  exact this
theorem four_one (x y z t : Int) : ∀ u ∈ [Value.int .u8 x, .int .u8 y, .int .u8 z, .int .u8 t], u.oneCell' = true := fun u hu => by
  simp at hu; rcases hu with rfl | rfl | rfl | rfl <;> rfl
theorem two_one (x y : Int) : ∀ u ∈ [Value.int .u8 x, .int .u8 y], u.oneCell' = true := fun u hu => by
  simp at hu; rcases hu with rfl | rfl <;> rfl

theorem info_span : (Tryd.prog.info? 38).map (fun i => (i.zero, i.size, i.bytes)) = some (some (.agg #[.int .u8 0, .int .u8 0]), 2, 2) := by kernel_rfl

end Go.Proofs.YtambkpgcccjhmaaDoor
