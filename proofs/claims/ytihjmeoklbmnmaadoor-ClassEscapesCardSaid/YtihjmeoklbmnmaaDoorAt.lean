/- Calls of byteset whose answer is told by an equation. No condition. -/
import Derived.Test.YtihjmeoklbmnmaaDoorBytes
namespace Go.Proofs.YtihjmeoklbmnmaaDoor
open Go Go.RowKit

theorem of_is (l : List UInt8) (S : BitVec 256) (v : Value) (w : World) (h : Sl w v 1 l.length (l.map vB)) (e : ofList l = S) :
    Calls Tryd.prog 19 #[v] w fun e w' => e = .returned (.agg #[.int .u64 (wd S 0), .int .u64 (wd S 1), .int .u64 (wd S 2), .int .u64 (wd S 3)]) ∧ Gr w w' := by subst e; exact of_any l v w h
theorem ofSpans_is (l : List Sp) (S : BitVec 256) (v : Value) (w : World) (h : Sl w v 2 l.length (spsCells l)) (e : ofSpans l = S) :
    Calls Tryd.prog 76 #[v] w fun e w' => e = .returned (.agg #[.int .u64 (wd S 0), .int .u64 (wd S 1), .int .u64 (wd S 2), .int .u64 (wd S 3)]) ∧ Gr w w' := by subst e; exact ofSpans_any l v w h
theorem spsCells_app (a b : List Sp) : spsCells (a ++ b) = spsCells a ++ spsCells b := List.flatMap_append ..
theorem beq_is {α : Type} [BEq α] [LawfulBEq α] {a b : α} (h : a = b) : (a == b) = true := by subst h; simp

theorem addr_add0 (b j : Nat) : (⟨b, 0, none⟩ : Addr).add j = ⟨b, j, none⟩ := by
  unfold Addr.add
  by_cases h : j = 0
  · subst h; rfl
  · rw [if_neg h, Nat.zero_add]
theorem spsCells_one (l : List Sp) : ∀ u ∈ spsCells l, u.oneCell' = true := fun u hu => by
  obtain ⟨p, _, hp⟩ := List.mem_flatMap.1 hu
  simp only [spCells, List.mem_cons, List.not_mem_nil, or_false] at hp
  rcases hp with rfl | rfl <;> rfl

end Go.Proofs.YtihjmeoklbmnmaaDoor
