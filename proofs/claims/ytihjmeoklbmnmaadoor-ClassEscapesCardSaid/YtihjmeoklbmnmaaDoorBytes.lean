/- The bytes of a set, rising: what they are. Plain; no condition. -/
import Derived.Test.YtihjmeoklbmnmaaDoorList
import Derived.Test.YtihjmeoklbmnmaaDoorOf
import Derived.Test.YtihjmeoklbmnmaaDoorSetC
import Derived.Test.YtihjmeoklbmnmaaDoorLow
namespace Go.Proofs.YtihjmeoklbmnmaaDoor
open Go

theorem toNat_ofNat8 (k : Nat) (h : k < 256) : (UInt8.ofNat k).toNat = k := UInt8.toNat_ofNat_of_lt' h
theorem mem_bytesTo (s : BitVec 256) (k : Nat) (hk : k ≤ 256) (b : UInt8) : b ∈ bytesTo s k ↔ b.toNat < k ∧ s.getLsbD b.toNat = true := by
  unfold bytesTo
  simp only [List.mem_map, List.mem_filter, List.mem_range]
  constructor
  · rintro ⟨i, ⟨hi, hs⟩, rfl⟩
    rw [toNat_ofNat8 i (by omega)]; exact ⟨hi, hs⟩
  · rintro ⟨hb, hs⟩
    exact ⟨b.toNat, ⟨hb, hs⟩, by simp⟩
theorem mem_bytesOf (s : BitVec 256) (b : UInt8) : b ∈ bytesOf s ↔ s.getLsbD b.toNat = true := by
  have := b.toNat_lt
  rw [bytesOf, mem_bytesTo s 256 (Nat.le_refl _)]
  exact ⟨fun h => h.2, fun h => ⟨by omega, h⟩⟩
theorem bytesTo_rising (s : BitVec 256) : ∀ k, k ≤ 256 → (bytesTo s k).Pairwise (fun a b => a.toNat < b.toNat)
  | 0, _ => by unfold bytesTo; simp
  | k + 1, hk => by
    have ih := bytesTo_rising s k (by omega)
    cases h : s.getLsbD k
    · rw [bytesTo_no s k h]; exact ih
    · rw [bytesTo_yes s k h, List.pairwise_append]
      refine ⟨ih, by simp, fun a ha b hb => ?_⟩
      simp at hb; subst hb
      rw [toNat_ofNat8 k (by omega)]
      exact ((mem_bytesTo s k (by omega) a).1 ha).1
theorem bytesOf_rising (s : BitVec 256) : (bytesOf s).Pairwise (fun a b => a.toNat < b.toNat) := bytesTo_rising s 256 (Nat.le_refl _)
theorem ofList_bytesOf (s : BitVec 256) : ofList (bytesOf s) = s := set_ext _ _ fun k hk => by
  rw [getLsbD_ofList, Bool.eq_iff_iff]
  simp only [hk, decide_true, Bool.true_and, List.any_eq_true, beq_iff_eq]
  constructor
  · rintro ⟨b, hb, rfl⟩; exact (mem_bytesOf s b).1 hb
  · intro h; exact ⟨UInt8.ofNat k, (mem_bytesOf s _).2 (by rw [toNat_ofNat8 k hk]; exact h), toNat_ofNat8 k hk⟩
theorem bytesTo_count (s : BitVec 256) : ∀ k, (bytesTo s k).length = cardN s.getLsbD k
  | 0 => by unfold bytesTo; rfl
  | k + 1 => by
    have ih := bytesTo_count s k
    unfold cardN
    cases h : s.getLsbD k
    · rw [bytesTo_no s k h, ih]; rfl
    · rw [bytesTo_yes s k h, List.length_append, ih]; rfl
theorem bytesOf_count (s : BitVec 256) : (bytesOf s).length = card s := bytesTo_count s 256
theorem bytesOf_low (s : BitVec 256) (k : Nat) (h : IsLow s k) : (bytesOf s)[0]? = some (UInt8.ofNat k) := by
  obtain ⟨hk, h1, h2⟩ := h
  have hm : UInt8.ofNat k ∈ bytesOf s := (mem_bytesOf s _).2 (by rw [toNat_ofNat8 k hk]; exact h1)
  have hr := bytesOf_rising s
  have hall : ∀ b ∈ bytesOf s, k ≤ b.toNat := fun b hb => by
    rcases Nat.lt_or_ge b.toNat k with h | h
    · have := h2 _ h; rw [(mem_bytesOf s b).1 hb] at this; cases this
    · exact h
  cases hl : bytesOf s with
  | nil => rw [hl] at hm; cases hm
  | cons a r =>
    rw [hl] at hm hr hall
    have ha := hall a (by simp)
    rcases List.mem_cons.1 hm with e | e
    · rw [← e]; rfl
    · have := (List.pairwise_cons.1 hr).1 _ e
      rw [toNat_ofNat8 k hk] at this; omega
theorem bytesOf_empty : bytesOf emptyS = [] := by
  cases h : bytesOf emptyS with
  | nil => rfl
  | cons a r =>
    have : a ∈ bytesOf emptyS := by rw [h]; simp
    rw [mem_bytesOf, getLsbD_empty] at this; cases this
theorem bytesOf_step (s : BitVec 256) (i : Nat) (a b : UInt8) (h1 : (bytesOf s)[i]? = some a) (h2 : (bytesOf s)[i + 1]? = some b) : a.toNat < b.toNat := by
  have hr := bytesOf_rising s
  obtain ⟨g1, rfl⟩ := List.getElem?_eq_some_iff.1 h1
  obtain ⟨g2, rfl⟩ := List.getElem?_eq_some_iff.1 h2
  exact List.pairwise_iff_getElem.1 hr i (i + 1) g1 g2 (by omega)

end Go.Proofs.YtihjmeoklbmnmaaDoor
