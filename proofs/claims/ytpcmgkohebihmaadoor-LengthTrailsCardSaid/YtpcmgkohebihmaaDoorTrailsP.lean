/- LengthTrails of bolterlaw8: what is told of its rules, plainly. No condition. -/
import Derived.Test.YtpcmgkohebihmaaDoorCuts
import Derived.Test.YtpcmgkohebihmaaDoorCopyC
namespace Go.Proofs.YtpcmgkohebihmaaDoor
open Go Go.RowKit

/-- n is the number of the first rule that is refused; 0: none is. -/
def BadIs (l : List Co) (n : Nat) : Prop :=
  (n = 0 ∧ ∀ x ∈ l, (cutOf x).isSome = true) ∨ ∃ i a, n = i + 1 ∧ l[i]? = some a ∧ cutOf a = none ∧ ∀ i' x, i' < i → l[i']? = some x → (cutOf x).isSome = true
theorem BadIs.nil : BadIs [] 0 := .inl ⟨rfl, fun x h => by cases h⟩
theorem BadIs.first {l : List Co} {a : Co} (h : BadIs l 0) (ha : cutOf a = none) : BadIs (l ++ [a]) (l.length + 1) := by
  rcases h with ⟨_, h⟩ | ⟨i, _, h, _⟩
  · refine .inr ⟨l.length, a, rfl, by simp, ha, fun i' x hi hx => h x ?_⟩
    rw [List.getElem?_append_left hi] at hx
    exact List.mem_of_getElem? hx
  · omega
theorem BadIs.more {l : List Co} {a : Co} {n : Nat} (h : BadIs l n) (ha : n = 0 → (cutOf a).isSome = true) : BadIs (l ++ [a]) n := by
  rcases h with ⟨h0, h⟩ | ⟨i, x, h0, h1, h2, h3⟩
  · refine .inl ⟨h0, fun x hx => ?_⟩
    rcases List.mem_append.1 hx with hx | hx
    · exact h x hx
    · rw [List.mem_singleton.1 hx]; exact ha h0
  · have hi := (List.getElem?_eq_some_iff.1 h1).1
    refine .inr ⟨i, x, h0, by rw [List.getElem?_append_left hi]; exact h1, h2, fun i' y hi' hy => ?_⟩
    rw [List.getElem?_append_left (by omega)] at hy
    exact h3 i' y hi' hy
theorem BadIs.len {l : List Co} {n : Nat} (h : BadIs l n) : n ≤ l.length := by
  rcases h with ⟨h0, _⟩ | ⟨i, x, h0, h1, _⟩
  · omega
  · have := (List.getElem?_eq_some_iff.1 h1).1; omega

/-- Of one rule. -/
theorem told_one {w w' : World} {x : Co} {va vt v er : Value} (h : CutsTold w w' [x] va vt v er) (ho : okCo x = true) :
    (cutOf x = none ∧ v = .slice none 0 0 ∧ ∃ t p, er = .iface t p) ∨ ∃ k n, cutOf x = some (k, n) ∧ er = .nilIface ∧ w'.ownsRow w.heap.size 64 2 v 1 [.int .i64 k, .int .i64 n] := by
  have hm : mayAll [x] = true := by simp [mayAll, ho]
  cases h with
  | arg h => rw [hm] at h; cases h
  | trail j a g _ hj ha =>
    have : a = x := by have := List.mem_of_getElem? hj; simpa using this
    rw [this] at ha
    exact .inl ⟨ha, rfl, _, _, rfl⟩
  | cuts M v _ hM ho =>
    rw [List.map_cons, List.map_nil] at hM
    have hl1 : M.length = 1 := by have := congrArg List.length hM; simpa using this.symm
    obtain ⟨y, rfl⟩ := List.length_eq_one_iff.1 hl1
    simp only [List.map_cons, List.map_nil, List.cons.injEq, and_true] at hM
    exact .inr ⟨y.1, y.2, hM, rfl, ho⟩
/-- Of all of them. -/
theorem told_all {w w' : World} {l : List Co} {va vt v er : Value} (h : CutsTold w w' l va vt v er) (hm : mayAll l = true) {n : Nat} (hb : BadIs l n) :
    (n = 0 ∧ er = .nilIface ∧ ∃ p c, v = .slice p l.length c) ∨ ∃ g, 0 < n ∧ v = .slice none 0 0 ∧ er = .iface 109 (.pointer (some ⟨g, 0, none⟩)) ∧ boxAt w' g [vt, .int .i64 (n : Int)] := by
  cases h with
  | arg h => rw [hm] at h; cases h
  | trail j a g _ hj ha hi hg hbx =>
    rcases hb with ⟨_, h⟩ | ⟨i, x, h0, h1, h2, h3⟩
    · have := h a (List.mem_of_getElem? hj); rw [ha] at this; cases this
    · have hij : i = j := by
        rcases Nat.lt_trichotomy i j with k | k | k
        · have := hi i x k h1; rw [h2] at this; cases this
        · exact k
        · have := h3 j a k hj; rw [ha] at this; cases this
      subst hij
      refine .inr ⟨g, by omega, rfl, rfl, ?_⟩
      rw [show (n : Int) = (i : Int) + 1 by omega]; exact hbx
  | cuts M v _ hM ho =>
    have hl : M.length = l.length := by have := congrArg List.length hM; simpa using this.symm
    rcases hb with ⟨h0, _⟩ | ⟨i, x, h0, h1, h2, h3⟩
    · obtain ⟨p, c, hv⟩ := (Sl.of_owns ho).len
      exact .inl ⟨h0, rfl, p, c, by rw [hv, hl]⟩
    · exfalso
      have h4 : (l.map cutOf)[i]? = some none := by rw [List.getElem?_map, h1, Option.map_some, h2]
      rw [hM, List.getElem?_map] at h4
      cases h5 : M[i]? <;> rw [h5] at h4 <;> cases h4

/-- The last element of an owned row, as a slice. -/
theorem owns_last {w : World} {B T k n g cap : Nat} {xs ds : List Value} (h : w.ownsRow B T k (.slice (some ⟨g, 0, none⟩) (n + 1) cap) (n + 1) (xs ++ ds)) (hx : xs.length = n * k) (hd : ds.length = k) (c : Nat) :
    Sl w (.slice (some ⟨g, n * k, none⟩) 1 c) k 1 ds := by
  refine ⟨by rw [hd, Nat.one_mul], by unfold maxLen; omega, .inr ⟨g, n * k, c, rfl, fun _ => ?_, fun j u hj => ?_⟩⟩
  · exact (World.ownsRow.lt h g rfl).2
  · exact owns_cell h _ _ (by rw [List.getElem?_append_right (by omega), hx, Nat.add_sub_cancel_left]; exact hj)

end Go.Proofs.YtpcmgkohebihmaaDoor
