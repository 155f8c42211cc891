/- Texts of classes and quoted texts behind other text, plain. No condition. -/
import Derived.Test.YtihjmeoklbmnmabDoorPUnquote
import Derived.Test.YtihjmeoklbmnmabDoorPTellErr
namespace Go.Proofs.YtihjmeoklbmnmabDoor
open Go Go.RowKit

theorem parse_moved (u s : List UInt8) : parseP (u ++ s) (u.length : Int) = parseP s 0 := by
  rw [parseP_eq, parseP_eq, if_neg (by rw [List.length_append]; omega), if_neg (by omega), Int.toNat_natCast, List.drop_left]; rfl
theorem unquote_moved (u s : List UInt8) : unquoteP (u ++ s) (u.length : Int) = unquoteP s 0 := by
  have e1 : (if (u.length : Int) < 0 ∨ (((u ++ s).length : Nat) : Int) < (u.length : Int) then (u ++ s).length else (u.length : Int).toNat) = u.length := by rw [if_neg (by rw [List.length_append]; omega), Int.toNat_natCast]
  have e2 : (if (0 : Int) < 0 ∨ ((s.length : Nat) : Int) < 0 then s.length else (0 : Int).toNat) = 0 := by rw [if_neg (by omega)]; rfl
  unfold unquoteP
  simp only [e1, e2]
  rw [← List.drop_drop, List.drop_left, List.drop_zero, Nat.zero_add]
  split
  · exact quotedP_fuel _ _ _ _ (by rw [List.length_drop, List.length_append]; omega) (by rw [List.length_drop]; omega)
  · rfl
theorem quotedP_len : ∀ (n : Nat) (l acc : List UInt8), (∀ s r, quotedP n l acc = .ok s r → r.length ≤ l.length) ∧ ∀ r, quotedP n l acc = .bad r → r.length ≤ l.length
  | 0, l, acc => ⟨fun s r h => (by simp [quotedP] at h), fun r h => by simp [quotedP] at h; rw [h]; exact Nat.le_refl _⟩
  | n + 1, [], acc => ⟨fun s r h => (by simp [quotedP] at h), fun r h => by simp [quotedP] at h; rw [h]; exact Nat.le_refl _⟩
  | n + 1, c :: q, acc => by
    have hb : ∀ r, Rq.bad (c :: q) = .bad r → r.length ≤ (c :: q).length := fun r h => by injection h with h; rw [← h]; exact Nat.le_refl _
    rw [quotedP_cons]
    split
    · exact ⟨fun s r h => (by cases h), hb⟩
    · split
      · exact ⟨fun s r h => (by injection h with _ h; rw [← h]; simp), fun r h => (by cases h)⟩
      · split
        · cases he : escP q with
          | none => exact ⟨fun s r h => (by cases h), hb⟩
          | some x =>
            obtain ⟨v, z⟩ := x
            obtain ⟨k, _, hk, rfl⟩ := escP_len he
            have := quotedP_len n (q.drop k) (acc ++ [v])
            rw [List.length_drop] at this
            exact ⟨fun s r h => (by have := this.1 s r h; simp; omega), fun r h => by have := this.2 r h; simp; omega⟩
        · have := quotedP_len n q (acc ++ [c])
          exact ⟨fun s r h => (by have := this.1 s r h; simp; omega), fun r h => by have := this.2 r h; simp; omega⟩
theorem unquoteP_len (s : List UInt8) : (∀ a r, unquoteP s 0 = .ok a r → r.length ≤ s.length) ∧ ∀ r, unquoteP s 0 = .bad r → r.length ≤ s.length := by
  have e2 : (if (0 : Int) < 0 ∨ ((s.length : Nat) : Int) < 0 then s.length else (0 : Int).toNat) = 0 := by rw [if_neg (by omega)]; rfl
  unfold unquoteP
  simp only [e2]
  rw [List.drop_zero, Nat.zero_add]
  split
  · have := quotedP_len (s.length + 1) (s.drop 1) []
    rw [List.length_drop] at this
    exact ⟨fun a r h => (by have := this.1 a r h; omega), fun r h => by have := this.2 r h; omega⟩
  · exact ⟨fun a r h => (by cases h), fun r h => by injection h with h; rw [← h]; exact Nat.le_refl _⟩
theorem parseP_len (s : List UInt8) : (∀ a r, parseP s 0 = .ok a r → r.length ≤ s.length) ∧ ∀ d r, parseP s 0 = .bad d r → r.length ≤ s.length := by
  rw [parseP_eq, if_neg (by omega)]
  have h := classP_len (s.length + 1) 0 s
  rw [show classP (s.length + 1) 0 s = classF 0 s from rfl] at h
  refine ⟨fun a r e => ?_, fun d r e => ?_⟩
  · rw [show s.drop (0 : Int).toNat = s from rfl] at e
    rw [e] at h
    obtain ⟨k, _, hk, rfl⟩ := h
    rw [List.length_drop]; omega
  · rw [show s.drop (0 : Int).toNat = s from rfl] at e
    rw [e] at h
    obtain ⟨k, hk, rfl⟩ := h
    rw [List.length_drop]; omega
/-- A refusal, three bytes later. -/
def later3 : Option (Bool × Nat) → Option (Bool × Nat)
  | none => none
  | some (d, k) => some (d, k + 3)
def rdErr (n : Nat) : Rd → Option (Bool × Nat)
  | .ok _ _ => none
  | .bad d r => some (d, n - r.length)
def rqErr (n : Nat) : Rq → Option (Bool × Nat)
  | .ok _ _ => none
  | .bad r => some (false, n - r.length)
theorem rdErr_moved (s : List UInt8) : rdErr (s.length + 3) (parseP s 0) = later3 (rdErr s.length (parseP s 0)) := by
  have h := parseP_len s
  cases hx : parseP s 0 with
  | ok a r => rfl
  | bad d r => have := h.2 d r hx; show some (d, s.length + 3 - r.length) = some (d, s.length - r.length + 3); rw [show s.length + 3 - r.length = s.length - r.length + 3 by omega]
theorem rqErr_moved (s : List UInt8) : rqErr (s.length + 3) (unquoteP s 0) = later3 (rqErr s.length (unquoteP s 0)) := by
  have h := unquoteP_len s
  cases hx : unquoteP s 0 with
  | ok a r => rfl
  | bad r => have := h.2 r hx; show some (false, s.length + 3 - r.length) = some (false, s.length - r.length + 3); rw [show s.length + 3 - r.length = s.length - r.length + 3 by omega]

end Go.Proofs.YtihjmeoklbmnmabDoor
