/- class: Unquote. No condition but a length's bound and the errors' variables. -/
import Derived.Test.YtihjmeoklbmnmaaGreatDoorPGe
import Derived.Deep.DeepCutAuto
namespace Go.Proofs.YtihjmeoklbmnmaaGreatDoor
open Go Go.RowKit

theorem quotedP_fuel : ∀ (n m : Nat) (l acc : List UInt8), l.length < n → l.length < m → quotedP n l acc = quotedP m l acc
  | 0, _, _, _, h, _ => absurd h (Nat.not_lt_zero _)
  | _ + 1, 0, _, _, _, h => absurd h (Nat.not_lt_zero _)
  | n + 1, m + 1, [], acc, _, _ => rfl
  | n + 1, m + 1, c :: r, acc, h1, h2 => by
    simp only [List.length_cons] at h1 h2
    rw [quotedP_cons, quotedP_cons]
    split
    · rfl
    · split
      · rfl
      · split
        · cases he : escP r with
          | none => rfl
          | some x =>
            obtain ⟨v, q⟩ := x
            obtain ⟨k, _, hk, rfl⟩ := escP_len he
            exact quotedP_fuel n m _ _ (by rw [List.length_drop]; omega) (by rw [List.length_drop]; omega)
        · exact quotedP_fuel n m _ _ (by omega) (by omega)
def quotedF (l acc : List UInt8) : Rq := quotedP (l.length + 1) l acc
theorem quotedF_nil (acc : List UInt8) : quotedF [] acc = .bad [] := rfl
theorem quotedF_lf (r acc : List UInt8) : quotedF (10 :: r) acc = .bad (10 :: r) := rfl
theorem quotedF_end (r acc : List UInt8) : quotedF (34 :: r) acc = .ok acc r := rfl
theorem quotedF_bad (r acc : List UInt8) (h : escP r = none) : quotedF (92 :: r) acc = .bad (92 :: r) := by
  unfold quotedF; rw [quotedP_cons, if_neg (by decide), if_neg (by decide), if_pos rfl, h]
theorem quotedF_esc (r q acc : List UInt8) (v : UInt8) (h : escP r = some (v, q)) : quotedF (92 :: r) acc = quotedF q (acc ++ [v]) := by
  obtain ⟨k, h1, hk, rfl⟩ := escP_len h
  unfold quotedF
  rw [quotedP_cons, if_neg (by decide), if_neg (by decide), if_pos rfl, h]
  exact quotedP_fuel _ _ _ _ (by rw [List.length_drop, List.length_cons]; omega) (by omega)
theorem quotedF_byte (c : UInt8) (r acc : List UInt8) (h1 : ¬ c = 10) (h2 : ¬ c = 34) (h3 : ¬ c = 92) : quotedF (c :: r) acc = quotedF r (acc ++ [c]) := by
  unfold quotedF
  rw [quotedP_cons, if_neg h1, if_neg h2, if_neg h3]
  exact quotedP_fuel _ _ _ _ (by rw [List.length_cons]; omega) (by omega)
/-- What Unquote tells. -/
def UnqEnd (es : Value) (t : List UInt8) (w : World) (x : Rq) (e : Ending) (w' : World) : Prop :=
  Gr w w' ∧ match x with
    | .ok s r => e = .returned (.tuple #[.string (st s), .int .i64 ((t.length - r.length : Nat) : Int), .nilIface])
    | .bad r => ∃ er, e = .returned (.tuple #[.string { data := #[] }, .int .i64 0, er]) ∧ Refused w' w.heap.size es er ((t.length - r.length : Nat) : Int)
theorem UnqEnd.bad {es er : Value} {t : List UInt8} {w w' : World} {x : Rq} {j : Nat} (he : x = .bad (t.drop j)) (hj : j ≤ t.length) (hG : Gr w w') (hR : Refused w' w.heap.size es er (j : Int)) :
    UnqEnd es t w x (.returned (.tuple #[.string { data := #[] }, .int .i64 0, er])) w' := by
  subst he
  refine ⟨hG, er, rfl, ?_⟩
  rw [List.length_drop, show t.length - (t.length - j) = j by omega]; exact hR
theorem UnqEnd.ok {es : Value} {t s : List UInt8} {w w' : World} {x : Rq} {j : Nat} (he : x = .ok s (t.drop j)) (hj : j ≤ t.length) (hG : Gr w w') :
    UnqEnd es t w x (.returned (.tuple #[.string (st s), .int .i64 (j : Int), .nilIface])) w' := by
  subst he
  refine ⟨hG, ?_⟩
  show _ = _
  rw [List.length_drop, show t.length - (t.length - j) = j by omega]
theorem owns_kp {w w' : World} {B e n k p : Nat} {v : Value} {xs : List Value} (h : w.ownsRow B e k v n xs) (hK : Kp p w w') (hp : p < B) : w'.ownsRow B e k v n xs := by
  obtain ⟨h1, h2⟩ := h
  refine ⟨h1, h2.imp id ?_⟩
  rintro ⟨g, cap, cur, hv, hb, hh, r⟩
  exact ⟨g, cap, cur, hv, hb, by rw [hK.block g (Array.getElem?_eq_some_iff.1 hh).1 (by omega)]; exact hh, r⟩
/-- An owned row of bytes, turned to a string. -/
theorem conv_owned {P : Program} {w : World} (W : World) (src dst e : TypeId) {B : Nat} {v : Value} {l : List UInt8} (h : w.ownsRow B e 1 v l.length (l.map vB)) (hs : P.underlying src = some (.slice e)) (he : P.underlying e = some (.int .u8)) (hd : P.underlying dst = some .string) (hW : ∀ a : Addr, W.cell? a = w.cell? a) :
    (convert src dst v).run P W = .ok (.string (st l)) W := by
  rcases h.2 with ⟨rfl, h0⟩ | ⟨g, cap, cur, rfl, _⟩
  · rw [List.eq_nil_of_length_eq_zero h0]; exact conv_none W src dst e 0 hs he hd
  · refine conv_bytes W src dst e ⟨g, 0, none⟩ cap l.length l hs he hd rfl (fun j u hj => ?_)
    rw [addr_add0, hW]; exact owns_cell h j u hj

end Go.Proofs.YtihjmeoklbmnmaaGreatDoor
