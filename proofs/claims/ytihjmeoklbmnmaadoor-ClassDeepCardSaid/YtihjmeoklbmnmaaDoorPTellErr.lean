/- What fault tells of a reader's refusals. No condition but the errors' variables. -/
import Derived.Test.YtihjmeoklbmnmaaDoorPGh
import Derived.Test.YtihjmeoklbmnmaaDoorPGe
import Derived.Test.YtihjmeoklbmnmaaDoorPCode
import Derived.Test.YtihjmeoklbmnmaaDoorPGa
namespace Go.Proofs.YtihjmeoklbmnmaaDoor
open Go Go.RowKit

def esV (s : Nat → Addr) (k : Nat) : Value := .iface 154 (.pointer (some (s k)))
theorem refE_is (s : Nat → Addr) (d : Bool) : refE (esV s 3) (esV s 4) d = esV s (codeB d) := by cases d <;> rfl
/-- A refusal, or none. -/
def ErrIn (s : Nat → Addr) (w : World) (x : Option (Bool × Nat)) (err : Value) : Prop := match x with
  | none => err = .nilIface
  | some (d, k) => ∃ b, err = .iface 92 (.pointer (some ⟨b, 0, none⟩)) ∧ boxAt w b [esV s (codeB d), .int .i64 (k : Int)]
theorem ErrIn.later {s : Nat → Addr} {w w' : World} {x : Option (Bool × Nat)} {err : Value} (h : ErrIn s w x err) (hG : Gr w w') : ErrIn s w' x err := by
  match x, h with
  | none, h => exact h
  | some (d, k), ⟨b, h1, h2⟩ => exact ⟨b, h1, h2.later hG⟩
theorem tell_lex {W : World} {s : Nat → Addr} (hF : FaultsIn W s) (x : Option (Bool × Nat)) (err : Value) (h : ErrIn s W x err) :
    Calls Tryd.prog 36 #[err] W fun e w' => e = .returned (.agg #[.int .i64 (codeO x : Int), .int .i64 0, .int .i64 0, .int .i64 (placeO x : Int), .slice none 0 0]) ∧ Gr W w' := by
  match x, h with
  | none, h =>
    obtain rfl : err = .nilIface := h
    exact tell_nil W
  | some (d, k), ⟨b, h1, h2⟩ =>
    have hin : (Er.wrap .placed b (.int .i64 (k : Int)) (.leaf (s (codeB d)))).In W := ⟨h2.cell 0 _ rfl, h2.cell 1 _ rfl, hF.leaf _ (codeB_is d).1 (codeB_is d).2⟩
    have := tell_any hF _ hin ⟨fun _ => ⟨_, rfl⟩, trivial⟩ (codeB d) (codeB_is d).1 (codeB_is d).2 rfl rfl
    rw [show (Er.wrap .placed b (.int .i64 (k : Int)) (.leaf (s (codeB d)))).val = err from h1.symm] at this
    exact this
/-- The errors' variables, as the class's reader wants them. -/
theorem FaultsIn.sy0 {W : World} {s : Nat → Addr} (hF : FaultsIn W s) (hm : ∃ m, W.cell? ⟨17, 0, none⟩ = some (.int .i64 m)) : Sy0 W (esV s 3) (esV s 4) :=
  ⟨hF.var 3 (by omega) (by omega), hF.var 4 (by omega) (by omega), ⟨_, _, rfl⟩, ⟨_, _, rfl⟩, hm⟩
/-- A refusal, as the readers tell it. -/
theorem ErrIn.refused {s : Nat → Addr} {w : World} {B k : Nat} {d : Bool} {er : Value} (h : Refused w B (refE (esV s 3) (esV s 4) d) er (k : Int)) : ErrIn s w (some (d, k)) er := by
  obtain ⟨b, h1, h2, _⟩ := h
  rw [refE_is] at h2
  exact ⟨b, h1, h2⟩
theorem ErrIn.iface {s : Nat → Addr} {w : World} {x : Bool × Nat} {er : Value} (h : ErrIn s w (some x) er) : ∃ t y, er = .iface t y := by
  obtain ⟨b, h1, _⟩ := h
  exact ⟨_, _, h1⟩
/-- bolterkit.Same of a refusal. -/
theorem same_in {W : World} {s : Nat → Addr} (hF : FaultsIn W s) (x : Option (Bool × Nat)) (err : Value) (h : ErrIn s W x err) :
    Calls Tryd.prog 20 #[err, .agg #[.int .i64 (codeO x : Int), .int .i64 0, .int .i64 0, .int .i64 (placeO x : Int), .slice none 0 0]] W fun e w' => e = .returned (.bool true) ∧ Gr W w' := by
  cases x with
  | none =>
    obtain rfl : err = .nilIface := h
    exact same_nil W
  | some dk =>
    obtain ⟨t, y, he⟩ := h.iface
    have ht := fun W' (hg : Gr W W') => tell_lex (hF.later hg) (some dk) err (h.later hg)
    rw [he] at ht ⊢
    refine same_err t y _ 0 0 _ W ?_ ht
    obtain ⟨d, k⟩ := dk
    have := (codeB_is d).1
    show ((codeB d : Nat) : Int) ≠ 0
    omega

/-- A store into a block of numbers leaves a refusal as it is. -/
theorem ErrIn.far4 {s : Nat → Addr} {W w w' : World} {x : Option (Bool × Nat)} {err : Value} {b : Nat} {k : IntKind} {n : Int} {u1 u2 u3 v0 v1 v2 v3 : Value} (h : ErrIn s w x err) (hx : NB3 W w b [.int k n, u1, u2, u3])
    (hw : w' = (((w.setCell ⟨b, 0, none⟩ v0).setCell ⟨b, 1, none⟩ v1).setCell ⟨b, 2, none⟩ v2).setCell ⟨b, 3, none⟩ v3) : ErrIn s w' x err := by
  match x, h with
  | none, h => exact h
  | some (d, k'), ⟨b', h1, h2⟩ =>
    refine ⟨b', h1, ?_⟩
    rw [hw]
    refine h2.far4 (fun e => ?_) _ _ _ _
    subst e
    have e1 := h2.cell 0 _ rfl
    rw [hx.1.cell 0 _ rfl] at e1
    simp [esV] at e1
theorem ErrIn.far5 {s : Nat → Addr} {W w w' : World} {x : Option (Bool × Nat)} {err : Value} {b : Nat} {k : IntKind} {n : Int} {u1 u2 u3 u4 v0 v1 v2 v3 v4 : Value} (h : ErrIn s w x err) (hx : NB3 W w b [.int k n, u1, u2, u3, u4])
    (hw : w' = ((((w.setCell ⟨b, 0, none⟩ v0).setCell ⟨b, 1, none⟩ v1).setCell ⟨b, 2, none⟩ v2).setCell ⟨b, 3, none⟩ v3).setCell ⟨b, 4, none⟩ v4) : ErrIn s w' x err := by
  match x, h with
  | none, h => exact h
  | some (d, k'), ⟨b', h1, h2⟩ =>
    refine ⟨b', h1, ?_⟩
    have hne : b ≠ b' := fun e => by
      subst e
      have e1 := h2.cell 0 _ rfl
      rw [hx.1.cell 0 _ rfl] at e1
      simp [esV] at e1
    rw [hw]
    exact ((((h2.far ⟨b, 0, none⟩ _ hne).far ⟨b, 1, none⟩ _ hne).far ⟨b, 2, none⟩ _ hne).far ⟨b, 3, none⟩ _ hne).far ⟨b, 4, none⟩ _ hne

end Go.Proofs.YtihjmeoklbmnmaaDoor
