/- What fault tells of Lex's errors. No condition but the errors' variables. -/
import Derived.Test.YtdjankfcmoblhaaDoorPGh
import Derived.Test.YtdjankfcmoblhaaDoorPEqLex
namespace Go.Proofs.YtdjankfcmoblhaaDoor
open Go Go.RowKit

def esV (s : Nat → Addr) (k : Nat) : Value := .iface 142 (.pointer (some (s k)))
def codeB (d : Bool) : Nat := if d then 4 else 3
theorem codeB_is (d : Bool) : 2 ≤ codeB d ∧ codeB d ≤ 17 := by cases d <;> decide
theorem refE_is (s : Nat → Addr) (d : Bool) : refE (esV s 3) (esV s 4) d = esV s (codeB d) := by cases d <;> rfl
/-- Lex's error. -/
def ErrIn (s : Nat → Addr) (w : World) (x : Option (Bool × Nat)) (err : Value) : Prop := match x with
  | none => err = .nilIface
  | some (d, k) => ∃ b, err = .iface 47 (.pointer (some ⟨b, 0, none⟩)) ∧ boxAt w b [esV s (codeB d), .int .i64 (k : Int)]
theorem ErrIn.later {s : Nat → Addr} {w w' : World} {x : Option (Bool × Nat)} {err : Value} (h : ErrIn s w x err) (hG : Gr w w') : ErrIn s w' x err := by
  match x, h with
  | none, h => exact h
  | some (d, k), ⟨b, h1, h2⟩ => exact ⟨b, h1, h2.later hG⟩
def codeO (x : Option (Bool × Nat)) : Nat := match x with | none => 0 | some (d, _) => codeB d
def placeO (x : Option (Bool × Nat)) : Nat := match x with | none => 0 | some (_, k) => k
theorem tell_lex {W : World} {s : Nat → Addr} (hF : FaultsIn W s) (x : Option (Bool × Nat)) (err : Value) (h : ErrIn s W x err) :
    Calls Tryd.prog 12 #[err] W fun e w' => e = .returned (.agg #[.int .i64 (codeO x : Int), .int .i64 0, .int .i64 0, .int .i64 (placeO x : Int), .slice none 0 0]) ∧ Gr W w' := by
  match x, h with
  | none, h =>
    obtain rfl : err = .nilIface := h
    exact tell_nil W
  | some (d, k), ⟨b, h1, h2⟩ =>
    have hin : (Er.wrap .placed b (.int .i64 (k : Int)) (.leaf (s (codeB d)))).In W := ⟨h2.cell 0 _ rfl, h2.cell 1 _ rfl, hF.leaf _ (codeB_is d).1 (codeB_is d).2⟩
    have := tell_any hF _ hin ⟨fun _ => ⟨_, rfl⟩, trivial⟩ (codeB d) (codeB_is d).1 (codeB_is d).2 rfl rfl
    rw [show (Er.wrap .placed b (.int .i64 (k : Int)) (.leaf (s (codeB d)))).val = err from h1.symm] at this
    exact this
set_option maxRecDepth 100000 in
/-- bolterkit.Code. -/
theorem kitCode_lex {W : World} {s : Nat → Addr} (hF : FaultsIn W s) (x : Option (Bool × Nat)) (err : Value) (h : ErrIn s W x err) :
    Calls Tryd.prog 14 #[err] W fun e w' => e = .returned (.int .i64 (codeO x : Int)) ∧ Gr W w' := by
  have ht := Lib.hid (tell_lex hF x err h)
  obtain ⟨c, hc⟩ : ∃ c, codeO x = c := ⟨_, rfl⟩
  obtain ⟨p, hp⟩ : ∃ p, placeO x = p := ⟨_, rfl⟩
  rw [hc, hp] at ht
  rw [hc]
  clear hc hp h hF
  have hf : ∀ w', (Instr.field 37 (.agg #[.int .i64 (c : Int), .int .i64 0, .int .i64 0, .int .i64 (p : Int), .slice none 0 0]) 0).run Tryd.prog w' = .ok (.int .i64 (c : Int)) w' := fun _ => by kernel_rfl
  go_enter Tryd.func14, Tryd.ntmps14
  go_wp2_with (go_at_call 12; (with_reducible refine ht.out.mono ?_); rintro e w1 ⟨rfl, hg⟩)
  go_ret
  exact ⟨rfl, hg⟩
/-- The errors' variables, as the class's reader wants them. -/
theorem FaultsIn.sy0 {W : World} {s : Nat → Addr} (hF : FaultsIn W s) (hm : ∃ m, W.cell? ⟨17, 0, none⟩ = some (.int .i64 m)) : Sy0 W (esV s 3) (esV s 4) :=
  ⟨hF.var 3 (by omega) (by omega), hF.var 4 (by omega) (by omega), ⟨_, _, rfl⟩, ⟨_, _, rfl⟩, hm⟩
/-- What Lex answers, with its error told apart. -/
theorem LexAns.parts {s : Nat → Addr} {w w' : World} {x : List Tok × Option (Bool × Nat)} {e : Ending} (h : LexAns (esV s 3) (esV s 4) w x e w') :
    Gr w w' ∧ ∃ p cap err, e = .returned (.tuple #[.slice p x.1.length cap, err]) ∧ w'.ownsRow w.heap.size 32 9 (.slice p x.1.length cap) x.1.length (x.1.flatMap tokC) ∧ ErrIn s w' x.2 err := by
  obtain ⟨hg, v, hown, hend⟩ := h
  obtain ⟨p, cap, hv, _⟩ := lex_row hown
  refine ⟨hg, p, cap, ?_⟩
  rw [← hv]
  obtain ⟨L, er⟩ := x
  cases er with
  | none => exact ⟨_, hend, hown, rfl⟩
  | some dk =>
    obtain ⟨d, k⟩ := dk
    obtain ⟨er, he, b, h1, h2, _⟩ := hend
    rw [refE_is] at h2
    exact ⟨er, he, hown, b, h1, h2⟩

end Go.Proofs.YtdjankfcmoblhaaDoor
