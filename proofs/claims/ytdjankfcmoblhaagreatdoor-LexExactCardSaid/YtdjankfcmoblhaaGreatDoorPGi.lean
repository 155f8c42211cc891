/- Texts of mine, put together: TellErr, LexErr, LexB. No condition but what each says. -/
import Derived.Test.YtdjankfcmoblhaaGreatDoorPGh
import Derived.Test.YtdjankfcmoblhaaGreatDoorPGe
import Derived.Test.YtdjankfcmoblhaaGreatDoorPCode
import Derived.Test.YtdjankfcmoblhaaGreatDoorPGg

/- What fault tells of a reader's refusals. No condition but the errors' variables. -/
namespace Go.Proofs.YtdjankfcmoblhaaGreatDoor
open Go Go.RowKit

def esV (s : Nat → Addr) (k : Nat) : Value := .iface 167 (.pointer (some (s k)))
theorem refE_is (s : Nat → Addr) (d : Bool) : refE (esV s 3) (esV s 4) d = esV s (codeB d) := by cases d <;> rfl
/-- A refusal, or none. -/
def ErrIn (s : Nat → Addr) (w : World) (x : Option (Bool × Nat)) (err : Value) : Prop := match x with
  | none => err = .nilIface
  | some (d, k) => ∃ b, err = .iface 71 (.pointer (some ⟨b, 0, none⟩)) ∧ boxAt w b [esV s (codeB d), .int .i64 (k : Int)]
theorem ErrIn.later {s : Nat → Addr} {w w' : World} {x : Option (Bool × Nat)} {err : Value} (h : ErrIn s w x err) (hG : Gr w w') : ErrIn s w' x err := by
  match x, h with
  | none, h => exact h
  | some (d, k), ⟨b, h1, h2⟩ => exact ⟨b, h1, h2.later hG⟩
theorem tell_lex {W : World} {s : Nat → Addr} (hF : FaultsIn W s) (x : Option (Bool × Nat)) (err : Value) (h : ErrIn s W x err) :
    Calls Tryz.prog 13 #[err] W fun e w' => e = .returned (.agg #[.int .i64 (codeO x : Int), .int .i64 0, .int .i64 0, .int .i64 (placeO x : Int), .slice none 0 0]) ∧ Gr W w' := by
  match x, h with
  | none, h =>
    obtain rfl : err = .nilIface := h
    exact tell_nil W
  | some (d, k), ⟨b, h1, h2⟩ =>
    have hin : (Er.wrap .placed b (.int .i64 (k : Int)) (.leaf (s (codeB d)))).In W := ⟨h2.cell 0 _ rfl, h2.cell 1 _ rfl, hF.leaf _ (codeB_is d).1 (codeB_is d).2⟩
    have := tell_any hF _ hin ⟨fun _ => ⟨_, rfl⟩, trivial⟩ (codeB d) (codeB_is d).1 (codeB_is d).2 rfl rfl
    rw [show (Er.wrap .placed b (.int .i64 (k : Int)) (.leaf (s (codeB d)))).val = err from h1.symm] at this
    exact this
/-- The errors' variables, as the class's reader wants them. -/
theorem FaultsIn.sy0 {W : World} {s : Nat → Addr} (hF : FaultsIn W s) (hm : ∃ m, W.cell? ⟨17, 0, none⟩ = some (.int .i64 m)) : Sy0 W (esV s 3) (esV s 4) :=
  ⟨hF.var 3 (by omega) (by omega), hF.var 4 (by omega) (by omega), ⟨_, _, rfl⟩, ⟨_, _, rfl⟩, hm⟩
/-- A refusal, as the readers tell it. -/
theorem ErrIn.refused {s : Nat → Addr} {w : World} {B k : Nat} {d : Bool} {er : Value} (h : Refused w B (refE (esV s 3) (esV s 4) d) er (k : Int)) : ErrIn s w (some (d, k)) er := by
  obtain ⟨b, h1, h2, _⟩ := h
  rw [refE_is] at h2
  exact ⟨b, h1, h2⟩
theorem ErrIn.iface {s : Nat → Addr} {w : World} {x : Bool × Nat} {er : Value} (h : ErrIn s w (some x) er) : ∃ t y, er = .iface t y := by
  obtain ⟨b, h1, _⟩ := h
  exact ⟨_, _, h1⟩
/-- bolterkit.Same of a refusal. -/
theorem same_in {W : World} {s : Nat → Addr} (hF : FaultsIn W s) (x : Option (Bool × Nat)) (err : Value) (h : ErrIn s W x err) :
    Calls Tryz.prog 7 #[err, .agg #[.int .i64 (codeO x : Int), .int .i64 0, .int .i64 0, .int .i64 (placeO x : Int), .slice none 0 0]] W fun e w' => e = .returned (.bool true) ∧ Gr W w' := by
  cases x with
  | none =>
    obtain rfl : err = .nilIface := h
    exact same_nil W
  | some dk =>
    obtain ⟨t, y, he⟩ := h.iface
    have ht := fun W' (hg : Gr W W') => tell_lex (hF.later hg) (some dk) err (h.later hg)
    rw [he] at ht ⊢
    refine same_err t y _ 0 0 _ W ?_ ht
    obtain ⟨d, k⟩ := dk
    have := (codeB_is d).1
    show ((codeB d : Nat) : Int) ≠ 0
    omega

end Go.Proofs.YtdjankfcmoblhaaGreatDoor

/- What fault tells of Lex's errors. No condition but the errors' variables. -/
namespace Go.Proofs.YtdjankfcmoblhaaGreatDoor
open Go Go.RowKit

/-- What Lex answers, with its error told apart. -/
theorem LexAns.parts {s : Nat → Addr} {w w' : World} {x : List Tok × Option (Bool × Nat)} {e : Ending} (h : LexAns (esV s 3) (esV s 4) w x e w') :
    Gr w w' ∧ ∃ p cap err, e = .returned (.tuple #[.slice p x.1.length cap, err]) ∧ w'.ownsRow w.heap.size 38 9 (.slice p x.1.length cap) x.1.length (x.1.flatMap tokC) ∧ ErrIn s w' x.2 err := by
  obtain ⟨hg, v, hown, hend⟩ := h
  obtain ⟨p, cap, hv, _⟩ := lex_row hown
  refine ⟨hg, p, cap, ?_⟩
  rw [← hv]
  obtain ⟨L, er⟩ := x
  cases er with
  | none => exact ⟨_, hend, hown, rfl⟩
  | some dk =>
    obtain ⟨d, k⟩ := dk
    obtain ⟨er, he, b, h1, h2, _⟩ := hend
    rw [refE_is] at h2
    exact ⟨er, he, hown, b, h1, h2⟩

end Go.Proofs.YtdjankfcmoblhaaGreatDoor

/- lex: Lex of a text that is too long. No condition but the error's variable. -/
namespace Go.Proofs.YtdjankfcmoblhaaGreatDoor
open Go Go.RowKit

set_option maxRecDepth 100000 in
theorem lex_too_long (t : List UInt8) (v : Value) (w : World) (hT : (65536 : Int) < (t.length : Int)) (hv : w.cell? ⟨0, 0, none⟩ = some v) :
    Calls Tryz.prog 5 #[.string (st t)] w fun e w' => e = .returned (.tuple #[.slice none 0 0, v]) ∧ Gr w w' := by
  have hsz := st_size t
  have hlt : 0 < w.heap.size := World.block_lt_of_cell? w _ hv
  go_enter Tryz.func5, Tryz.ntmps5
  go_wp2_with fail
  refine wp_region_G (.take 0 (.run 1 false (.run 2 true .nil))) (by kernel_rfl) (by kernel_rfl) ?_
  simp only [pickOps, nthOp]
  intro wq hG
  repeat (first | (refine wpG_skip_take ?_ ?_; (focus rfl); try simp only [Act.put, List.setIfInBounds_toArray, List.set_cons_zero, List.set_cons_succ]) | (refine wpG_skip_run ?_ ?_; (focus rfl); try simp only [Act.put, List.setIfInBounds_toArray, List.set_cons_zero, List.set_cons_succ]) | (refine wpG_take ?_ ?_; (focus rfl); apply Exists.intro; refine ⟨fun w' hw' => ?_, ?_⟩; (focus (have hc := Gr.cells hw'; go_simp; (try rfl); done)); try simp only [Act.put, List.setIfInBounds_toArray, List.set_cons_zero, List.set_cons_succ]) | (refine wpG_run ?_ (fun K hK => ?_); (focus rfl); go_simp; (first | (have hb := Gr.refl wq)); (try dsimp only); replace hG := hG.trans hb; refine hK.out _ _ hG ?_; clear hK K hb; try simp only [Act.put, List.setIfInBounds_toArray, List.set_cons_zero, List.set_cons_succ]))
  refine wpG_last ?_ (fun K hK => ?_); (focus rfl)
  have hc := hG.cells
  have hm := hG.marks
  go_simp
  refine hK.out _ _ ?_
  try simp only [Act.put, List.setIfInBounds_toArray, List.set_cons_zero, List.set_cons_succ]
  clear hK K hc hm
  refine wpG_done ?_
  go_wp2
  go_ret2
  exact ⟨rfl, hG⟩

end Go.Proofs.YtdjankfcmoblhaaGreatDoor
