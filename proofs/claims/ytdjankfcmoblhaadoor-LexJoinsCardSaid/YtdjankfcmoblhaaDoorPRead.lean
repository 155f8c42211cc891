/- Slices among the cells that are read: of elements whose cells are known, with what is known of each and how much they take. No condition. -/
import Derived.Test.YtdjankfcmoblhaaDoorPForms
namespace Go.Proofs.YtdjankfcmoblhaaDoor
open Go Go.ChangeShapes Go.WideShapes Go.ChangeAt Go.RowKit

section
variable {H : Type} {enc : TypeId × Value → H}

set_option maxRecDepth 100000 in
theorem bytes_u8 : Tryd.prog.bytesOf 5 = 1 := by kernel_rfl
set_option maxRecDepth 100000 in
theorem bytes_span : Tryd.prog.bytesOf 134 = 2 := by kernel_rfl
set_option maxRecDepth 100000 in
theorem flat_bytes : ∀ l : List UInt8, l.flatMap (fun y => [vB y]) = l.map vB := fun l => by
  induction l with
  | nil => rfl
  | cons a l ih => rw [List.flatMap_cons, ih]; rfl
/-- A slice of bytes, of spans, among the cells. -/
def BytesIn (w : World) (v : Value) : Prop := ∃ l : List UInt8, Sl w v 1 l.length (l.map vB) ∧ l.length ≤ 140737488351232 ∧ Nily v
def SpansIn (w : World) (v : Value) : Prop := ∃ l : List Sp, Sl w v 2 l.length (spsCells l) ∧ l.length * 2 ≤ 140737488351232 ∧ Nily v
set_option maxRecDepth 100000 in
theorem bytes_read {w : World} {base fuel : Nat} {spare : Nat → Bool} {held : Bool} {cs : List Value} {x : DataW H × List MemPlace} (h : DataW.trod enc Tryd.prog w base spare held fuel 93 cs = some x) (hw : Reached Tryd.prog 93 x.1) : ∃ v, cs = [v] ∧ BytesIn w v := by
  obtain ⟨v, l, e, h1, _, h2, h3⟩ := slice_read (f := fun y => [vB y]) (Q := fun _ => True) Tryd.underlying93 cells_u8 (by omega) (fun _ => rfl) (fun n cs x h _ => by
    obtain ⟨y, hy⟩ := trod_u8 n cs x h; exact ⟨y, hy, trivial⟩) h hw
  rw [flat_bytes] at h1
  rw [bytes_u8, reach_num] at h2
  exact ⟨v, e, l, h1, by omega, h3⟩
set_option maxRecDepth 100000 in
theorem spans_read {w : World} {base fuel : Nat} {spare : Nat → Bool} {held : Bool} {cs : List Value} {x : DataW H × List MemPlace} (h : DataW.trod enc Tryd.prog w base spare held fuel 135 cs = some x) (hw : Reached Tryd.prog 135 x.1) : ∃ v, cs = [v] ∧ SpansIn w v := by
  obtain ⟨v, l, e, h1, _, h2, h3⟩ := slice_read (f := spCells) (Q := fun _ => True) Tryd.underlying135 cells_span (by omega) spCells_len (fun n cs x h _ => by
    obtain ⟨y, hy⟩ := trod_span n cs x h; exact ⟨y, hy, trivial⟩) h hw
  rw [bytes_span, reach_num] at h2
  exact ⟨v, e, l, h1, h2, h3⟩
end
end Go.Proofs.YtdjankfcmoblhaaDoor
