/- Slices of places (a text, a number) that are handed in. No condition. -/
import Derived.Test.YtihjmeoklbmnmabDoorPGe
import Derived.Test.YtihjmeoklbmnmabDoorPForms
namespace Go.Proofs.YtihjmeoklbmnmabDoor
open Go Go.ChangeShapes Go.WideShapes Go.ChangeAt Go.RowKit

def plCells (x : List UInt8 × Int) : List Value := [.string (st x.1), .int .i64 x.2]
theorem plCells_len (x : List UInt8 × Int) : (plCells x).length = 2 := rfl
set_option maxRecDepth 100000 in
theorem cells_place : Tryd.prog.cellsOf 24 = 2 := by kernel_rfl
set_option maxRecDepth 100000 in
theorem cells_int : Tryd.prog.cellsOf 3 = 1 := by kernel_rfl
section
variable {H : Type} {enc : TypeId × Value → H}
set_option maxRecDepth 100000 in
theorem place_read {w : World} {base : Nat} {spare : Nat → Bool} {held : Bool} (n : Nat) (cs : List Value) (x : DataW H × List MemPlace) (h : DataW.trod enc Tryd.prog w base spare held n 24 cs = some x) : ∃ y, cs = plCells y ∧ True := by
  obtain ⟨y0, y1, m, _, hl, h0, h1⟩ := trod_struct2 Tryd.underlying24 h
  rw [cells_place] at hl
  match cs, hl with
  | [c0, c1], _ =>
    rw [show Tryd.prog.cellsOf _ = 1 from cells_st] at h0
    rw [show Tryd.prog.cellsOf _ = 1 from cells_int] at h1
    obtain ⟨z0, e0, _⟩ := DataW.trod_string Tryd.underlying9 h0
    obtain ⟨z1, e1, _, _⟩ := DataW.trod_int Tryd.underlying3 h1
    simp at e0 e1
    subst e0 e1
    exact ⟨(z0.data.toList, z1), by unfold plCells; rw [← st_of], trivial⟩
theorem places_read {w : World} {base fuel : Nat} {spare : Nat → Bool} {held : Bool} {cs : List Value} {x : DataW H × List MemPlace} (h : DataW.trod enc Tryd.prog w base spare held fuel 22 cs = some x) (hw : Reached Tryd.prog 22 x.1) :
    ∃ (v : Value) (l : List (List UInt8 × Int)), cs = [v] ∧ Sl w v 2 l.length (l.flatMap plCells) := by
  obtain ⟨v, l, e, h1, _⟩ := slice_read (f := plCells) (Q := fun _ => True) Tryd.underlying22 cells_place (by omega) plCells_len (fun n cs x h _ => place_read n cs x h) h hw
  exact ⟨v, l, e, h1⟩
end
set_option maxRecDepth 100000 in
theorem places_form {H : Type} {enc : TypeId × Value → H} {w : World} {r : Reach} {b0 base : Nat} {spare : Nat → Bool} {held : Bool} {v : Value} {d : DataW H} {p : List MemPlace}
    (hv : Value.okWide Tryd.prog w r b0 22 v) (h : DataW.Trod enc Tryd.prog w base spare held 22 v d p) (hw : Reached Tryd.prog 22 d) :
    ∃ (p : Option Addr) (c : Nat) (ls : List (List UInt8 × Int)), v = .slice p ls.length c ∧ Sl w (.slice p ls.length c) 2 ls.length (ls.flatMap plCells) := by
  obtain ⟨fuel, hf0⟩ := h
  obtain ⟨a0, n0, c0, rfl⟩ := okWide_slice Tryd.underlying22 hv
  obtain ⟨v', l, e, h1⟩ := places_read hf0 hw
  obtain rfl : Value.slice a0 n0 c0 = v' := by simpa [Value.cells] using e
  obtain ⟨p, c, hh⟩ := h1.len
  rw [hh] at h1 ⊢
  exact ⟨p, c, l, rfl, h1⟩
/-- A place of a slice of places. -/
theorem place_at {w : World} {p : Option Addr} {c : Nat} {l : List (List UInt8 × Int)} (h : Sl w (.slice p l.length c) 2 l.length (l.flatMap plCells)) {k : Nat} {s : List UInt8} {a : Int} (hk : l[k]? = some (s, a)) :
    ∃ b off, p = some ⟨b, off, none⟩ ∧ b < w.heap.size ∧ w.cell? ⟨b, off + k * 2, none⟩ = some (.string (st s)) ∧ w.cell? ⟨b, off + k * 2 + 1, none⟩ = some (.int .i64 a) := by
  have hl : k < l.length := (List.getElem?_eq_some_iff.1 hk).1
  obtain ⟨_, _, ⟨_, h0⟩ | ⟨b, off, cap, hv, hb, hc⟩⟩ := h
  · omega
  · injection hv with hp _ _
    refine ⟨b, off, hp, hb (by omega), ?_, ?_⟩
    · have := hc (k * 2 + 0) _ (by rw [flat_at plCells 2 plCells_len l k (s, a) 0 hk (by omega)]; rfl); rw [← Nat.add_assoc] at this; simpa using this
    · have := hc (k * 2 + 1) _ (by rw [flat_at plCells 2 plCells_len l k (s, a) 1 hk (by omega)]; rfl); rw [← Nat.add_assoc] at this; exact this

end Go.Proofs.YtihjmeoklbmnmabDoor
