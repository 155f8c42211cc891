/- bolterlaw2.Two, handed in. No condition. -/
import Derived.Test.YtndefbkcondmcaaDoorPErrForm
import Derived.Test.YtndefbkcondmcaaDoorPFaultOrder
namespace Go.Proofs.YtndefbkcondmcaaDoor
open Go Go.ChangeShapes Go.WideShapes Go.ChangeAt Go.RowKit

set_option maxRecDepth 100000 in
theorem cells_two : Tryd.prog.cellsOf 47 = 9 := by kernel_rfl
set_option maxRecDepth 100000 in
theorem two_form {H : Type} {enc : TypeId × Value → H} {w : World} {r : Reach} {b0 base : Nat} {spare : Nat → Bool} {held : Bool} {v : Value} {d : DataW H} {p : List MemPlace}
    (hv : Value.okWide Tryd.prog w r b0 47 v) (h : DataW.Trod enc Tryd.prog w base spare held 47 v d p) (hw : Reached Tryd.prog 47 d) (hb : Rows.uptoBulk d ≤ 1048576) :
    ∃ (code : Int) (own : List UInt8) (lv : Value) (L : List (WrP × Value)) (A B : WrP × Value), v = .agg (twoC code own lv A B).toArray ∧ EIn w own lv L ∧ WrIn w A ∧ WrIn w B := by
  obtain ⟨cs, rfl, hsz⟩ := okWide_struct Tryd.underlying47 hv
  rw [cells_two] at hsz
  obtain ⟨fuel, hf⟩ := h
  obtain ⟨l⟩ := cs
  simp only [Value.cells] at hf
  obtain ⟨y0, y1, y2, n, hx, hl, h0, h1, h2⟩ := Go.Deep.trod_struct3 Tryd.underlying47 hf
  injection hx with hx _
  subst hx
  have hr : ∀ m', (m' ∈ y0.1.weights Tryd.prog 25 ∨ m' ∈ y1.1.weights Tryd.prog 45 ∨ m' ∈ y2.1.weights Tryd.prog 45) → m' ≤ reachBytes := fun m' hm' => hw m' (by
    unfold DataW.weights
    rw [Tryd.underlying47]
    simp only [List.map_cons, List.map_nil, DataW.weightsEach, List.append_nil]
    rcases hm' with hm' | hm' | hm'
    · exact List.mem_append_left _ hm'
    · exact List.mem_append_right _ (List.mem_append_left _ hm')
    · exact List.mem_append_right _ (List.mem_append_right _ hm'))
  rw [bulk_agg, bulk_cons, bulk_cons, bulk_cons] at hb
  match l, hsz with
  | [c0, c1, c2, c3, c4, c5, c6, c7, c8], _ =>
    rw [show Tryd.prog.cellsOf _ = 3 from cells_err] at h0
    rw [show Tryd.prog.cellsOf _ = 3 from cells_wrap] at h1 h2
    obtain ⟨code, own, lv, L, e0, hE⟩ := er_read h0 (fun m hm => hr m (.inl hm)) (by omega)
    obtain ⟨A, e1, hA, _⟩ := wr_read h1 (fun m hm => hr m (.inr (.inl hm)))
    obtain ⟨B, e2, hB, _⟩ := wr_read h2 (fun m hm => hr m (.inr (.inr hm)))
    unfold wrC at e1 e2
    simp at e0 e1 e2
    obtain ⟨rfl, rfl, rfl⟩ := e0
    obtain ⟨rfl, rfl, rfl⟩ := e1
    obtain ⟨rfl, rfl, rfl⟩ := e2
    exact ⟨code, own, _, L, A, B, rfl, hE, hA, hB⟩

end Go.Proofs.YtndefbkcondmcaaDoor
