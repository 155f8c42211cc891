/- The errors of syntax and depth, and the library's number, out of a row; slices of sets and of texts that are handed in. No condition. -/
import Derived.Test.YtihjmeoklbmnmaaDoorWakesC
import Derived.Test.YtihjmeoklbmnmaaDoorSlice
import Derived.Test.YtihjmeoklbmnmaaDoorFrame
import Derived.Test.YtihjmeoklbmnmaaDoorCards
import Derived.Test.YtihjmeoklbmnmaaDoorTie
import Derived.Deep.DeepWitnessRowRef
import Derived.Deep.DeepHandedRow
import Derived.Stop.LaidErr
import Derived.Lay
namespace Go.Proofs.YtihjmeoklbmnmaaDoor
open Go Go.ChangeShapes Go.WideShapes Go.ChangeAt Go.RowKit

theorem star_es : "*" ++ "errors.errorString" = "*errors.errorString" := by decide
theorem row_es (u : TypeId) (h : Tryd.prog.typeName? 3 u = some "*errors.errorString") : u = 154 :=
  typeName_ptr_named (nm := "errors.errorString") (by rw [star_es]; kernel_rfl) (by kernel_rfl) (by decide) u (by rw [star_es]; exact h)
theorem cells_es : Tryd.prog.cellsOf 173 = 1 := by kernel_rfl
theorem cells_st : Tryd.prog.cellsOf 9 = 1 := by kernel_rfl
/-- The head of the list: its variable holds an error. -/
theorem err_of {n : String} {text : List UInt8} {r : List (String × DataW Unit)} {W : World} (h : laidMet Tryd.prog ((n, .iface "*errors.errorString" (.ptr (.agg [.lit (.string text)]))) :: r) W) {g : Nat} (hg : Tryd.prog.globalNamed n = some g)
    (ht : (Tryd.prog.globals[g]?).map (·.type) = some 34) : ∃ v, W.cell? ⟨g, 0, none⟩ = some v ∧ ∃ t x, v = .iface t x := by
  obtain ⟨a, s, hv, _⟩ := laid_sentinel h hg ht Tryd.underlying34 row_es Tryd.underlying154 Tryd.underlying173 rfl rfl Tryd.underlying9 cells_es cells_st
  exact ⟨_, World.var?_cell hg hv 0, _, _, rfl⟩
theorem g_syn : Tryd.prog.globalNamed "bolter/fault.ErrSyntax" = some 1 := by kernel_rfl
theorem g_synT : (Tryd.prog.globals[1]?).map (·.type) = some 34 := by kernel_rfl
theorem g_deep : Tryd.prog.globalNamed "bolter/fault.ErrDeep" = some 0 := by kernel_rfl
theorem g_deepT : (Tryd.prog.globals[0]?).map (·.type) = some 34 := by kernel_rfl
theorem sy0_of {t1 t2 : List UInt8} {r : List (String × DataW Unit)} {W : World} (h : laidMet Tryd.prog (("bolter/fault.ErrSyntax", .iface "*errors.errorString" (.ptr (.agg [.lit (.string t1)]))) :: ("bolter/fault.ErrDeep", .iface "*errors.errorString" (.ptr (.agg [.lit (.string t2)]))) :: r) W)
    (hsh : W.ShapedOpen Tryd.prog) : ∃ es ed, Sy0 W es ed := by
  obtain ⟨es, h1, h2⟩ := err_of h g_syn g_synT
  obtain ⟨ed, h3, h4⟩ := err_of h.tail g_deep g_deepT
  exact ⟨es, ed, h1, h3, h2, h4, Tryd.laysM145.s1_3 W hsh⟩


section
variable {H : Type} {enc : TypeId × Value → H}
theorem set_read {w : World} {base : Nat} {spare : Nat → Bool} {held : Bool} (n : Nat) (cs : List Value) (x : DataW H × List MemPlace) (h : DataW.trod enc Tryd.prog w base spare held n 29 cs = some x) : ∃ y, cs = setCells y ∧ True := by
  obtain ⟨s, e⟩ := trod_set h
  exact ⟨s, e, trivial⟩
theorem str_read {w : World} {base : Nat} {spare : Nat → Bool} {held : Bool} (n : Nat) (cs : List Value) (x : DataW H × List MemPlace) (h : DataW.trod enc Tryd.prog w base spare held n 9 cs = some x) : ∃ y, cs = [vS y] ∧ True := by
  obtain ⟨s, e, _⟩ := DataW.trod_string Tryd.underlying9 h
  exact ⟨s.data.toList, by rw [e]; unfold vS; rw [← st_of], trivial⟩
theorem sets_read {w : World} {base fuel : Nat} {spare : Nat → Bool} {held : Bool} {cs : List Value} {x : DataW H × List MemPlace} (h : DataW.trod enc Tryd.prog w base spare held fuel 22 cs = some x) (hw : Reached Tryd.prog 22 x.1) :
    ∃ (v : Value) (l : List (BitVec 256)), cs = [v] ∧ Sl w v 4 l.length (l.flatMap setCells) := by
  obtain ⟨v, l, e, h1, _⟩ := slice_read (f := setCells) (Q := fun _ => True) Tryd.underlying22 cells_set (by omega) setCells_len (fun n cs x h _ => set_read n cs x h) h hw
  exact ⟨v, l, e, h1⟩
theorem flat_one {α : Type} (f : α → Value) (l : List α) : l.flatMap (fun y => [f y]) = l.map f := by
  induction l with
  | nil => rfl
  | cons a l ih => rw [List.flatMap_cons, ih]; rfl
theorem strs_read {w : World} {base fuel : Nat} {spare : Nat → Bool} {held : Bool} {cs : List Value} {x : DataW H × List MemPlace} (h : DataW.trod enc Tryd.prog w base spare held fuel 23 cs = some x) (hw : Reached Tryd.prog 23 x.1) :
    ∃ (v : Value) (l : List (List UInt8)), cs = [v] ∧ Sl w v 1 l.length (l.map vS) := by
  obtain ⟨v, l, e, h1, _⟩ := slice_read (f := fun y => [vS y]) (Q := fun _ => True) Tryd.underlying23 cells_st (by omega) (fun _ => rfl) (fun n cs x h _ => str_read n cs x h) h hw
  rw [flat_one] at h1
  exact ⟨v, l, e, h1⟩
theorem cells_sets : Tryd.prog.cellsOf 22 = 1 := by kernel_rfl
theorem cells_strs : Tryd.prog.cellsOf 23 = 1 := by kernel_rfl
theorem cells_writ : Tryd.prog.cellsOf 25 = 2 := by kernel_rfl
set_option maxRecDepth 100000 in
/-- Sets and texts among the cells. -/
theorem writ_read {w : World} {base fuel : Nat} {spare : Nat → Bool} {held : Bool} {cs : List Value} {x : DataW H × List MemPlace} (hl : cs.length = 2) (h : DataW.trod enc Tryd.prog w base spare held fuel 25 cs = some x) (hw : Reached Tryd.prog 25 x.1) :
    ∃ (vs vt : Value) (ls : List (BitVec 256)) (lt : List (List UInt8)), cs = [vs, vt] ∧ Sl w vs 4 ls.length (ls.flatMap setCells) ∧ Sl w vt 1 lt.length (lt.map vS) := by
  obtain ⟨y0, y1, n, hx, _, h0, h1⟩ := trod_struct2 Tryd.underlying25 h
  subst hx
  have hr : ∀ m', (m' ∈ y0.1.weights Tryd.prog 22 ∨ m' ∈ y1.1.weights Tryd.prog 23) → m' ≤ reachBytes := fun m' hm' => hw m' (by
    unfold DataW.weights
    rw [Tryd.underlying25]
    simp only [List.map_cons, List.map_nil, DataW.weightsEach, List.append_nil]
    rcases hm' with hm' | hm'
    · exact List.mem_append_left _ hm'
    · exact List.mem_append_right _ hm')
  match cs, hl with
  | [v0, v1], _ =>
    simp only [cells_sets, cells_strs] at h0 h1
    obtain ⟨vs, ls, e0, hs⟩ := sets_read h0 (fun m hm => hr m (.inl hm))
    obtain ⟨vt, lt, e1, ht⟩ := strs_read h1 (fun m hm => hr m (.inr hm))
    simp only [List.drop_zero, List.take_succ_cons, List.take_zero, List.drop_succ_cons, List.cons.injEq, and_true] at e0 e1
    subst e0 e1
    exact ⟨_, _, ls, lt, rfl, hs, ht⟩
end
set_option maxRecDepth 100000 in
theorem writ_form {H : Type} {enc : TypeId × Value → H} {w : World} {r : Reach} {b0 base : Nat} {spare : Nat → Bool} {held : Bool} {v : Value} {d : DataW H} {p : List MemPlace}
    (hv : Value.okWide Tryd.prog w r b0 25 v) (h : DataW.Trod enc Tryd.prog w base spare held 25 v d p) (hw : Reached Tryd.prog 25 d) :
    ∃ (p q : Option Addr) (c d : Nat) (ls : List (BitVec 256)) (lt : List (List UInt8)), v = .agg #[.slice p ls.length c, .slice q lt.length d] ∧ Sl w (.slice p ls.length c) 4 ls.length (ls.flatMap setCells) ∧ Sl w (.slice q lt.length d) 1 lt.length (lt.map vS) := by
  obtain ⟨cs, rfl, hsz⟩ := okWide_struct Tryd.underlying25 hv
  rw [cells_writ] at hsz
  obtain ⟨fuel, hf⟩ := h
  obtain ⟨l⟩ := cs
  simp only [Value.cells] at hf
  obtain ⟨vs, vt, ls, lt, e, hs, ht⟩ := writ_read (by simpa using hsz) hf hw
  obtain ⟨p, c, rfl⟩ := hs.len
  obtain ⟨q, d, rfl⟩ := ht.len
  exact ⟨p, q, c, d, ls, lt, by rw [← e], hs, ht⟩

set_option maxRecDepth 100000 in
theorem sets_form {H : Type} {enc : TypeId × Value → H} {w : World} {r : Reach} {b0 base : Nat} {spare : Nat → Bool} {held : Bool} {v : Value} {d : DataW H} {p : List MemPlace}
    (hv : Value.okWide Tryd.prog w r b0 22 v) (h : DataW.Trod enc Tryd.prog w base spare held 22 v d p) (hw : Reached Tryd.prog 22 d) :
    ∃ (p : Option Addr) (c : Nat) (ls : List (BitVec 256)), v = .slice p ls.length c ∧ Sl w (.slice p ls.length c) 4 ls.length (ls.flatMap setCells) := by
  obtain ⟨fuel, hf0⟩ := h
  obtain ⟨a0, n0, c0, rfl⟩ := okWide_slice Tryd.underlying22 hv
  obtain ⟨v', l, e, h1⟩ := sets_read hf0 hw
  obtain rfl : Value.slice a0 n0 c0 = v' := by simpa [Value.cells] using e
  obtain ⟨p, c, hh⟩ := h1.len
  rw [hh] at h1 ⊢
  exact ⟨p, c, l, rfl, h1⟩

end Go.Proofs.YtihjmeoklbmnmaaDoor
