/- The errors' variables, out of a row that lists them. No condition. -/
import Derived.Test.YtpcmgkohebihmaaDoorLenOf
import Derived.Test.YtpcmgkohebihmaaDoorCards
import Derived.Test.YtpcmgkohebihmaaDoorTie
import Derived.Deep.DeepWitnessRowRef
import Derived.Deep.DeepHandedRow
import Derived.Stop.LaidErr
import Derived.Lay
namespace Go.Proofs.YtpcmgkohebihmaaDoor
open Go Go.ChangeShapes Go.WideShapes Go.ChangeAt Go.RowKit

theorem star_es : "*" ++ "errors.errorString" = "*errors.errorString" := by decide
theorem row_es (u : TypeId) (h : Tryd.prog.typeName? 3 u = some "*errors.errorString") : u = 151 :=
  typeName_ptr_named (nm := "errors.errorString") (by rw [star_es]; kernel_rfl) (by kernel_rfl) (by decide) u (by rw [star_es]; exact h)
theorem cells_es : Tryd.prog.cellsOf 173 = 1 := by kernel_rfl
theorem cells_st : Tryd.prog.cellsOf 9 = 1 := by kernel_rfl
/-- The head of the list: its variable holds an error. -/
theorem errs_of {n : String} {text : List UInt8} {r : List (String × DataW Unit)} {W : World} (h : laidMet Tryd.prog ((n, .iface "*errors.errorString" (.ptr (.agg [.lit (.string text)]))) :: r) W) {g : Nat} (hg : Tryd.prog.globalNamed n = some g)
    (ht : (Tryd.prog.globals[g]?).map (·.type) = some 35) : ∃ v, Errs W g v := by
  obtain ⟨a, s, hv, _⟩ := laid_sentinel h hg ht Tryd.underlying35 row_es Tryd.underlying151 Tryd.underlying173 rfl rfl Tryd.underlying9 cells_es cells_st
  exact ⟨_, World.var?_cell hg hv 0, _, _, rfl⟩
theorem g_arg : Tryd.prog.globalNamed "bolter/fault.ErrArg" = some 0 := by kernel_rfl
theorem g_argT : (Tryd.prog.globals[0]?).map (·.type) = some 35 := by kernel_rfl
theorem g_trail : Tryd.prog.globalNamed "bolter/fault.ErrTrail" = some 1 := by kernel_rfl
theorem g_trailT : (Tryd.prog.globals[1]?).map (·.type) = some 35 := by kernel_rfl

theorem cells_two : Tryd.prog.cellsOf 29 = 20 := by kernel_rfl
set_option maxRecDepth 100000 in
/-- Two expressions, as they are handed in. -/
theorem two_form {H : Type} {enc : TypeId × Value → H} {w : World} {r : Reach} {b0 base : Nat} {spare : Nat → Bool} {held : Bool} {v : Value} {d : DataW H} {p : List MemPlace}
    (hv : Value.okWide Tryd.prog w r b0 29 v) (h : DataW.Trod enc Tryd.prog w base spare held 29 v d p) (hw : Reached Tryd.prog 29 d) :
    ∃ (a b : Ex) (cs ds : List Value), v = .agg (cs ++ ds).toArray ∧ ExIn w a cs ∧ ExIn w b ds := by
  obtain ⟨cs, rfl, hsz⟩ := okWide_struct Tryd.underlying29 hv
  rw [cells_two] at hsz
  obtain ⟨fuel, hf⟩ := h
  obtain ⟨y0, y1, n, hx, _, h0, h1⟩ := trod_struct2 Tryd.underlying29 hf
  have hd := (Prod.mk.inj hx).1
  subst hd
  have hr : ∀ m', (m' ∈ y0.1.weights Tryd.prog 27 ∨ m' ∈ y1.1.weights Tryd.prog 27) → m' ≤ reachBytes := fun m' hm' => hw m' (by
    unfold DataW.weights
    rw [Tryd.underlying29]
    simp only [List.map_cons, List.map_nil, DataW.weightsEach, List.append_nil]
    rcases hm' with hm' | hm'
    · exact List.mem_append_left _ hm'
    · exact List.mem_append_right _ hm')
  obtain ⟨l⟩ := cs
  simp only [Value.cells, cells_expr] at h0 h1
  obtain ⟨a, ha⟩ := ex_read n _ y0 h0 (fun m' hm' => hr m' (.inl hm'))
  obtain ⟨b, hb⟩ := ex_read n _ y1 h1 (fun m' hm' => hr m' (.inr hm'))
  simp only [List.size_toArray] at hsz
  refine ⟨a, b, _, _, ?_, ha, hb⟩
  have e1 : (l.drop 10).take 10 = l.drop 10 := List.take_of_length_le (by rw [List.length_drop]; omega)
  simp only [List.drop_zero]
  rw [e1, List.take_append_drop]

end Go.Proofs.YtpcmgkohebihmaaDoor
