/- bolterlaw2: errors that are handed in: what they are, what they take of the bulk. No condition. -/
import Derived.Test.YtndefbkcondmcaaDoorPBulk
import Derived.Test.YtndefbkcondmcaaDoorPGh
import Derived.Test.YtndefbkcondmcaaDoorPMade
import Derived.Deep.Strs
namespace Go.Proofs.YtndefbkcondmcaaDoor
open Go Go.ChangeShapes Go.WideShapes Go.ChangeAt Go.RowKit

theorem faultsT_of {W : World} (h : laidMetH Tryd.prog Rows.faultExactRow.laid W) : ∃ s, FaultsIn W s ∧ FaultsT W s := by
  obtain ⟨s, h1, h2⟩ := faults_texts h
  refine ⟨s, h1, fun k hk1 hk2 => ?_⟩
  obtain ⟨s0, h3, h4⟩ := h2 k hk1 hk2
  rw [h3, st_of s0, h4]
  congr 3
  have hh : ∀ j : Fin 16, (faultNames.getD j.val default).2 = wordsL.getD j.val [] := by decide
  exact hh ⟨k - 2, by omega⟩

section
variable {H : Type} {enc : TypeId × Value → H}
set_option maxRecDepth 100000 in
theorem cells_intF : Tryd.prog.cellsOf 3 = 1 := by kernel_rfl
set_option maxRecDepth 100000 in
theorem cells_strsF : Tryd.prog.cellsOf 31 = 1 := by kernel_rfl
set_option maxRecDepth 100000 in
theorem cells_wrapsF : Tryd.prog.cellsOf 23 = 1 := by kernel_rfl
set_option maxRecDepth 100000 in
theorem cells_wrap : Tryd.prog.cellsOf 45 = 3 := by kernel_rfl
set_option maxRecDepth 100000 in
theorem cells_err : Tryd.prog.cellsOf 25 = 3 := by kernel_rfl
set_option maxRecDepth 100000 in
theorem bytes_st : Tryd.prog.bytesOf 9 = 16 := by kernel_rfl
theorem wf_i64 {n : Int} (h : (Lit.int .i64 n).wf = true) : -9223372036854775808 ≤ n ∧ n ≤ 9223372036854775807 := by
  simp [Lit.wf, IntKind.min, IntKind.max, IntKind.signed, IntKind.bits] at h; omega
theorem flat_oneF {α : Type} (f : α → Value) (l : List α) : l.flatMap (fun y => [f y]) = l.map f := by
  induction l with
  | nil => rfl
  | cons a l ih => rw [List.flatMap_cons, ih]; rfl
/-- Names. -/
theorem names_read {w : World} {base fuel : Nat} {spare : Nat → Bool} {held : Bool} {cs : List Value} {x : DataW H × List MemPlace} (h : DataW.trod enc Tryd.prog w base spare held fuel 31 cs = some x) (hw : Reached Tryd.prog 31 x.1) :
    ∃ (v : Value) (l : List (List UInt8)), cs = [v] ∧ Sl w v 1 l.length (l.map vS) ∧ Nily v ∧ l.length * 16 ≤ 140737488355328 ∧ namesLen l + 1 ≤ Rows.uptoBulk x.1 := by
  obtain ⟨v, l, e, h1, _, h3, h4, h5⟩ := slice_readB (f := fun y => [vS y]) (Q := fun y d => y.length + 1 ≤ Rows.uptoBulk d) Tryd.underlying31 cells_st (by omega) (fun _ => rfl) (fun n cs x _ h _ => by
    obtain ⟨s, e, hx, _⟩ := DataW.trod_string Tryd.underlying9 h
    refine ⟨s.data.toList, by rw [e]; unfold vS; rw [← st_of], ?_⟩
    rw [hx, bulk_str]; exact Nat.le_refl _) h hw
  rw [flat_oneF] at h1
  rw [bytes_st, reach_num] at h3
  exact ⟨v, l, e, h1, h4, by omega, h5 List.length (fun a d h => by omega)⟩
instance : Inhabited (WrP × Value) := ⟨⟨default, .slice none 0 0⟩⟩
set_option maxRecDepth 100000 in
/-- A wrapper. -/
theorem wr_read {w : World} {base fuel : Nat} {spare : Nat → Bool} {held : Bool} {cs : List Value} {x : DataW H × List MemPlace} (h : DataW.trod enc Tryd.prog w base spare held fuel 45 cs = some x) (hw : Reached Tryd.prog 45 x.1) :
    ∃ p, cs = wrC p ∧ WrIn w p ∧ namesLen p.1.names + 1 ≤ Rows.uptoBulk x.1 := by
  obtain ⟨y0, y1, y2, n, hx, hl, h0, h1, h2⟩ := Go.Deep.trod_struct3 Tryd.underlying45 h
  subst hx
  have hr : Reached Tryd.prog 31 y2.1 := fun m' hm' => hw m' (by
    unfold DataW.weights
    rw [Tryd.underlying45]
    simp only [List.map_cons, List.map_nil, DataW.weightsEach, List.append_nil]
    exact List.mem_append_right _ (List.mem_append_right _ hm'))
  rw [cells_wrap] at hl
  match cs, hl with
  | [c0, c1, c2], _ =>
    rw [show Tryd.prog.cellsOf _ = 1 from cells_intF] at h0 h1
    rw [show Tryd.prog.cellsOf _ = 1 from cells_strsF] at h2
    obtain ⟨z0, e0, _, _⟩ := DataW.trod_int Tryd.underlying3 h0
    obtain ⟨z1, e1, _, w1⟩ := DataW.trod_int Tryd.underlying3 h1
    obtain ⟨v, l, e2, hs, hz, hb, hk⟩ := names_read h2 hr
    simp at e0 e1 e2
    subst e0 e1 e2
    refine ⟨(⟨z0, z1, l⟩, _), rfl, ⟨hs, hz, hb, wf_i64 w1⟩, ?_⟩
    rw [bulk_agg, bulk_cons, bulk_cons, bulk_cons]
    show namesLen l + 1 ≤ _
    omega
theorem sum_wlen (l : List (WrP × Value)) : (l.map fun p => wlen p.1).sum ≤ 40 * (l.map fun p : WrP × Value => namesLen p.1.names + 1).sum := by
  induction l with
  | nil => simp
  | cons a l ih =>
    simp only [List.map_cons, List.sum_cons]
    unfold wlen at *
    omega
set_option maxRecDepth 100000 in
/-- An error. -/
theorem er_read {w : World} {base fuel : Nat} {spare : Nat → Bool} {held : Bool} {cs : List Value} {x : DataW H × List MemPlace} (h : DataW.trod enc Tryd.prog w base spare held fuel 25 cs = some x) (hw : Reached Tryd.prog 25 x.1) (hb : Rows.uptoBulk x.1 ≤ 1048576) :
    ∃ (code : Int) (own : List UInt8) (lv : Value) (L : List (WrP × Value)), cs = [.int .i64 code, .string (st own), lv] ∧ EIn w own lv L := by
  obtain ⟨y0, y1, y2, n, hx, hl, h0, h1, h2⟩ := Go.Deep.trod_struct3 Tryd.underlying25 h
  subst hx
  have hr : Reached Tryd.prog 23 y2.1 := fun m' hm' => hw m' (by
    unfold DataW.weights
    rw [Tryd.underlying25]
    simp only [List.map_cons, List.map_nil, DataW.weightsEach, List.append_nil]
    exact List.mem_append_right _ (List.mem_append_right _ hm'))
  rw [cells_err] at hl
  match cs, hl with
  | [c0, c1, c2], _ =>
    rw [show Tryd.prog.cellsOf _ = 1 from cells_intF] at h0
    rw [show Tryd.prog.cellsOf _ = 1 from cells_st] at h1
    rw [show Tryd.prog.cellsOf _ = 1 from cells_wrapsF] at h2
    obtain ⟨z0, e0, _, _⟩ := DataW.trod_int Tryd.underlying3 h0
    obtain ⟨z1, e1, x1, _⟩ := DataW.trod_string Tryd.underlying9 h1
    obtain ⟨v, l, e2, hs, ha, _, _, hk⟩ := slice_readB (f := wrC) (Q := fun p d => WrIn w p ∧ namesLen p.1.names + 1 ≤ Rows.uptoBulk d) Tryd.underlying23 cells_wrap (by omega) wrC_len (fun n cs x _ h hw => by
      obtain ⟨p, a, b, c⟩ := wr_read h hw
      exact ⟨p, a, b, c⟩) h2 hr
    simp at e0 e1 e2
    subst e0 e1 e2
    refine ⟨z0, z1.data.toList, _, l, by rw [← st_of], hs, fun p hp => ?_, ?_⟩
    · obtain ⟨d, h1, _⟩ := ha p hp; exact h1
    · have h3 := hk (fun p => namesLen p.1.names + 1) (fun a d h => h.2)
      have h4 := sum_wlen l
      rw [bulk_agg, bulk_cons, bulk_cons, bulk_cons, x1, bulk_str] at hb
      unfold shN
      omega
end
set_option maxRecDepth 100000 in
theorem er_form {H : Type} {enc : TypeId × Value → H} {w : World} {r : Reach} {b0 base : Nat} {spare : Nat → Bool} {held : Bool} {v : Value} {d : DataW H} {p : List MemPlace}
    (hv : Value.okWide Tryd.prog w r b0 25 v) (h : DataW.Trod enc Tryd.prog w base spare held 25 v d p) (hw : Reached Tryd.prog 25 d) (hb : Rows.uptoBulk d ≤ 1048576) :
    ∃ (code : Int) (own : List UInt8) (lv : Value) (L : List (WrP × Value)), v = .agg #[.int .i64 code, .string (st own), lv] ∧ EIn w own lv L := by
  obtain ⟨cs, rfl, hsz⟩ := okWide_struct Tryd.underlying25 hv
  obtain ⟨fuel, hf⟩ := h
  obtain ⟨l⟩ := cs
  simp only [Value.cells] at hf
  obtain ⟨code, own, lv, L, e, hE⟩ := er_read hf hw hb
  exact ⟨code, own, lv, L, by rw [show l = _ from e], hE⟩

end Go.Proofs.YtndefbkcondmcaaDoor
