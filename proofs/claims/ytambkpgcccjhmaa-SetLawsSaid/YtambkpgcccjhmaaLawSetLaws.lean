/- The statement SetLawsSaid: for every input, bolterlaw1.SetLaws answers true, and its argument reads as it did. No condition. -/
import Derived.Test.YtambkpgcccjhmaaFrame
import Derived.Test.YtambkpgcccjhmaaSetLaws
namespace Go.Proofs.Ytambkpgcccjhmaa.lawSetLaws
open Go Go.ChangeShapes Go.WideShapes Go.ChangeAt Go.RowKit

theorem cells_three : Try.prog.cellsOf 26 = 12 := by kernel_rfl

/-- Three sets, as they are handed in. -/
theorem three_form {H : Type} {enc : TypeId × Value → H} {w : World} {r : Reach} {b0 base : Nat} {spare : Nat → Bool} {held : Bool} {v : Value} {d : DataW H} {p : List MemPlace}
    (hv : Value.okWide Try.prog w r b0 26 v) (h : DataW.Trod enc Try.prog w base spare held 26 v d p) :
    ∃ A B C : BitVec 256, v = .agg #[.int .u64 (wd A 0), .int .u64 (wd A 1), .int .u64 (wd A 2), .int .u64 (wd A 3), .int .u64 (wd B 0), .int .u64 (wd B 1), .int .u64 (wd B 2), .int .u64 (wd B 3), .int .u64 (wd C 0), .int .u64 (wd C 1), .int .u64 (wd C 2), .int .u64 (wd C 3)] := by
  obtain ⟨cs, rfl, hsz⟩ := okWide_struct Try.underlying26 hv
  rw [cells_three] at hsz
  obtain ⟨fuel, hf⟩ := h
  obtain ⟨y0, y1, y2, n, _, _, h0, h1, h2⟩ := Go.Deep.trod_struct3 Try.underlying26 hf
  obtain ⟨l⟩ := cs
  simp only [Value.cells, cells_set] at h0 h1 h2
  obtain ⟨A, eA⟩ := trod_set h0
  obtain ⟨B, eB⟩ := trod_set h1
  obtain ⟨C, eC⟩ := trod_set h2
  simp only [List.size_toArray] at hsz
  match l, hsz with
  | [c0, c1, c2, c3, c4, c5, c6, c7, c8, c9, c10, c11], _ =>
    simp at eA eB eC
    obtain ⟨rfl, rfl, rfl, rfl⟩ := eA
    obtain ⟨rfl, rfl, rfl, rfl⟩ := eB
    obtain ⟨rfl, rfl, rfl, rfl⟩ := eC
    exact ⟨A, B, C, rfl⟩

set_option maxRecDepth 100000 in
theorem lifted (os : Os) (started : os.Started) (H : Type) (enc : TypeId × Value → H) :
    ReturnsInHanded {} Try.checked os 3 .any (Rows.setLawsSpec.pre6 enc Try.prog Try.f3 Rows.setLawsRow.domain false) (Rows.setLawsSpec.post enc Try.prog Try.f3 false true false false) := by
  refine returnsInHanded_of_change (C := Try.checked) own_knob started (by kernel_rfl) Try.func3
    (ChangeSpec.witness6 (enc := enc) (C := Try.checked) false ⟨#[], #[.agg #[.int .u64 0, .int .u64 0, .int .u64 0, .int .u64 0, .int .u64 0, .int .u64 0, .int .u64 0, .int .u64 0, .int .u64 0, .int .u64 0, .int .u64 0, .int .u64 0]], []⟩ 8 (by kernel_rfl) (by kernel_rfl) (by kernel_rfl) (by kernel_rfl)) ?_
  intro W base args ds gs before hval0 hW _ _
  have hval : ∀ (j : Nat) t v, Try.f3.params[j]? = some t → args[j]? = some v → Value.okWide Try.prog W .any base t v := hval0
  have hW' := hW
  obtain ⟨p, q, hA0, hV, rfl, hfz, hnd⟩ := hW
  have hA : DataW.TrodAll enc Try.prog W 0 (fun _ => true) true Try.f3.params.toList args.toList ds p := hA0
  rw [Try.params3] at hA hval
  obtain ⟨v0, vs0, d0, ds0, p0, q0, hargs, rfl, rfl, h0, r0⟩ := trodAll_cons hA
  obtain ⟨rfl, rfl, rfl⟩ := trodAll_nil r0
  obtain rfl : args = #[v0] := by cases args; simp_all
  obtain ⟨A, B, C, rfl⟩ := three_form (hval 0 _ v0 rfl rfl) h0
  obtain ⟨rfl, rfl⟩ := trodVars_none hV
  refine (setLaws_any A B C W).mono fun e W' ⟨he, hg⟩ => ?_
  subst he
  exact ⟨_, rfl, law_post hW' hg rfl (by kernel_rfl) (by kernel_rfl) rfl⟩

theorem proved : Rows.SetLawsSaid :=
  OpenClaim.holds_of_wide 3 Try.f3 rfl rfl rfl rfl rfl rfl rfl ⟨rfl, rfl, rfl, rfl, rfl⟩ rfl rfl rfl rfl rfl (by kernel_rfl) Try.func3 (by kernel_rfl)
    (of_decide_eq_true (by kernel_rfl)) (by unfold Func.isWrapper; first | (rw [if_pos (by decide +kernel)]; kernel_rfl) | (rw [if_neg (by decide +kernel)]; exact ⟨rfl, rfl⟩))
    (fun os started H enc _ => lifted os started H enc)

end Go.Proofs.Ytambkpgcccjhmaa.lawSetLaws
