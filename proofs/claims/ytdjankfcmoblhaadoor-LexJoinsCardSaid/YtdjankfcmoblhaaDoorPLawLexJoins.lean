/- The statement LexJoinsCardSaid: for every two texts, bolterlaw4.LexJoins answers true, and its argument reads as it did; the errors' variables are tied to the program's text. No condition. Printed by gen_lawstr.py. -/
import Derived.Test.YtdjankfcmoblhaaDoorPGe
import Derived.Test.YtdjankfcmoblhaaDoorPGh
import Derived.Test.YtdjankfcmoblhaaDoorPLexJoins
import Derived.ChangeMaps5
namespace Go.Proofs.YtdjankfcmoblhaaDoor.lawLexJoins
open Go Go.ChangeShapes Go.WideShapes Go.ChangeAt Go.RowKit

noncomputable def zero2 : Value := .agg #[.string { data := #[] }, .string { data := #[] }]
noncomputable def zeroD {H : Type} : DataW H := .agg [.lit (.string []), .lit (.string [])]
theorem reads (os : Os) {H : Type} (enc : TypeId × Value → H) : ∃ places, DataW.whole enc Tryd.prog ((laidF os).forCall (fun _ _ => 0) ⟨#[], #[zero2], []⟩).memory Tryd.f7.params.toList Rows.lexJoinsSpec.vars false #[zero2].toList 8 = some ([zeroD], [], places) :=
  ⟨[], by kernel_rfl⟩

theorem cells_join : Tryd.prog.cellsOf 40 = 2 := by kernel_rfl
set_option maxRecDepth 100000 in
theorem join_form {H : Type} {enc : TypeId × Value → H} {w : World} {r : Reach} {b0 base : Nat} {spare : Nat → Bool} {held : Bool} {v : Value} {d : DataW H} {p : List MemPlace}
    (hv : Value.okWide Tryd.prog w r b0 40 v) (h : DataW.Trod enc Tryd.prog w base spare held 40 v d p) (hw : Reached Tryd.prog 40 d) :
    ∃ (A B : List UInt8), v = .agg #[.string (st A), .string (st B)] ∧ A.length ≤ reachBytes ∧ B.length ≤ reachBytes := by
  obtain ⟨cs, rfl, hsz⟩ := okWide_struct Tryd.underlying40 hv
  rw [cells_join] at hsz
  obtain ⟨fuel, hf⟩ := h
  obtain ⟨y0, y1, n, hx, _, h0, h1⟩ := trod_struct2 Tryd.underlying40 hf
  have hd := (Prod.mk.inj hx).1
  subst hd
  have hr : ∀ m', (m' ∈ y0.1.weights Tryd.prog 9 ∨ m' ∈ y1.1.weights Tryd.prog 9) → m' ≤ reachBytes := fun m' hm' => hw m' (by
    unfold DataW.weights
    rw [Tryd.underlying40]
    simp only [List.map_cons, List.map_nil, DataW.weightsEach, List.append_nil]
    rcases hm' with hm' | hm'
    · exact List.mem_append_left _ hm'
    · exact List.mem_append_right _ hm')
  obtain ⟨l⟩ := cs
  match l, hsz with
  | [v0, v1], _ =>
    simp only [Value.cells, cells_st] at h0 h1
    obtain ⟨sA, eA, wA, _⟩ := DataW.trod_string Tryd.underlying9 h0
    obtain ⟨sM, eM, wM, _⟩ := DataW.trod_string Tryd.underlying9 h1
    simp only [List.drop_zero, List.take_succ_cons, List.take_zero, List.drop_succ_cons, List.cons.injEq, and_true] at eA eM
    subst eA eM
    refine ⟨sA.data.toList, sM.data.toList, by rw [← st_of, ← st_of], ?_, ?_⟩
    · exact hr _ (.inl (by rw [wA]; simp [DataW.weights]))
    · exact hr _ (.inr (by rw [wM]; simp [DataW.weights]))

set_option maxRecDepth 100000 in
theorem lifted (os : Os) (started : os.Started) (H : Type) (enc : TypeId × Value → H) (F : Stop.Interp) :
    ReturnsInHanded {} Tryd.checked os 7 .any ((OpenSpec.ofChange Rows.lexJoinsSpec).preRow enc Tryd.prog Tryd.f7 Rows.lexJoinsRow.domain false Rows.lexJoinsRow.laid) (((OpenSpec.ofChange Rows.lexJoinsSpec).at F).post enc Tryd.prog Tryd.f7 false true false false) := by
  obtain ⟨places, hx⟩ := reads os enc
  refine returnsInHanded_of_row (C := Tryd.checked) (s := OpenSpec.ofChange Rows.lexJoinsSpec) own_knob started (by kernel_rfl) Tryd.func7
    (witness_row_atRef (enc := enc) (C := Tryd.checked) false (laidF os) #[zero2] (laidF_os os) (by kernel_rfl) (by kernel_rfl) (by kernel_rfl)
      (OpenSpec.preRow_of_cond 8 hx (by kernel_rfl) (fun k hk => by cases hk) (by kernel_rfl) (laidF_met os _))) ?_
  intro W base args ds gs before hval0 hW _ _ hWt hL hsh _
  have hval : ∀ (j : Nat) t v, Tryd.f7.params[j]? = some t → args[j]? = some v → Value.okWide Tryd.prog W .any base t v := hval0
  have hW' := hW
  obtain ⟨p, q, hA0, hV, rfl, hfz, hnd⟩ := hW
  have hA : DataW.TrodAll enc Tryd.prog W 0 (fun _ => true) true Tryd.f7.params.toList args.toList ds p := hA0
  rw [Tryd.params7] at hA hval hWt
  obtain ⟨v0, vs0, d0, ds0, p0, q0, hargs, rfl, rfl, h0, r0⟩ := trodAll_cons hA
  obtain ⟨rfl, rfl, rfl⟩ := trodAll_nil r0
  obtain rfl : args = #[v0] := by cases args; simp_all
  obtain ⟨A, B, rfl, hlA, hlB⟩ := join_form (hval 0 _ v0 rfl rfl) h0 (reached_each _ _ _ _ _ hWt)
  obtain ⟨rfl, rfl⟩ := trodVars_none hV
  obtain ⟨s, hF⟩ := faults_of hL
  refine (lexJoins_any A B s W (by have := reach_num; omega) (by have := reach_num; omega) hF (Tryd.laysM145.s1_3 W hsh)).mono fun e W' ⟨he, hg⟩ => ?_
  subst he
  exact ⟨_, rfl, law_post hW' hg rfl (by kernel_rfl) (by kernel_rfl) rfl⟩

theorem said : Rows.LexJoinsSaid :=
  OpenClaim.holds_of_cond 7 Tryd.f7 rfl rfl rfl rfl rfl rfl rfl ⟨rfl, rfl, rfl, rfl, rfl⟩ rfl rfl rfl rfl rfl (by kernel_rfl) Tryd.func7 (by kernel_rfl)
    (of_decide_eq_true (by kernel_rfl)) (by unfold Func.isWrapper; first | (rw [if_pos (by decide +kernel)]; kernel_rfl) | (rw [if_neg (by decide +kernel)]; exact ⟨rfl, rfl⟩))
    (fun os started H enc _ F => by rw [OpenClaim.pre_eq_preRow]; exact lifted os started H enc F)

theorem plain (f : FuncId) (fn : Func) (hf : Tryd.pinned.checked.prog.funcNamed "bolter/bolterlaw4.LexJoins" = some f) (hfn : Tryd.pinned.checked.prog.funcs[f]? = some fn) :
    true = Tryd.pinned.checked.prog.looks [] ∧ ∀ (j : Nat) t, fn.params[j]? = some t → Tryd.pinned.checked.prog.wantsStandIn t = false := by
  obtain rfl : f = 7 := Option.some.inj ((show Tryd.prog.funcNamed "bolter/bolterlaw4.LexJoins" = some 7 by kernel_rfl).symm.trans hf) |>.symm
  obtain rfl : fn = Tryd.f7 := (Option.some.inj (Tryd.func7.symm.trans hfn)).symm
  refine ⟨by kernel_rfl, fun j t ht => ?_⟩
  rw [Tryd.params7] at ht
  obtain rfl : t = 40 := by simpa using Array.mem_of_getElem? ht
  exact (show Tryd.prog.wantsStandIn 40 = false by kernel_rfl)

theorem proved : Rows.LexJoinsCardSaid :=
  Claim7.holds_tied_plain_at .later [] _ _ _ _ said (fun _ h => by cases h) (by kernel_rfl) (fun _ h => by cases h) lexJoins_row_tie rfl ⟨rfl, rfl⟩ (by kernel_rfl) rfl plain (by kernel_rfl)
end Go.Proofs.YtdjankfcmoblhaaDoor.lawLexJoins
