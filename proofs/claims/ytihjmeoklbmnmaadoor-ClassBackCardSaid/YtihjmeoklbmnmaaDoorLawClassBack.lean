/- The statement ClassBackCardSaid: for every input, bolterlaw3.ClassBack answers true, and its argument reads as it did; the errors' variables are tied to the program's text. No condition. -/
import Derived.Test.YtihjmeoklbmnmaaDoorErrS
import Derived.Test.YtihjmeoklbmnmaaDoorClassBack
namespace Go.Proofs.YtihjmeoklbmnmaaDoor.lawClassBack
open Go Go.ChangeShapes Go.WideShapes Go.ChangeAt Go.RowKit

noncomputable def zero4 : Value := .agg #[.slice none 0 0, .slice none 0 0, .string ⟨#[]⟩, .string ⟨#[]⟩]
noncomputable def zeroD {H : Type} : DataW H := .agg [.agg [.nil, .nil], .lit (.string []), .lit (.string [])]
noncomputable def laidW (os : Os) : World := World.laidAll Tryd.prog os Rows.classBackRow.laid

theorem laid_met (os : Os) : laidMet Tryd.prog Rows.classBackRow.laid ((laidW os).forCall (fun _ _ => 0) ⟨#[], #[zero4], []⟩).memory :=
  laidMet_laidAll _ (by kernel_rfl) (by kernel_rfl)
theorem reads (os : Os) {H : Type} (enc : TypeId × Value → H) : ∃ places, DataW.whole enc Tryd.prog ((laidW os).forCall (fun _ _ => 0) ⟨#[], #[zero4], []⟩).memory Tryd.f5.params.toList Rows.classBackSpec.vars false #[zero4].toList 8 = some ([zeroD], [], places) :=
  ⟨[], by kernel_rfl⟩

theorem cells_round : Tryd.prog.cellsOf 41 = 4 := by kernel_rfl
set_option maxRecDepth 100000 in
theorem round_form {H : Type} {enc : TypeId × Value → H} {w : World} {r : Reach} {b0 base : Nat} {spare : Nat → Bool} {held : Bool} {v : Value} {d : DataW H} {p : List MemPlace}
    (hv : Value.okWide Tryd.prog w r b0 41 v) (h : DataW.Trod enc Tryd.prog w base spare held 41 v d p) (hw : Reached Tryd.prog 41 d) :
    ∃ (p q : Option Addr) (c d : Nat) (ls : List (BitVec 256)) (lt : List (List UInt8)) (A M : List UInt8), v = .agg #[.slice p ls.length c, .slice q lt.length d, .string (st A), .string (st M)] ∧
      Sl w (.slice p ls.length c) 4 ls.length (ls.flatMap setCells) ∧ Sl w (.slice q lt.length d) 1 lt.length (lt.map vS) ∧ A.length ≤ reachBytes ∧ M.length ≤ reachBytes := by
  obtain ⟨cs, rfl, hsz⟩ := okWide_struct Tryd.underlying41 hv
  rw [cells_round] at hsz
  obtain ⟨fuel, hf⟩ := h
  obtain ⟨y0, y1, y2, n, hx, _, h0, h1, h2⟩ := Go.Deep.trod_struct3 Tryd.underlying41 hf
  have hd := (Prod.mk.inj hx).1
  subst hd
  have hr : ∀ m', (m' ∈ y0.1.weights Tryd.prog 25 ∨ m' ∈ y1.1.weights Tryd.prog 9 ∨ m' ∈ y2.1.weights Tryd.prog 9) → m' ≤ reachBytes := fun m' hm' => hw m' (by
    unfold DataW.weights
    rw [Tryd.underlying41]
    simp only [List.map_cons, List.map_nil, DataW.weightsEach, List.append_nil]
    rcases hm' with hm' | hm' | hm'
    · exact List.mem_append_left _ hm'
    · exact List.mem_append_right _ (List.mem_append_left _ hm')
    · exact List.mem_append_right _ (List.mem_append_right _ hm'))
  obtain ⟨l⟩ := cs
  match l, hsz with
  | [v0, v1, v2, v3], _ =>
    simp only [Value.cells, cells_writ, cells_st] at h0 h1 h2
    obtain ⟨vs, vt, ls, lt, e0, hs, ht⟩ := writ_read (by simp) h0 (fun m hm => hr m (.inl hm))
    obtain ⟨sA, eA, wA, _⟩ := DataW.trod_string Tryd.underlying9 h1
    obtain ⟨sM, eM, wM, _⟩ := DataW.trod_string Tryd.underlying9 h2
    simp only [List.drop_zero, List.take_succ_cons, List.take_zero, List.drop_succ_cons, List.cons.injEq, and_true] at e0 eA eM
    obtain ⟨rfl, rfl⟩ := e0
    subst eA eM
    obtain ⟨p, c, rfl⟩ := hs.len
    obtain ⟨q, d, rfl⟩ := ht.len
    refine ⟨p, q, c, d, ls, lt, sA.data.toList, sM.data.toList, by rw [← st_of, ← st_of], hs, ht, ?_, ?_⟩
    · exact hr _ (.inr (.inl (by rw [wA]; simp [DataW.weights])))
    · exact hr _ (.inr (.inr (by rw [wM]; simp [DataW.weights])))

set_option maxRecDepth 100000 in
theorem lifted (os : Os) (started : os.Started) (H : Type) (enc : TypeId × Value → H) (F : Stop.Interp) :
    ReturnsInHanded {} Tryd.checked os 5 .any ((OpenSpec.ofChange Rows.classBackSpec).preRow enc Tryd.prog Tryd.f5 Rows.classBackRow.domain false Rows.classBackRow.laid) (((OpenSpec.ofChange Rows.classBackSpec).at F).post enc Tryd.prog Tryd.f5 false true false false) := by
  obtain ⟨places, hx⟩ := reads os enc
  refine returnsInHanded_of_row (C := Tryd.checked) (s := OpenSpec.ofChange Rows.classBackSpec) own_knob started (by kernel_rfl) Tryd.func5
    (witness_row_atRef (enc := enc) (C := Tryd.checked) false (laidW os) #[zero4] (World.laidAll_os _ _ _) (by kernel_rfl) (by kernel_rfl) (by kernel_rfl)
      (OpenSpec.preRow_of_cond 8 hx (by kernel_rfl) (fun k hk => by cases hk) (by kernel_rfl) (laid_met os))) ?_
  intro W base args ds gs before hval0 hW _ _ hWt hL hsh _
  have hval : ∀ (j : Nat) t v, Tryd.f5.params[j]? = some t → args[j]? = some v → Value.okWide Tryd.prog W .any base t v := hval0
  have hW' := hW
  obtain ⟨p, q, hA0, hV, rfl, hfz, hnd⟩ := hW
  have hA : DataW.TrodAll enc Tryd.prog W 0 (fun _ => true) true Tryd.f5.params.toList args.toList ds p := hA0
  rw [Tryd.params5] at hA hval hWt
  obtain ⟨v0, vs0, d0, ds0, p0, q0, hargs, rfl, rfl, h0, r0⟩ := trodAll_cons hA
  obtain ⟨rfl, rfl, rfl⟩ := trodAll_nil r0
  obtain rfl : args = #[v0] := by cases args; simp_all
  obtain ⟨p1, p2, c1, c2, ls, lt, A, M, rfl, hs, ht, hlA, hlM⟩ := round_form (hval 0 _ v0 rfl rfl) h0 (reached_each _ _ _ _ _ hWt)
  obtain ⟨rfl, rfl⟩ := trodVars_none hV
  obtain ⟨es, ed, hS⟩ := sy0_of hL hsh
  refine (classBack_any ls lt A M p1 p2 c1 c2 es ed W hs ht hS (by have := reach_num; omega) (by have := reach_num; omega)).mono fun e W' ⟨he, hg⟩ => ?_
  subst he
  exact ⟨_, rfl, law_post hW' hg rfl (by kernel_rfl) (by kernel_rfl) rfl⟩

theorem said : Rows.ClassBackSaid :=
  OpenClaim.holds_of_cond 5 Tryd.f5 rfl rfl rfl rfl rfl rfl rfl ⟨rfl, rfl, rfl, rfl, rfl⟩ rfl rfl rfl rfl rfl (by kernel_rfl) Tryd.func5 (by kernel_rfl)
    (of_decide_eq_true (by kernel_rfl)) (by unfold Func.isWrapper; first | (rw [if_pos (by decide +kernel)]; kernel_rfl) | (rw [if_neg (by decide +kernel)]; exact ⟨rfl, rfl⟩))
    (fun os started H enc _ F => by rw [OpenClaim.pre_eq_preRow]; exact lifted os started H enc F)

theorem plain (f : FuncId) (fn : Func) (hf : Tryd.pinned.checked.prog.funcNamed "bolter/bolterlaw3.ClassBack" = some f) (hfn : Tryd.pinned.checked.prog.funcs[f]? = some fn) :
    true = Tryd.pinned.checked.prog.looks [] ∧ ∀ (j : Nat) t, fn.params[j]? = some t → Tryd.pinned.checked.prog.wantsStandIn t = false := by
  obtain rfl : f = 5 := Option.some.inj ((show Tryd.prog.funcNamed "bolter/bolterlaw3.ClassBack" = some 5 by kernel_rfl).symm.trans hf) |>.symm
  obtain rfl : fn = Tryd.f5 := (Option.some.inj (Tryd.func5.symm.trans hfn)).symm
  refine ⟨by kernel_rfl, fun j t ht => ?_⟩
  rw [Tryd.params5] at ht
  obtain rfl : t = 41 := by simpa using Array.mem_of_getElem? ht
  exact (show Tryd.prog.wantsStandIn 41 = false by kernel_rfl)

theorem proved : Rows.ClassBackCardSaid :=
  Claim7.holds_tied_plain_at .later [] _ _ _ _ said (fun _ h => by cases h) (by kernel_rfl) (fun _ h => by cases h) classBack_row_tie rfl ⟨rfl, rfl⟩ (by kernel_rfl) rfl plain (by kernel_rfl)
end Go.Proofs.YtihjmeoklbmnmaaDoor.lawClassBack
