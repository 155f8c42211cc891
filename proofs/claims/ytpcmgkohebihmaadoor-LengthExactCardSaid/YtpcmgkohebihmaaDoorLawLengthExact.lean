/- The statement LengthExactCardSaid: for every input, bolterlaw8.LengthExact answers true, and its argument reads as it did; the errors' variables are tied to the program's text. No condition. -/
import Derived.Test.YtpcmgkohebihmaaDoorFaults
import Derived.Test.YtpcmgkohebihmaaDoorLengthExact
namespace Go.Proofs.YtpcmgkohebihmaaDoor.lawLengthExact
open Go Go.ChangeShapes Go.WideShapes Go.ChangeAt Go.RowKit

theorem reads (os : Os) {H : Type} (enc : TypeId × Value → H) : ∃ places, DataW.whole enc Tryd.prog ((laidF os).forCall (fun _ _ => 0) ⟨#[], #[.slice none 0 0], []⟩).memory Tryd.f4.params.toList Rows.lengthExactSpec.vars false #[.slice none 0 0].toList 8 = some ([.nil], [], places) :=
  ⟨[], by kernel_rfl⟩

section
variable {H : Type} {enc : TypeId × Value → H}
set_option maxRecDepth 100000 in
theorem exprs_form {w : World} {r : Reach} {b0 base : Nat} {spare : Nat → Bool} {held : Bool} {v : Value} {d : DataW H} {p : List MemPlace} (hv : Value.okWide Tryd.prog w r b0 25 v) (h : DataW.Trod enc Tryd.prog w base spare held 25 v d p) (hw : Reached Tryd.prog 25 d) :
    ∃ l : List (Ex × List Value), Sl w v 10 l.length (l.flatMap (·.2)) ∧ (∀ p ∈ l, p.2.length = 10) ∧ (∀ p ∈ l, ExIn w p.1 p.2) ∧ l.length ≤ 140737488351232 := by
  obtain ⟨fuel, hf0⟩ := h
  obtain ⟨a0, n0, c0, rfl⟩ := okWide_slice Tryd.underlying25 hv
  obtain ⟨v', l, e6, hs, hq, hb, hz⟩ := slice_readF (f := fun p : ExCells => p.1.2) (Q := fun p => ExIn w p.1.1 p.1.2) Tryd.underlying25 cells_expr (by omega) (fun p => p.2) (fun n' cs x hn' h hw => by
    obtain ⟨e, he⟩ := ex_read n' cs x h hw
    exact ⟨⟨(e, cs), he.len⟩, rfl, he⟩) hf0 hw
  obtain rfl : Value.slice a0 n0 c0 = v' := by simpa [Value.cells] using e6
  rw [bytes_expr, reach_num] at hb
  refine ⟨l.map (·.1), by rw [List.length_map, List.flatMap_map]; exact hs, fun p hp => ?_, fun p hp => ?_, by rw [List.length_map]; omega⟩
  · obtain ⟨q, _, rfl⟩ := List.mem_map.1 hp
    exact q.2
  · obtain ⟨q, hq', rfl⟩ := List.mem_map.1 hp
    exact hq q hq'
end

set_option maxRecDepth 100000 in
theorem lifted (os : Os) (started : os.Started) (H : Type) (enc : TypeId × Value → H) (F : Stop.Interp) :
    ReturnsInHanded {} Tryd.checked os 4 .any ((OpenSpec.ofChange Rows.lengthExactSpec).preRow enc Tryd.prog Tryd.f4 Rows.lengthExactRow.domain false Rows.lengthExactRow.laid) (((OpenSpec.ofChange Rows.lengthExactSpec).at F).post enc Tryd.prog Tryd.f4 false true false false) := by
  obtain ⟨places, hx⟩ := reads os enc
  refine returnsInHanded_of_row (C := Tryd.checked) (s := OpenSpec.ofChange Rows.lengthExactSpec) own_knob started (by kernel_rfl) Tryd.func4
    (witness_row_atRef (enc := enc) (C := Tryd.checked) false (laidF os) #[.slice none 0 0] (laidF_os os) (by kernel_rfl) (by kernel_rfl) (by kernel_rfl)
      (OpenSpec.preRow_of_cond 8 hx (by kernel_rfl) (fun k hk => by cases hk) (by kernel_rfl) (laidF_met os _))) ?_
  intro W base args ds gs before hval0 hW _ _ hWt hL _ _
  have hval : ∀ (j : Nat) t v, Tryd.f4.params[j]? = some t → args[j]? = some v → Value.okWide Tryd.prog W .any base t v := hval0
  have hW' := hW
  obtain ⟨p, q, hA0, hV, rfl, hfz, hnd⟩ := hW
  have hA : DataW.TrodAll enc Tryd.prog W 0 (fun _ => true) true Tryd.f4.params.toList args.toList ds p := hA0
  rw [Tryd.params4] at hA hval hWt
  obtain ⟨v0, vs0, d0, ds0, p0, q0, hargs, rfl, rfl, h0, r0⟩ := trodAll_cons hA
  obtain ⟨rfl, rfl, rfl⟩ := trodAll_nil r0
  obtain rfl : args = #[v0] := by cases args; simp_all
  obtain ⟨l, hs, hlen, hl, hb⟩ := exprs_form (hval 0 _ v0 rfl rfl) h0 (reached_each _ _ _ _ _ hWt)
  obtain ⟨rfl, rfl⟩ := trodVars_none hV
  obtain ⟨s, hF⟩ := faults_of hL
  refine (lengthExact_any l v0 W hs hlen hl s hF hb).mono fun e W' ⟨he, hg⟩ => ?_
  subst he
  exact ⟨_, rfl, law_post hW' hg rfl (by kernel_rfl) (by kernel_rfl) rfl⟩

theorem said : Rows.LengthExactSaid :=
  OpenClaim.holds_of_cond 4 Tryd.f4 rfl rfl rfl rfl rfl rfl rfl ⟨rfl, rfl, rfl, rfl, rfl⟩ rfl rfl rfl rfl rfl (by kernel_rfl) Tryd.func4 (by kernel_rfl)
    (of_decide_eq_true (by kernel_rfl)) (by unfold Func.isWrapper; first | (rw [if_pos (by decide +kernel)]; kernel_rfl) | (rw [if_neg (by decide +kernel)]; exact ⟨rfl, rfl⟩))
    (fun os started H enc _ F => by rw [OpenClaim.pre_eq_preRow]; exact lifted os started H enc F)

theorem plain (f : FuncId) (fn : Func) (hf : Tryd.pinned.checked.prog.funcNamed "bolter/bolterlaw8.LengthExact" = some f) (hfn : Tryd.pinned.checked.prog.funcs[f]? = some fn) :
    true = Tryd.pinned.checked.prog.looks [] ∧ ∀ (j : Nat) t, fn.params[j]? = some t → Tryd.pinned.checked.prog.wantsStandIn t = false := by
  obtain rfl : f = 4 := Option.some.inj ((show Tryd.prog.funcNamed "bolter/bolterlaw8.LengthExact" = some 4 by kernel_rfl).symm.trans hf) |>.symm
  obtain rfl : fn = Tryd.f4 := (Option.some.inj (Tryd.func4.symm.trans hfn)).symm
  refine ⟨by kernel_rfl, fun j t ht => ?_⟩
  rw [Tryd.params4] at ht
  obtain rfl : t = 25 := by simpa using Array.mem_of_getElem? ht
  exact (show Tryd.prog.wantsStandIn 25 = false by kernel_rfl)

theorem proved : Rows.LengthExactCardSaid :=
  Claim7.holds_tied_plain_at .later [] _ _ _ _ said (fun _ h => by cases h) (by kernel_rfl) (fun _ h => by cases h) lengthExact_row_tie rfl ⟨rfl, rfl⟩ (by kernel_rfl) rfl plain (by kernel_rfl)
end Go.Proofs.YtpcmgkohebihmaaDoor.lawLengthExact
