/- The statement LengthTrailsCardSaid: for every input, bolterlaw8.LengthTrails answers true, and its argument reads as it did; the errors' variables are tied to the program's text. No condition. -/
import Derived.Test.YtpcmgkohebihmaaDoorFaults
import Derived.Test.YtpcmgkohebihmaaDoorLengthTrails
namespace Go.Proofs.YtpcmgkohebihmaaDoor.lawLengthTrails
open Go Go.ChangeShapes Go.WideShapes Go.ChangeAt Go.RowKit

theorem reads (os : Os) {H : Type} (enc : TypeId × Value → H) : ∃ places, DataW.whole enc Tryd.prog ((laidF os).forCall (fun _ _ => 0) ⟨#[], #[.slice none 0 0], []⟩).memory Tryd.f6.params.toList Rows.lengthTrailsSpec.vars false #[.slice none 0 0].toList 8 = some ([.nil], [], places) :=
  ⟨[], by kernel_rfl⟩

section
variable {H : Type} {enc : TypeId × Value → H}
theorem bytes_two : Tryd.prog.bytesOf 29 = 208 := by kernel_rfl
set_option maxRecDepth 100000 in
theorem tw_read {w : World} {base : Nat} {spare : Nat → Bool} {held : Bool} (n : Nat) (cs : List Value) (x : DataW H × List MemPlace) (h : DataW.trod enc Tryd.prog w base spare held n 29 cs = some x) (hw : Reached Tryd.prog 29 x.1) : ∃ y : Ex × Ex, TwIn w y cs := by
  obtain ⟨y0, y1, m, hx, hl, h0, h1⟩ := trod_struct2 Tryd.underlying29 h
  have hr : ∀ m', (m' ∈ y0.1.weights Tryd.prog 27 ∨ m' ∈ y1.1.weights Tryd.prog 27) → m' ≤ reachBytes := fun m' hm' => hw m' (by
    rw [hx]
    unfold DataW.weights
    rw [Tryd.underlying29]
    simp only [List.map_cons, List.map_nil, DataW.weightsEach, List.append_nil]
    rcases hm' with hm' | hm'
    · exact List.mem_append_left _ hm'
    · exact List.mem_append_right _ hm')
  rw [cells_two] at hl
  simp only [cells_expr] at h0 h1
  obtain ⟨e, he⟩ := ex_read m _ y0 h0 (fun m' hm' => hr m' (.inl hm'))
  obtain ⟨f, hf⟩ := ex_read m _ y1 h1 (fun m' hm' => hr m' (.inr hm'))
  have e1 : cs = (cs.drop 0).take 10 ++ (cs.drop 10).take 10 := by
    have e2 : (cs.drop 10).take 10 = cs.drop 10 := List.take_of_length_le (by rw [List.length_drop]; omega)
    rw [e2, List.drop_zero, List.take_append_drop]
  exact ⟨(e, f), _, _, e1, he, hf⟩
/-- Two expressions and their 20 cells. -/
def TwCells := { p : (Ex × Ex) × List Value // p.2.length = 20 }
instance : Inhabited TwCells := ⟨⟨((.mk 0 0 0#256 ⟨#[]⟩ 0 0 [], .mk 0 0 0#256 ⟨#[]⟩ 0 0 []), List.replicate 20 (.bool true)), by simp⟩⟩
set_option maxRecDepth 100000 in
theorem twos_form {w : World} {r : Reach} {b0 base : Nat} {spare : Nat → Bool} {held : Bool} {v : Value} {d : DataW H} {p : List MemPlace} (hv : Value.okWide Tryd.prog w r b0 62 v) (h : DataW.Trod enc Tryd.prog w base spare held 62 v d p) (hw : Reached Tryd.prog 62 d) :
    ∃ l : List ((Ex × Ex) × List Value), Sl w v 20 l.length (l.flatMap (·.2)) ∧ ∀ p ∈ l, TwIn w p.1 p.2 := by
  obtain ⟨fuel, hf0⟩ := h
  obtain ⟨a0, n0, c0, rfl⟩ := okWide_slice Tryd.underlying62 hv
  obtain ⟨v', l, e6, hs, hq, _⟩ := slice_readF (f := fun p : TwCells => p.1.2) (Q := fun p => TwIn w p.1.1 p.1.2) Tryd.underlying62 cells_two (by omega) (fun p => p.2) (fun n' cs x hn' h hw => by
    obtain ⟨y, hy⟩ := tw_read n' cs x h hw
    exact ⟨⟨(y, cs), hy.len⟩, rfl, hy⟩) hf0 hw
  obtain rfl : Value.slice a0 n0 c0 = v' := by simpa [Value.cells] using e6
  refine ⟨l.map (·.1), by rw [List.length_map, List.flatMap_map]; exact hs, fun p hp => ?_⟩
  obtain ⟨q, hq', rfl⟩ := List.mem_map.1 hp
  exact hq q hq'
end

set_option maxRecDepth 100000 in
theorem lifted (os : Os) (started : os.Started) (H : Type) (enc : TypeId × Value → H) (F : Stop.Interp) :
    ReturnsInHanded {} Tryd.checked os 6 .any ((OpenSpec.ofChange Rows.lengthTrailsSpec).preRow enc Tryd.prog Tryd.f6 Rows.lengthTrailsRow.domain false Rows.lengthTrailsRow.laid) (((OpenSpec.ofChange Rows.lengthTrailsSpec).at F).post enc Tryd.prog Tryd.f6 false true false false) := by
  obtain ⟨places, hx⟩ := reads os enc
  refine returnsInHanded_of_row (C := Tryd.checked) (s := OpenSpec.ofChange Rows.lengthTrailsSpec) own_knob started (by kernel_rfl) Tryd.func6
    (witness_row_atRef (enc := enc) (C := Tryd.checked) false (laidF os) #[.slice none 0 0] (laidF_os os) (by kernel_rfl) (by kernel_rfl) (by kernel_rfl)
      (OpenSpec.preRow_of_cond 8 hx (by kernel_rfl) (fun k hk => by cases hk) (by kernel_rfl) (laidF_met os _))) ?_
  intro W base args ds gs before hval0 hW _ _ hWt hL _ _
  have hval : ∀ (j : Nat) t v, Tryd.f6.params[j]? = some t → args[j]? = some v → Value.okWide Tryd.prog W .any base t v := hval0
  have hW' := hW
  obtain ⟨p, q, hA0, hV, rfl, hfz, hnd⟩ := hW
  have hA : DataW.TrodAll enc Tryd.prog W 0 (fun _ => true) true Tryd.f6.params.toList args.toList ds p := hA0
  rw [Tryd.params6] at hA hval hWt
  obtain ⟨v0, vs0, d0, ds0, p0, q0, hargs, rfl, rfl, h0, r0⟩ := trodAll_cons hA
  obtain ⟨rfl, rfl, rfl⟩ := trodAll_nil r0
  obtain rfl : args = #[v0] := by cases args; simp_all
  obtain ⟨l, hs, hl⟩ := twos_form (hval 0 _ v0 rfl rfl) h0 (reached_each _ _ _ _ _ hWt)
  obtain ⟨rfl, rfl⟩ := trodVars_none hV
  obtain ⟨s, hF⟩ := faults_of hL
  refine (lengthTrails_any l v0 W hs hl s hF).mono fun e W' ⟨he, hg⟩ => ?_
  subst he
  exact ⟨_, rfl, law_post hW' hg rfl (by kernel_rfl) (by kernel_rfl) rfl⟩

theorem said : Rows.LengthTrailsSaid :=
  OpenClaim.holds_of_cond 6 Tryd.f6 rfl rfl rfl rfl rfl rfl rfl ⟨rfl, rfl, rfl, rfl, rfl⟩ rfl rfl rfl rfl rfl (by kernel_rfl) Tryd.func6 (by kernel_rfl)
    (of_decide_eq_true (by kernel_rfl)) (by unfold Func.isWrapper; first | (rw [if_pos (by decide +kernel)]; kernel_rfl) | (rw [if_neg (by decide +kernel)]; exact ⟨rfl, rfl⟩))
    (fun os started H enc _ F => by rw [OpenClaim.pre_eq_preRow]; exact lifted os started H enc F)

theorem plain (f : FuncId) (fn : Func) (hf : Tryd.pinned.checked.prog.funcNamed "bolter/bolterlaw8.LengthTrails" = some f) (hfn : Tryd.pinned.checked.prog.funcs[f]? = some fn) :
    true = Tryd.pinned.checked.prog.looks [] ∧ ∀ (j : Nat) t, fn.params[j]? = some t → Tryd.pinned.checked.prog.wantsStandIn t = false := by
  obtain rfl : f = 6 := Option.some.inj ((show Tryd.prog.funcNamed "bolter/bolterlaw8.LengthTrails" = some 6 by kernel_rfl).symm.trans hf) |>.symm
  obtain rfl : fn = Tryd.f6 := (Option.some.inj (Tryd.func6.symm.trans hfn)).symm
  refine ⟨by kernel_rfl, fun j t ht => ?_⟩
  rw [Tryd.params6] at ht
  obtain rfl : t = 62 := by simpa using Array.mem_of_getElem? ht
  exact (show Tryd.prog.wantsStandIn 62 = false by kernel_rfl)

theorem proved : Rows.LengthTrailsCardSaid :=
  Claim7.holds_tied_plain_at .later [] _ _ _ _ said (fun _ h => by cases h) (by kernel_rfl) (fun _ h => by cases h) lengthTrails_row_tie rfl ⟨rfl, rfl⟩ (by kernel_rfl) rfl plain (by kernel_rfl)
end Go.Proofs.YtpcmgkohebihmaaDoor.lawLengthTrails
