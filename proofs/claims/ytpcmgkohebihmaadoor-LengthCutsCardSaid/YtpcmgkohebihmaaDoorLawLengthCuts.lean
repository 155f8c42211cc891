/- The statement LengthCutsCardSaid: for every input, bolterlaw8.LengthCuts answers true, and its argument reads as it did; the errors' variables are tied to the program's text. No condition. -/
import Derived.Test.YtpcmgkohebihmaaDoorFaults
import Derived.Test.YtpcmgkohebihmaaDoorLengthCuts
namespace Go.Proofs.YtpcmgkohebihmaaDoor.lawLengthCuts
open Go Go.ChangeShapes Go.WideShapes Go.ChangeAt Go.RowKit

theorem reads (os : Os) {H : Type} (enc : TypeId × Value → H) : ∃ places, DataW.whole enc Tryd.prog ((laidF os).forCall (fun _ _ => 0) ⟨#[], #[.slice none 0 0], []⟩).memory Tryd.f5.params.toList Rows.lengthCutsSpec.vars false #[.slice none 0 0].toList 8 = some ([.nil], [], places) :=
  ⟨[], by kernel_rfl⟩

section
variable {H : Type} {enc : TypeId × Value → H}
theorem cells_core : Tryd.prog.cellsOf 52 = 21 := by kernel_rfl
theorem bytes_core : Tryd.prog.bytesOf 52 = 216 := by kernel_rfl
theorem cells_bool : Tryd.prog.cellsOf 4 = 1 := by kernel_rfl
theorem cells_cores : Tryd.prog.cellsOf 50 = 1 := by kernel_rfl
set_option maxRecDepth 100000 in
theorem co_read {w : World} {base : Nat} {spare : Nat → Bool} {held : Bool} (n : Nat) (cs : List Value) (x : DataW H × List MemPlace) (h : DataW.trod enc Tryd.prog w base spare held n 52 cs = some x) (hw : Reached Tryd.prog 52 x.1) : ∃ y : Co, CoIn w y cs := by
  obtain ⟨y0, y1, y2, m, hx, hl, h0, h1, h2⟩ := Go.Deep.trod_struct3 Tryd.underlying52 h
  have hr : ∀ m', (m' ∈ y0.1.weights Tryd.prog 27 ∨ m' ∈ y2.1.weights Tryd.prog 27) → m' ≤ reachBytes := fun m' hm' => hw m' (by
    rw [hx]
    unfold DataW.weights
    rw [Tryd.underlying52]
    simp only [List.map_cons, List.map_nil, DataW.weightsEach, List.append_nil]
    rcases hm' with hm' | hm'
    · exact List.mem_append_left _ hm'
    · exact List.mem_append_right _ (List.mem_append_right _ hm'))
  rw [cells_core] at hl
  simp only [cells_expr, cells_bool] at h0 h1 h2
  obtain ⟨e, he⟩ := ex_read m _ y0 h0 (fun m' hm' => hr m' (.inl hm'))
  obtain ⟨f, hf⟩ := ex_read m _ y2 h2 (fun m' hm' => hr m' (.inr hm'))
  obtain ⟨b, hb, _⟩ := DataW.trod_bool Tryd.underlying4 h1
  have e1 : cs = (cs.drop 0).take 10 ++ ((cs.drop 10).take 1 ++ (cs.drop 11).take 10) := by
    have e2 : (cs.drop 11).take 10 = cs.drop 11 := List.take_of_length_le (by rw [List.length_drop]; omega)
    rw [e2, List.drop_zero, show cs.drop 11 = (cs.drop 10).drop 1 by rw [List.drop_drop], List.take_append_drop, List.take_append_drop]
  refine ⟨⟨e, b, f⟩, ?_⟩
  rw [e1, hb]
  exact .mk e b f _ _ he hf
/-- A rule and its 21 cells. -/
def CoCells := { p : Co × List Value // p.2.length = 21 }
instance : Inhabited CoCells := ⟨⟨(⟨.mk 0 0 0#256 ⟨#[]⟩ 0 0 [], false, .mk 0 0 0#256 ⟨#[]⟩ 0 0 []⟩, List.replicate 21 (.bool true)), by simp⟩⟩
set_option maxRecDepth 100000 in
theorem cores_read {w : World} {base : Nat} {spare : Nat → Bool} {held : Bool} (n : Nat) (cs : List Value) (x : DataW H × List MemPlace) (h : DataW.trod enc Tryd.prog w base spare held n 50 cs = some x) (hw : Reached Tryd.prog 50 x.1) : ∃ v, cs = [v] ∧ CoresIn w v := by
  obtain ⟨v', l, e6, hs, hq, hb, hz⟩ := slice_readF (f := fun p : CoCells => p.1.2) (Q := fun p => CoIn w p.1.1 p.1.2) Tryd.underlying50 cells_core (by omega) (fun p => p.2) (fun n' cs x hn' h hw => by
    obtain ⟨y, hy⟩ := co_read n' cs x h hw
    exact ⟨⟨(y, cs), hy.len⟩, rfl, hy⟩) h hw
  rw [bytes_core, reach_num] at hb
  refine ⟨v', e6, l.map (·.1), by rw [List.length_map, List.flatMap_map]; exact hs, fun p hp => ?_, by rw [List.length_map]; omega⟩
  obtain ⟨q, hq', rfl⟩ := List.mem_map.1 hp
  exact hq q hq'
instance : Inhabited Value := ⟨.bool true⟩
set_option maxRecDepth 100000 in
theorem rows_form {w : World} {r : Reach} {b0 base : Nat} {spare : Nat → Bool} {held : Bool} {v : Value} {d : DataW H} {p : List MemPlace} (hv : Value.okWide Tryd.prog w r b0 49 v) (h : DataW.Trod enc Tryd.prog w base spare held 49 v d p) (hw : Reached Tryd.prog 49 d) :
    ∃ L : List Value, Sl w v 1 L.length (L.flatMap fun v => [v]) ∧ ∀ v ∈ L, CoresIn w v := by
  obtain ⟨fuel, hf0⟩ := h
  obtain ⟨a0, n0, c0, rfl⟩ := okWide_slice Tryd.underlying49 hv
  obtain ⟨v', l, e6, hs, hq, _⟩ := slice_read (f := fun v : Value => [v]) (Q := fun v => CoresIn w v) Tryd.underlying49 cells_cores (by omega) (fun _ => rfl) (fun n cs x h hw => cores_read n cs x h hw) hf0 hw
  obtain rfl : Value.slice a0 n0 c0 = v' := by simpa [Value.cells] using e6
  exact ⟨l, hs, hq⟩
end

set_option maxRecDepth 100000 in
theorem lifted (os : Os) (started : os.Started) (H : Type) (enc : TypeId × Value → H) (F : Stop.Interp) :
    ReturnsInHanded {} Tryd.checked os 5 .any ((OpenSpec.ofChange Rows.lengthCutsSpec).preRow enc Tryd.prog Tryd.f5 Rows.lengthCutsRow.domain false Rows.lengthCutsRow.laid) (((OpenSpec.ofChange Rows.lengthCutsSpec).at F).post enc Tryd.prog Tryd.f5 false true false false) := by
  obtain ⟨places, hx⟩ := reads os enc
  refine returnsInHanded_of_row (C := Tryd.checked) (s := OpenSpec.ofChange Rows.lengthCutsSpec) own_knob started (by kernel_rfl) Tryd.func5
    (witness_row_atRef (enc := enc) (C := Tryd.checked) false (laidF os) #[.slice none 0 0] (laidF_os os) (by kernel_rfl) (by kernel_rfl) (by kernel_rfl)
      (OpenSpec.preRow_of_cond 8 hx (by kernel_rfl) (fun k hk => by cases hk) (by kernel_rfl) (laidF_met os _))) ?_
  intro W base args ds gs before hval0 hW _ _ hWt hL _ _
  have hval : ∀ (j : Nat) t v, Tryd.f5.params[j]? = some t → args[j]? = some v → Value.okWide Tryd.prog W .any base t v := hval0
  have hW' := hW
  obtain ⟨p, q, hA0, hV, rfl, hfz, hnd⟩ := hW
  have hA : DataW.TrodAll enc Tryd.prog W 0 (fun _ => true) true Tryd.f5.params.toList args.toList ds p := hA0
  rw [Tryd.params5] at hA hval hWt
  obtain ⟨v0, vs0, d0, ds0, p0, q0, hargs, rfl, rfl, h0, r0⟩ := trodAll_cons hA
  obtain ⟨rfl, rfl, rfl⟩ := trodAll_nil r0
  obtain rfl : args = #[v0] := by cases args; simp_all
  obtain ⟨L, hs, hl⟩ := rows_form (hval 0 _ v0 rfl rfl) h0 (reached_each _ _ _ _ _ hWt)
  obtain ⟨rfl, rfl⟩ := trodVars_none hV
  obtain ⟨s, hF⟩ := faults_of hL
  refine (lengthCuts_any L v0 W hs hl s hF).mono fun e W' ⟨he, hg⟩ => ?_
  subst he
  exact ⟨_, rfl, law_post hW' hg rfl (by kernel_rfl) (by kernel_rfl) rfl⟩

theorem said : Rows.LengthCutsSaid :=
  OpenClaim.holds_of_cond 5 Tryd.f5 rfl rfl rfl rfl rfl rfl rfl ⟨rfl, rfl, rfl, rfl, rfl⟩ rfl rfl rfl rfl rfl (by kernel_rfl) Tryd.func5 (by kernel_rfl)
    (of_decide_eq_true (by kernel_rfl)) (by unfold Func.isWrapper; first | (rw [if_pos (by decide +kernel)]; kernel_rfl) | (rw [if_neg (by decide +kernel)]; exact ⟨rfl, rfl⟩))
    (fun os started H enc _ F => by rw [OpenClaim.pre_eq_preRow]; exact lifted os started H enc F)

theorem plain (f : FuncId) (fn : Func) (hf : Tryd.pinned.checked.prog.funcNamed "bolter/bolterlaw8.LengthCuts" = some f) (hfn : Tryd.pinned.checked.prog.funcs[f]? = some fn) :
    true = Tryd.pinned.checked.prog.looks [] ∧ ∀ (j : Nat) t, fn.params[j]? = some t → Tryd.pinned.checked.prog.wantsStandIn t = false := by
  obtain rfl : f = 5 := Option.some.inj ((show Tryd.prog.funcNamed "bolter/bolterlaw8.LengthCuts" = some 5 by kernel_rfl).symm.trans hf) |>.symm
  obtain rfl : fn = Tryd.f5 := (Option.some.inj (Tryd.func5.symm.trans hfn)).symm
  refine ⟨by kernel_rfl, fun j t ht => ?_⟩
  rw [Tryd.params5] at ht
  obtain rfl : t = 49 := by simpa using Array.mem_of_getElem? ht
  exact (show Tryd.prog.wantsStandIn 49 = false by kernel_rfl)

theorem proved : Rows.LengthCutsCardSaid :=
  Claim7.holds_tied_plain_at .later [] _ _ _ _ said (fun _ h => by cases h) (by kernel_rfl) (fun _ h => by cases h) lengthCuts_row_tie rfl ⟨rfl, rfl⟩ (by kernel_rfl) rfl plain (by kernel_rfl)
end Go.Proofs.YtpcmgkohebihmaaDoor.lawLengthCuts
