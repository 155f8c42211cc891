/- fault.Code of an error of nobody's, fault.Tell of any chain of wrappers, names too. No condition but the errors' variables and a bound of the names. Printed by gen_tellg.py. -/
import Derived.Test.YtndefbkcondmcaaDoorPGh
import Derived.Test.YtndefbkcondmcaaDoorPTexts
import Derived.Test.YtndefbkcondmcaaDoorPGb
import Derived.Deep.DeepCutAuto
namespace Go.Proofs.YtndefbkcondmcaaDoor
open Go Go.RowKit

set_option maxRecDepth 100000 in
set_option maxHeartbeats 4000000 in
/-- Somebody else's error. -/
theorem code_other {W : World} {s : Nat → Addr} (hF : FaultsIn W s) (e : Er) (he : e.In W) (hb : ∀ k, 2 ≤ k → k ≤ 17 → ¬ e.base = s k) : Calls Tryd.prog 12 #[e.val] W fun x w' => x = .returned (.int .i64 1) ∧ Gr W w' := by
  have HF := Lib.hid hF
  have HE := Lib.hid he
  have HB := Lib.hid hb
  obtain ⟨t0, p0, hv0⟩ := e.val_iface
  have HV := Lib.hid hv0
  rw [hv0]
  clear hv0 he hF hb
  go_enter Tryd.func12, Tryd.ntmps12
  go_wp2_with fail
  go_loopw [3] (fun i wr => ∃ j : Nat, 2 ≤ j ∧ j ≤ 18 ∧ i = .int .i64 (j : Int) ∧ Gr W wr) (fun i _ => 18 - (intOf i).toNat)
  case atStart => exact ⟨2, by omega, by omega, rfl, Gr.refl _⟩
  case round =>
    obtain ⟨j, hj1, hj2, rfl, hg⟩ := hrel
    by_cases hj17 : (j : Int) ≤ 17
    · go_wp2_with fail
      go_at_call 18
      refine (faultOf_any (HF.out.later hg) j hj1 (by omega)).mono ?_; rintro e' w1 ⟨rfl, hb1⟩
      replace hg := hg.trans hb1
      clear hb1
      go_wp2_with fail
      go_at_call 17
      obtain ⟨cb, tb, hrow⟩ := (HF.out.later hg).row j hj1 (by omega)
      have HC := isTop_any (s j) cb tb hrow e (HE.out.later hg)
      rw [HV.out, decide_eq_false (HB.out j hj1 (by omega))] at HC
      refine HC.mono ?_; clear HC hrow; rintro e' w2 ⟨rfl, hb1⟩
      replace hg := hg.trans hb1
      clear hb1
      go_wp2_with fail
      go_roundw
      case rel => exact ⟨j + 1, by omega, by omega, by go_num, hg⟩
      case measure => simp [intOf]; omega
    · go_wp2_with fail
      go_ret
      exact ⟨rfl, hg⟩

/-- The names that a chain's outermost wrapper of names says. -/
def NamesOf (W : World) (e : Er) (ns : List (List UInt8)) : Prop := match e.first .named with
  | none => ns = []
  | some b => ∃ x, W.cell? ⟨b, 1, none⟩ = some x ∧ Sl W x 1 ns.length (ns.map vS) ∧ ns.length * 16 ≤ 140737488355328
theorem NamesOf.later {W W' : World} {e : Er} {ns : List (List UInt8)} (h : NamesOf W e ns) (hG : Gr W W') : NamesOf W' e ns := by
  unfold NamesOf at h ⊢
  split at h
  · exact h
  · obtain ⟨x, h1, h2, h3⟩ := h
    exact ⟨x, hG.cell h1, h2.later hG, h3⟩
/-- slices.Clone of texts. -/
theorem clone_any (v : Value) (ns : List (List UInt8)) (w : World) (h : Sl w v 1 ns.length (ns.map vS)) (hb : ns.length * 16 ≤ 140737488355328) :
    Calls Tryd.prog 25 #[v] w fun e w' => ∃ v', e = .returned v' ∧ w'.ownsRow w.heap.size 9 1 v' ns.length (ns.map vS) ∧ Gr w w' := by
  obtain ⟨_, _, ⟨⟨p0, c0, rfl⟩, h0⟩ | ⟨b, off, cap, rfl, hbl, hc⟩⟩ := h
  · obtain rfl := List.eq_nil_of_length_eq_zero h0
    cases p0 with
    | none =>
      refine (Tryd.slices_Clone_string_nil 0 c0 w).mono ?_
      rintro e w' ⟨rfl, rfl⟩
      exact ⟨_, rfl, World.ownsRow_nil _ _ _ _, Gr.refl _⟩
    | some a =>
      refine (Tryd.slices_Clone_string_zero a c0 w).mono ?_
      rintro e w' ⟨v', rfl, h1, _, h2⟩
      exact ⟨v', rfl, h1, h2⟩
  · have hz : ∀ j, j < (ns.map st).length → w.cell? ⟨b, off + j, none⟩ = some (.string ((ns.map st).getD j ByteArray.empty)) := fun j hj => by
      rw [List.length_map] at hj
      rw [hc j (vS (ns[j])) (by rw [List.getElem?_map, List.getElem?_eq_getElem hj]; rfl), List.getD_eq_getElem?_getD, List.getElem?_map, List.getElem?_eq_getElem hj]
      rfl
    refine (Tryd.slices_Clone_string b off ns.length cap (ns.map st) w (by simp) hb hz).mono ?_
    rintro e w' ⟨v', rfl, h1, _, h2⟩
    refine ⟨v', rfl, ?_, h2⟩
    rw [List.take_of_length_le (by simp), List.map_map] at h1
    exact h1

end Go.Proofs.YtndefbkcondmcaaDoor
