/- bolterref0: EqTexts, EqFault of like ones. No condition. -/
import Derived.Test.YtndefbkcondmcaaDoorPShort
namespace Go.Proofs.YtndefbkcondmcaaDoor
open Go Go.RowKit

set_option maxRecDepth 100000 in
set_option maxHeartbeats 4000000 in
theorem eqTexts_same (L : List (List UInt8)) (v u : Value) (w : World) (hv : Sl w v 1 L.length (L.map vS)) (hu : Sl w u 1 L.length (L.map vS)) :
    Calls Tryd.prog 23 #[v, u] w fun e w' => e = .returned (.bool true) ∧ Gr w w' := by
  have hmax := hv.2.1
  unfold maxLen at hmax
  obtain ⟨p, cap, rfl⟩ := hv.len
  obtain ⟨q, caq, rfl⟩ := hu.len
  have HV := Lib.hid hv
  have HU := Lib.hid hu
  clear hv hu
  go_enter Tryd.func23, Tryd.ntmps23
  go_wp2_with fail
  go_loopw [5] (fun i wr => ∃ k : Nat, k ≤ L.length ∧ i = .int .i64 (k : Int) ∧ Gr w wr) (fun i _ => L.length - (intOf i).toNat)
  case atStart => exact ⟨0, Nat.zero_le _, rfl, Gr.refl _⟩
  case round =>
    obtain ⟨k, hk, rfl, hr⟩ := hrel
    cases hx : L[k]? with
    | none =>
      have hkl : k = L.length := by
        rcases Nat.lt_or_ge k L.length with h | h
        · rw [List.getElem?_eq_getElem h] at hx; cases hx
        · omega
      subst hkl
      clear hx hk
      go_wp2_with fail
      go_ret
      exact ⟨rfl, hr⟩
    | some x =>
      have hkl : k < L.length := (List.getElem?_eq_some_iff.1 hx).1
      obtain ⟨b, off, rfl, hb, hc⟩ := str_at (HV.out.later hr) hx
      obtain ⟨b2, off2, rfl, hb2, hc2⟩ := str_at (HU.out.later hr) hx
      have hkI : (k : Int) < (L.length : Int) := by omega
      have hkw : IntKind.i64.wrap ((k : Int) + 1) = ((k + 1 : Nat) : Int) := by rw [IntWalk.i64_in _ (by omega)]; omega
      have HLT := Lib.hid hkl
      have HR := Lib.hid hr
      clear hx hkl hk hr
      go_wp2_with fail
      refine wp_region_G (.take 0 (.take 1 (.take 2 (.take 3 (.take 4 (.take 5 (.take 6 (.take 7 (.take 8 .nil))))))))) (by kernel_rfl) (by kernel_rfl) ?_
      simp only [pickOps, nthOp]
      intro wq hG
      repeat (first | (refine wpG_skip_take ?_ ?_; (focus rfl); try simp only [Act.put, List.setIfInBounds_toArray, List.set_cons_zero, List.set_cons_succ]) | (refine wpG_skip_run ?_ ?_; (focus rfl); try simp only [Act.put, List.setIfInBounds_toArray, List.set_cons_zero, List.set_cons_succ]) | (refine wpG_take ?_ ?_; (focus rfl); apply Exists.intro; refine ⟨fun w' hw' => ?_, ?_⟩; (focus (have hc := Gr.cells hw'; go_simp; (try rfl); done)); try simp only [Act.put, List.setIfInBounds_toArray, List.set_cons_zero, List.set_cons_succ]))
      refine wpG_done ?_
      go_wp2_with fail
      go_roundw
      case rel => exact ⟨k + 1, by have := HLT.out; omega, by go_num, HR.out.trans hG⟩
      case measure => have := HLT.out; simp [intOf]; omega

set_option maxRecDepth 100000 in
set_option maxHeartbeats 4000000 in
theorem eqFault_like (c s r a : Int) (v u : Value) (L : List (List UInt8)) (w : World) (hv : Sl w v 1 L.length (L.map vS)) (hu : Sl w u 1 L.length (L.map vS)) :
    Calls Tryd.prog 10 #[.agg #[.int .i64 c, .int .i64 s, .int .i64 r, .int .i64 a, v], .agg #[.int .i64 c, .int .i64 s, .int .i64 r, .int .i64 a, u]] w fun e w' => e = .returned (.bool true) ∧ Gr w w' := by
  have HE := Lib.hid (fun w' (hg : Gr w w') => eqTexts_same L v u w' (hv.later hg) (hu.later hg))
  obtain ⟨p, cap, rfl⟩ := hv.len
  obtain ⟨q, caq, rfl⟩ := hu.len
  clear hv hu
  go_enter Tryd.func10, Tryd.ntmps10
  go_wp2_with fail
  go_at_call 23
  refine name_calls (fun W hW => ?_)
  have hg : Gr w W := by rw [hW]; exact (Gr.alloc _ _).trans (Gr.alloc _ _)
  clear hW
  refine (HE.out W hg).mono ?_; rintro e w1 ⟨rfl, hb⟩
  go_wp2
  go_ret
  exact ⟨rfl, hg.trans hb⟩

end Go.Proofs.YtndefbkcondmcaaDoor
