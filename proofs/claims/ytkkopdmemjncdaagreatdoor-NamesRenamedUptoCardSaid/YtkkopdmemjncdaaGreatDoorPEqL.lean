/- bolterref0: EqTexts, EqInts, EqFault of like ones; bolterkit.Same with names. No condition. -/
import Derived.Test.YtkkopdmemjncdaaGreatDoorPHg
import Derived.Test.YtkkopdmemjncdaaGreatDoorPHd
namespace Go.Proofs.YtkkopdmemjncdaaGreatDoor
open Go Go.RowKit

set_option maxRecDepth 100000 in
set_option maxHeartbeats 4000000 in
theorem eqTexts_same (L : List (List UInt8)) (v u : Value) (w : World) (hv : Sl w v 1 L.length (L.map vS)) (hu : Sl w u 1 L.length (L.map vS)) :
    Calls Tryz.prog 17 #[v, u] w fun e w' => e = .returned (.bool true) ∧ Gr w w' := by
  have hmax := hv.2.1
  unfold maxLen at hmax
  obtain ⟨p, cap, rfl⟩ := hv.len
  obtain ⟨q, caq, rfl⟩ := hu.len
  have HV := Lib.hid hv
  have HU := Lib.hid hu
  clear hv hu
  go_enter Tryz.func17, Tryz.ntmps17
  go_wp2_with fail
  go_loopw [5] (fun i wr => ∃ k : Nat, k ≤ L.length ∧ i = .int .i64 (k : Int) ∧ Gr w wr) (fun i _ => L.length - (intOf i).toNat)
  case atStart => exact ⟨0, Nat.zero_le _, rfl, Gr.refl _⟩
  case round =>
    obtain ⟨k, hk, rfl, hr⟩ := hrel
    cases hx : L[k]? with
    | none =>
      have hkl : k = L.length := by
        rcases Nat.lt_or_ge k L.length with h | h
        · rw [List.getElem?_eq_getElem h] at hx; cases hx
        · omega
      subst hkl
      clear hx hk
      go_wp2_with fail
      go_ret
      exact ⟨rfl, hr⟩
    | some x =>
      have hkl : k < L.length := (List.getElem?_eq_some_iff.1 hx).1
      obtain ⟨b, off, rfl, hb, hc⟩ := str_at (HV.out.later hr) hx
      obtain ⟨b2, off2, rfl, hb2, hc2⟩ := str_at (HU.out.later hr) hx
      have hkI : (k : Int) < (L.length : Int) := by omega
      have hkw : IntKind.i64.wrap ((k : Int) + 1) = ((k + 1 : Nat) : Int) := by rw [IntWalk.i64_in _ (by omega)]; omega
      have HLT := Lib.hid hkl
      have HR := Lib.hid hr
      clear hx hkl hk hr
      go_wp2_with fail
      refine wp_region_G (.take 0 (.take 1 (.take 2 (.take 3 (.take 4 (.take 5 (.take 6 (.take 7 (.take 8 .nil))))))))) (by kernel_rfl) (by kernel_rfl) ?_
      simp only [pickOps, nthOp]
      intro wq hG
      repeat (first | (refine wpG_skip_take ?_ ?_; (focus rfl); try simp only [Act.put, List.setIfInBounds_toArray, List.set_cons_zero, List.set_cons_succ]) | (refine wpG_skip_run ?_ ?_; (focus rfl); try simp only [Act.put, List.setIfInBounds_toArray, List.set_cons_zero, List.set_cons_succ]) | (refine wpG_take ?_ ?_; (focus rfl); apply Exists.intro; refine ⟨fun w' hw' => ?_, ?_⟩; (focus (have hc := Gr.cells hw'; go_simp; (try rfl); done)); try simp only [Act.put, List.setIfInBounds_toArray, List.set_cons_zero, List.set_cons_succ]))
      refine wpG_done ?_
      go_wp2_with fail
      go_roundw
      case rel => exact ⟨k + 1, by have := HLT.out; omega, by go_num, HR.out.trans hG⟩
      case measure => have := HLT.out; simp [intOf]; omega

set_option maxRecDepth 100000 in
set_option maxHeartbeats 4000000 in
theorem eqFault_like (c s r a : Int) (v u : Value) (L : List (List UInt8)) (w : World) (hv : Sl w v 1 L.length (L.map vS)) (hu : Sl w u 1 L.length (L.map vS)) :
    Calls Tryz.prog 46 #[.agg #[.int .i64 c, .int .i64 s, .int .i64 r, .int .i64 a, v], .agg #[.int .i64 c, .int .i64 s, .int .i64 r, .int .i64 a, u]] w fun e w' => e = .returned (.bool true) ∧ Gr w w' := by
  have HE := Lib.hid (fun w' (hg : Gr w w') => eqTexts_same L v u w' (hv.later hg) (hu.later hg))
  obtain ⟨p, cap, rfl⟩ := hv.len
  obtain ⟨q, caq, rfl⟩ := hu.len
  clear hv hu
  go_enter Tryz.func46, Tryz.ntmps46
  go_wp2_with fail
  go_at_call 17
  refine name_calls (fun W hW => ?_)
  have hg : Gr w W := by rw [hW]; exact (Gr.alloc _ _).trans (Gr.alloc _ _)
  clear hW
  refine (HE.out W hg).mono ?_; rintro e w1 ⟨rfl, hb⟩
  go_wp2
  go_ret
  exact ⟨rfl, hg.trans hb⟩

set_option maxRecDepth 100000 in
set_option maxHeartbeats 4000000 in
theorem eqInts_same (L : List Int) (v u : Value) (w : World) (hv : Sl w v 1 L.length (L.map vI)) (hu : Sl w u 1 L.length (L.map vI)) :
    Calls Tryz.prog 48 #[v, u] w fun e w' => e = .returned (.bool true) ∧ Gr w w' := by
  have hmax := hv.2.1
  unfold maxLen at hmax
  obtain ⟨p, cap, rfl⟩ := hv.len
  obtain ⟨q, caq, rfl⟩ := hu.len
  have HV := Lib.hid hv
  have HU := Lib.hid hu
  clear hv hu
  go_enter Tryz.func48, Tryz.ntmps48
  go_wp2_with fail
  go_loopw [5] (fun i wr => ∃ k : Nat, k ≤ L.length ∧ i = .int .i64 (k : Int) ∧ Gr w wr) (fun i _ => L.length - (intOf i).toNat)
  case atStart => exact ⟨0, Nat.zero_le _, rfl, Gr.refl _⟩
  case round =>
    obtain ⟨k, hk, rfl, hr⟩ := hrel
    cases hx : L[k]? with
    | none =>
      have hkl : k = L.length := by
        rcases Nat.lt_or_ge k L.length with h | h
        · rw [List.getElem?_eq_getElem h] at hx; cases hx
        · omega
      subst hkl
      clear hx hk
      go_wp2_with fail
      go_ret
      exact ⟨rfl, hr⟩
    | some x =>
      have hkl : k < L.length := (List.getElem?_eq_some_iff.1 hx).1
      obtain ⟨b, off, rfl, hb, hc⟩ := int_at (HV.out.later hr) hx
      obtain ⟨b2, off2, rfl, hb2, hc2⟩ := int_at (HU.out.later hr) hx
      have hkI : (k : Int) < (L.length : Int) := by omega
      have hkw : IntKind.i64.wrap ((k : Int) + 1) = ((k + 1 : Nat) : Int) := by rw [IntWalk.i64_in _ (by omega)]; omega
      have HLT := Lib.hid hkl
      have HR := Lib.hid hr
      clear hx hkl hk hr
      go_wp2_with fail
      refine wp_region_G (.take 0 (.take 1 (.take 2 (.take 3 (.take 4 (.take 5 (.take 6 (.take 7 (.take 8 .nil))))))))) (by kernel_rfl) (by kernel_rfl) ?_
      simp only [pickOps, nthOp]
      intro wq hG
      repeat (first | (refine wpG_skip_take ?_ ?_; (focus rfl); try simp only [Act.put, List.setIfInBounds_toArray, List.set_cons_zero, List.set_cons_succ]) | (refine wpG_skip_run ?_ ?_; (focus rfl); try simp only [Act.put, List.setIfInBounds_toArray, List.set_cons_zero, List.set_cons_succ]) | (refine wpG_take ?_ ?_; (focus rfl); apply Exists.intro; refine ⟨fun w' hw' => ?_, ?_⟩; (focus (have hc := Gr.cells hw'; go_simp; (try rfl); done)); try simp only [Act.put, List.setIfInBounds_toArray, List.set_cons_zero, List.set_cons_succ]))
      refine wpG_done ?_
      go_wp2_with fail
      go_roundw
      case rel => exact ⟨k + 1, by have := HLT.out; omega, by go_num, HR.out.trans hG⟩
      case measure => have := HLT.out; simp [intOf]; omega

set_option maxRecDepth 100000 in
set_option maxHeartbeats 4000000 in
/-- An error that tells what is due, and names. -/
theorem same_names (t : TypeId) (x : Value) (c s r a : Int) (L : List (List UInt8)) (v : Value) (w : World) (hc : c ≠ 0) (hv : Sl w v 1 L.length (L.map vS)) (ht : ∀ W, Gr w W → Calls Tryz.prog 28 #[.iface t x] W fun e w' => ∃ nv, e = .returned (.agg #[.int .i64 c, .int .i64 s, .int .i64 r, .int .i64 a, nv]) ∧ Sl w' nv 1 L.length (L.map vS) ∧ Gr W w') :
    Calls Tryz.prog 13 #[.iface t x, .agg #[.int .i64 c, .int .i64 s, .int .i64 r, .int .i64 a, v]] w fun e w' => e = .returned (.bool true) ∧ Gr w w' := by
  have HT := Lib.hid ht
  have HV := Lib.hid hv
  obtain ⟨p, cap, rfl⟩ := hv.len
  obtain ⟨n, hn⟩ : ∃ n, L.length = n := ⟨_, rfl⟩
  have HN := Lib.hid hn
  rw [hn]
  have hcb : (c != 0) = true := by rw [bne_iff_ne]; exact hc
  have HE := Lib.hid (fun (W : World) (hG : Gr w W) (nv : Value) (hs : Sl W nv 1 L.length (L.map vS)) => eqFault_like c s r a nv (.slice p L.length cap) L W hs (hv.later hG))
  rw [hn] at HE
  clear ht hc hv hn
  go_enter Tryz.func13, Tryz.ntmps13
  go_wp2_with fail
  refine name_world (fun W hW => ?_)
  have xb : boxAt W w.heap.size [.int .i64 c, .int .i64 s, .int .i64 r, .int .i64 a, .slice p n cap] := boxAt.new _ _ hW
  have hg : Gr w W := by rw [hW]; exact Gr.alloc _ _
  clear hW
  have c_b0 := xb.cell 0 _ rfl
  have c_b1 := xb.cell 1 _ rfl
  have c_b2 := xb.cell 2 _ rfl
  have c_b3 := xb.cell 3 _ rfl
  have c_b4 := xb.cell 4 _ rfl
  have m_b0 := xb.mark 0 _ rfl
  have m_b1 := xb.mark 1 _ rfl
  have m_b2 := xb.mark 2 _ rfl
  have m_b3 := xb.mark 3 _ rfl
  have m_b4 := xb.mark 4 _ rfl
  have l_b := xb.lt (Nat.succ_pos _)
  refine wp_region_G (.take 0 (.take 1 (.take 2 (.take 3 (.take 4 (.take 6 (.run 5 false (.run 7 false (.take 8 (.run 9 true .nil)))))))))) (by kernel_rfl) (by kernel_rfl) ?_
  simp only [pickOps, nthOp]
  intro wq hG
  repeat (first | (refine wpG_skip_take ?_ ?_; (focus rfl); try simp only [Act.put, List.setIfInBounds_toArray, List.set_cons_zero, List.set_cons_succ]) | (refine wpG_skip_run ?_ ?_; (focus rfl); try simp only [Act.put, List.setIfInBounds_toArray, List.set_cons_zero, List.set_cons_succ]) | (refine wpG_take ?_ ?_; (focus rfl); apply Exists.intro; refine ⟨fun w' hw' => ?_, ?_⟩; (focus (have hc := Gr.cells hw'; go_simp; (try rfl); done)); try simp only [Act.put, List.setIfInBounds_toArray, List.set_cons_zero, List.set_cons_succ]) | (refine wpG_run ?_ (fun K hK => ?_); (focus rfl); go_simp; (first | (go_at_call 28; (with_reducible refine (HT.out _ (hg.trans hG)).mono ?_); rintro e w' ⟨nv, rfl, hs, hb⟩; rw [HN.out] at hs; obtain ⟨pn, cn, rfl⟩ := hs.len; have HSN := Lib.hid hs; clear hs) | (go_at_call 46; (with_reducible refine (HE.out _ (hg.trans hG) _ HSN.out).mono ?_); rintro e w' ⟨rfl, hb⟩)); (try dsimp only); replace hG := hG.trans hb; refine hK.out _ _ hG ?_; clear hK K hb; try simp only [Act.put, List.setIfInBounds_toArray, List.set_cons_zero, List.set_cons_succ]))
  refine wpG_last ?_ (fun K hK => ?_); (focus rfl)
  have hc := hG.cells
  have hm := hG.marks
  go_simp
  refine hK.out _ _ ?_
  try simp only [Act.put, List.setIfInBounds_toArray, List.set_cons_zero, List.set_cons_succ]
  clear hK K hc hm
  refine wpG_done ?_
  go_wp2
  go_ret
  exact ⟨rfl, hg.trans hG⟩

end Go.Proofs.YtkkopdmemjncdaaGreatDoor
