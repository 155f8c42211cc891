/- bolterref0.EqLexemes of like lists. No condition. -/
import Derived.Test.YtdjankfcmoblhaaGreatDoorPGg
namespace Go.Proofs.YtdjankfcmoblhaaGreatDoor
open Go Go.RowKit

set_option maxRecDepth 100000 in
set_option maxHeartbeats 4000000 in
theorem eqLexemes_same (L : List Tok) (v u : Value) (w : World) (hv : Sl w v 9 L.length (L.flatMap tokC)) (hu : Sl w u 9 L.length (L.flatMap tokC)) :
    Calls Tryz.prog 6 #[v, u] w fun e w' => e = .returned (.bool true) ∧ Gr w w' := by
  have hmax := hv.2.1
  unfold maxLen at hmax
  obtain ⟨p, cap, rfl⟩ := hv.len
  obtain ⟨q, caq, rfl⟩ := hu.len
  have HV := Lib.hid hv
  have HU := Lib.hid hu
  clear hv hu
  go_enter Tryz.func6, Tryz.ntmps6
  go_wp2_with fail
  go_loopw [5] (fun i wr => ∃ k : Nat, k ≤ L.length ∧ i = .int .i64 (k : Int) ∧ Gr w wr) (fun i _ => L.length - (intOf i).toNat)
  case atStart => exact ⟨0, Nat.zero_le _, rfl, Gr.refl _⟩
  case round =>
    obtain ⟨k, hk, rfl, hr⟩ := hrel
    cases hx : L[k]? with
    | none =>
      have hkl : k = L.length := by
        rcases Nat.lt_or_ge k L.length with h | h
        · rw [List.getElem?_eq_getElem h] at hx; cases hx
        · omega
      subst hkl
      clear hx hk
      go_wp2_with fail
      go_ret
      exact ⟨rfl, hr⟩
    | some x =>
      have hkl : k < L.length := (List.getElem?_eq_some_iff.1 hx).1
      have h0 : L ≠ [] := fun h => by rw [h] at hkl; exact absurd hkl (Nat.not_lt_zero _)
      obtain ⟨b, off, rfl⟩ : ∃ b off, p = some ⟨b, off, none⟩ := by
        obtain ⟨_, _, ⟨_, hn⟩ | ⟨b', off', cap', hv, _⟩⟩ := HV.out
        · omega
        · injection hv with h1 _ _; exact ⟨_, _, h1⟩
      obtain ⟨b2, off2, rfl⟩ : ∃ b off, q = some ⟨b, off, none⟩ := by
        obtain ⟨_, _, ⟨_, hn⟩ | ⟨b', off', cap', hv, _⟩⟩ := HU.out
        · omega
        · injection hv with h1 _ _; exact ⟨_, _, h1⟩
      obtain ⟨hb, hc⟩ := sl_lex (HV.out.later hr) h0
      obtain ⟨hb2, hc2⟩ := sl_lex (HU.out.later hr) h0
      have a0 := hc k x hx 0 _ rfl
      have a1 := hc k x hx 1 _ rfl
      have a2 := hc k x hx 2 _ rfl
      have a3 := hc k x hx 3 _ rfl
      have a4 := hc k x hx 4 _ rfl
      have a5 := hc k x hx 5 _ rfl
      have a6 := hc k x hx 6 _ rfl
      have a7 := hc k x hx 7 _ rfl
      have a8 := hc k x hx 8 _ rfl
      have d0 := hc2 k x hx 0 _ rfl
      have d1 := hc2 k x hx 1 _ rfl
      have d2 := hc2 k x hx 2 _ rfl
      have d3 := hc2 k x hx 3 _ rfl
      have d4 := hc2 k x hx 4 _ rfl
      have d5 := hc2 k x hx 5 _ rfl
      have d6 := hc2 k x hx 6 _ rfl
      have d7 := hc2 k x hx 7 _ rfl
      have d8 := hc2 k x hx 8 _ rfl
      rw [Nat.add_zero] at a0 d0
      have hkI : (k : Int) < (L.length : Int) := by omega
      have hkw : IntKind.i64.wrap ((k : Int) + 1) = ((k + 1 : Nat) : Int) := by rw [IntWalk.i64_in _ (by omega)]; omega
      have HLT := Lib.hid hkl
      have HR := Lib.hid hr
      clear hc hc2 hx h0 hkl hk hr
      go_wp2_with fail
      refine wp_region_G (.take 0 (.take 1 (.take 2 (.take 3 (.take 4 (.take 5 (.take 6 (.take 7 (.take 8 .nil))))))))) (by kernel_rfl) (by kernel_rfl) ?_
      simp only [pickOps, nthOp]
      intro wq hG
      repeat (first | (refine wpG_skip_take ?_ ?_; (focus rfl); try simp only [Act.put, List.setIfInBounds_toArray, List.set_cons_zero, List.set_cons_succ]) | (refine wpG_skip_run ?_ ?_; (focus rfl); try simp only [Act.put, List.setIfInBounds_toArray, List.set_cons_zero, List.set_cons_succ]) | (refine wpG_take ?_ ?_; (focus rfl); apply Exists.intro; refine ⟨fun w' hw' => ?_, ?_⟩; (focus (have hc := Gr.cells hw'; go_simp; (try rfl); done)); try simp only [Act.put, List.setIfInBounds_toArray, List.set_cons_zero, List.set_cons_succ]))
      refine wpG_done ?_
      go_wp2_with fail
      go_roundw
      case rel => exact ⟨k + 1, by have := HLT.out; omega, by go_num, HR.out.trans hG⟩
      case measure => have := HLT.out; simp [intOf]; omega

end Go.Proofs.YtdjankfcmoblhaaGreatDoor
