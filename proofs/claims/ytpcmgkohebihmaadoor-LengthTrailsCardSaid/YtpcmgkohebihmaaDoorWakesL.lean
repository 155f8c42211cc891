/- wakes of bolterlaw8: it answers true. No condition but that the errors' variables hold some. -/
import Derived.Test.YtpcmgkohebihmaaDoorCuts
import Derived.Test.YtpcmgkohebihmaaDoorBuilt
namespace Go.Proofs.YtpcmgkohebihmaaDoor
open Go Go.RowKit

def wakeCo : Co := ⟨byteE setA, true, byteE setB⟩
theorem wake_may : mayAll [wakeCo] = true := by
  simp [mayAll, wakeCo, okCo, byteE_core]
theorem wake_cut : cutOf wakeCo = some (1, 1) := by
  unfold cutOf wakeCo cutRes
  simp only [if_true, byteE_of _ setA_ne, byteE_of _ setB_ne]
  simp [oneL]
theorem wake_told {w w' : World} {va vt v er : Value} (h : CutsTold w w' [wakeCo] va vt v er) : er = .nilIface ∧ w'.ownsRow w.heap.size 64 2 v 1 [.int .i64 1, .int .i64 1] := by
  cases h with
  | arg h => rw [wake_may] at h; cases h
  | trail j a g h hj ha =>
    have : a = wakeCo := by
      have := List.mem_of_getElem? hj; simpa using this
    rw [this, wake_cut] at ha; cases ha
  | cuts M v h hM ho =>
    refine ⟨rfl, ?_⟩
    rw [List.map_cons, List.map_nil, wake_cut] at hM
    match M, hM with
    | [x], hM =>
      simp only [List.map_cons, List.map_nil, List.cons.injEq, Option.some.injEq, and_true] at hM
      subst hM
      exact ho
theorem wake_in (w : World) : ∀ p ∈ [(wakeCo, [.int .i64 2, .int .i64 0, .int .u64 (wd setA 0), .int .u64 (wd setA 1), .int .u64 (wd setA 2), .int .u64 (wd setA 3), .string ⟨#[]⟩, .int .i64 0, .int .i64 0, (.slice none 0 0)] ++ .bool true :: [.int .i64 2, .int .i64 0, .int .u64 (wd setB 0), .int .u64 (wd setB 1), .int .u64 (wd setB 2), .int .u64 (wd setB 3), .string ⟨#[]⟩, .int .i64 0, .int .i64 0, (.slice none 0 0)])], CoIn w p.1 p.2 := fun p hp => by
  rw [List.mem_singleton] at hp; subst hp
  exact .mk _ _ _ _ _ (byteE_in setA w) (byteE_in setB w)

set_option maxRecDepth 100000 in
set_option maxHeartbeats 4000000 in
theorem wakes_any (w : World) (va vt : Value) (hA : Errs w 0 va) (hT : Errs w 1 vt) : Calls Tryd.prog 8 #[] w fun e w' => e = .returned (.bool true) ∧ Gr w w' := by
  have HA := Lib.hid hA
  have HT := Lib.hid hT
  clear hA hT
  go_enter Tryd.func8, Tryd.ntmps8
  go_wp2_with fail
  go_at_call 20
  refine (set_a w).mono ?_; rintro e' w1 ⟨rfl, hg⟩
  go_wp2_with fail
  go_at_call 9
  have hc := lenOf_any (byteE setA) _ w1 (byteE_in setA w1) va (HA.out.later hg)
  rw [byteE_core, byteE_of _ setA_ne] at hc
  unfold exCells lenRes at hc
  simp only [if_true] at hc
  refine hc.mono ?_; clear hc; rintro e' w2 ⟨rfl, hb⟩
  replace hg := hg.trans hb
  clear hb
  go_wp2_with fail
  go_at_call 20
  refine name_calls (fun W hW => ?_)
  have xa : boxAt W w2.heap.size [.bool false, .int .i64 1, .int .i64 1] := boxAt.new _ _ hW
  have hb : Gr w2 W := by rw [hW]; exact Gr.alloc _ _
  replace hg := hg.trans hb
  clear hb hW
  refine (set_a W).mono ?_; rintro e' w3 ⟨rfl, hb⟩
  replace xa := xa.later hb
  replace hg := hg.trans hb
  clear hb
  go_wp2_with fail
  go_at_call 9
  refine name_calls (fun W2 hW => ?_)
  have xr : boxAt W2 w3.heap.size [.int .i64 2, .int .i64 0, .int .u64 (wd setA 0), .int .u64 (wd setA 1), .int .u64 (wd setA 2), .int .u64 (wd setA 3), .string ⟨#[]⟩, .int .i64 0, .int .i64 0, (.slice none 0 0)] := boxAt.new _ _ hW
  have hb : Gr w3 W2 := by rw [hW]; exact Gr.alloc _ _
  replace xa := xa.later hb
  replace hg := hg.trans hb
  clear hb hW
  have hc := lenOf_built 7 (-1) w3.heap.size 1 1 [(byteE setA, exCells 2 0 setA ⟨#[]⟩ 0 0 (.slice none 0 0))] W2 (by unfold fit64; omega) (by unfold fit64; omega) rfl (by omega) (by simpa [exCells] using xr) (fun p hp => by rw [List.mem_singleton] at hp; subst hp; exact byteE_in setA W2) va (HA.out.later hg)
  rw [List.map_cons, List.map_nil, starE_core, starE_of _ setA_ne] at hc
  unfold lenRes at hc
  simp only [if_true] at hc
  refine hc.mono ?_; clear hc xr; rintro e' w4 ⟨rfl, hb⟩
  replace xa := xa.later hb
  replace hg := hg.trans hb
  clear hb
  go_wp2_with fail
  go_at_call 20
  refine name_calls (fun W3 hW => ?_)
  have xb : boxAt W3 w4.heap.size [.bool false, .int .i64 0, .int .i64 (-1)] := boxAt.new _ _ hW
  have hb : Gr w4 W3 := by rw [hW]; exact Gr.alloc _ _
  replace xa := xa.later hb
  replace hg := hg.trans hb
  clear hb hW
  refine (set_a W3).mono ?_; rintro e' w5 ⟨rfl, hb⟩
  replace xa := xa.later hb
  replace xb := xb.later hb
  replace hg := hg.trans hb
  clear hb
  go_wp2_with fail
  go_at_call 20
  refine (set_b w5).mono ?_; rintro e' w6 ⟨rfl, hb⟩
  replace xa := xa.later hb
  replace xb := xb.later hb
  replace hg := hg.trans hb
  clear hb
  go_wp2_with fail
  go_at_call 16
  refine name_calls (fun W4 hW => ?_)
  have xr : boxAt W4 w6.heap.size ([.int .i64 2, .int .i64 0, .int .u64 (wd setA 0), .int .u64 (wd setA 1), .int .u64 (wd setA 2), .int .u64 (wd setA 3), .string ⟨#[]⟩, .int .i64 0, .int .i64 0, (.slice none 0 0)] ++ .bool true :: [.int .i64 2, .int .i64 0, .int .u64 (wd setB 0), .int .u64 (wd setB 1), .int .u64 (wd setB 2), .int .u64 (wd setB 3), .string ⟨#[]⟩, .int .i64 0, .int .i64 0, (.slice none 0 0)]) := boxAt.new _ _ hW
  have hb : Gr w6 W4 := by rw [hW]; exact Gr.alloc _ _
  replace xa := xa.later hb
  replace xb := xb.later hb
  replace hg := hg.trans hb
  clear hb hW
  refine (cuts_any [(wakeCo, [.int .i64 2, .int .i64 0, .int .u64 (wd setA 0), .int .u64 (wd setA 1), .int .u64 (wd setA 2), .int .u64 (wd setA 3), .string ⟨#[]⟩, .int .i64 0, .int .i64 0, (.slice none 0 0)] ++ .bool true :: [.int .i64 2, .int .i64 0, .int .u64 (wd setB 0), .int .u64 (wd setB 1), .int .u64 (wd setB 2), .int .u64 (wd setB 3), .string ⟨#[]⟩, .int .i64 0, .int .i64 0, (.slice none 0 0)])] _ W4 (Sl.box (by simpa using xr) rfl (by show 1 ≤ maxLen; unfold maxLen; omega) (by omega)) (wake_in W4) va (HA.out.later hg) vt (HT.out.later hg)).mono ?_
  rintro e' w7 ⟨v, er, rfl, htold, hb⟩
  obtain ⟨rfl, hown⟩ := wake_told htold
  obtain ⟨gl, capl, rfl, _, hgl, _⟩ := owns_block hown (by omega)
  have q0 := owns_cell hown 0 _ rfl
  have q1 := owns_cell hown 1 _ rfl
  replace xa := xa.later hb
  replace xb := xb.later hb
  replace hg := hg.trans hb
  clear hb xr htold hown
  have c_a0 := xa.cell 0 _ rfl
  have c_a1 := xa.cell 1 _ rfl
  have c_a2 := xa.cell 2 _ rfl
  have m_a0 := xa.mark 0 _ rfl
  have m_a1 := xa.mark 1 _ rfl
  have m_a2 := xa.mark 2 _ rfl
  have l_a := xa.lt (Nat.succ_pos _)
  have c_b0 := xb.cell 0 _ rfl
  have c_b1 := xb.cell 1 _ rfl
  have c_b2 := xb.cell 2 _ rfl
  have m_b0 := xb.mark 0 _ rfl
  have m_b1 := xb.mark 1 _ rfl
  have m_b2 := xb.mark 2 _ rfl
  have l_b := xb.lt (Nat.succ_pos _)
  go_wp2_with fail
  go_ret
  exact ⟨rfl, hg⟩

end Go.Proofs.YtpcmgkohebihmaaDoor
