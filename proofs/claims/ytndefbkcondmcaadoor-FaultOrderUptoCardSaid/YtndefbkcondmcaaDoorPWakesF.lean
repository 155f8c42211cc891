/- bolterlaw2: wakes answers true. No condition but the errors' variables. -/
import Derived.Test.YtndefbkcondmcaaDoorPErrorM
namespace Go.Proofs.YtndefbkcondmcaaDoor
open Go Go.RowKit

theorem wake_text : st ([115, 116, 97, 103, 101, 32] ++ Lib.decDigits 1 ++ [58, 32] ++ ([97, 116, 32] ++ Lib.decDigits 7 ++ [58, 32] ++ wordP 3)) = ⟨#[115, 116, 97, 103, 101, 32, 49, 58, 32, 97, 116, 32, 55, 58, 32, 115, 121, 110, 116, 97, 120]⟩ := by
  rw [Lib.decDigits_one (by omega : 1 < 10), Lib.decDigits_one (by omega : 7 < 10)]
  decide

set_option maxRecDepth 100000 in
set_option maxHeartbeats 8000000 in
theorem wakesF_any {W : World} {s : Nat → Addr} (hF : FaultsIn W s) (hT : FaultsT W s) : Calls Tryd.prog 16 #[] W fun e w' => e = .returned (.bool true) ∧ Gr W w' := by
  have HF := Lib.hid hF
  have HT := Lib.hid hT
  clear hF hT
  have mS := staged_error_m
  go_enter Tryd.func16, Tryd.ntmps16
  go_wp2_with fail
  go_at_call 18
  refine (faultOf_any HF.out 3 (by omega) (by omega)).mono ?_; rintro r w1 ⟨rfl, hg⟩
  go_wp2_with fail
  go_at_call 29
  refine (placeF_any _ _ 7 w1).mono ?_; rintro r w2 ⟨rfl, hb1, hg2⟩
  go_wp2_with fail
  go_at_call 28
  refine (inStage_any _ _ 1 w2).mono ?_; rintro r w3 ⟨rfl, hb2, hg3⟩
  replace hb1 := hb1.later hg3
  replace hg := hg.trans (hg2.trans hg3)
  clear hg2 hg3
  have hin : (Er.wrap .staged w2.heap.size (.int .i64 1) (.wrap .placed w1.heap.size (.int .i64 7) (.leaf (s 3)))).In w3 := ⟨hb2.cell 0 _ rfl, hb2.cell 1 _ rfl, hb1.cell 0 _ rfl, hb1.cell 1 _ rfl, (HF.out.later hg).leaf 3 (by omega) (by omega)⟩
  have HIN := Lib.hid hin
  clear hin
  go_wp2_with fail
  go_at_call 11
  have hok : (Er.wrap .staged w2.heap.size (.int .i64 1) (.wrap .placed w1.heap.size (.int .i64 7) (.leaf (s 3)))).ok := ⟨fun _ => ⟨_, rfl⟩, fun _ => ⟨_, rfl⟩, trivial⟩
  refine (tell_any (HF.out.later hg) _ HIN.out hok 3 (by omega) (by omega) rfl rfl).mono ?_; rintro r w4 ⟨rfl, hg4⟩
  clear hok
  go_wp2_with fail
  go_at_call 10
  refine (eqFault_like 3 1 0 7 (.slice none 0 0) (.slice none 0 0) [] w4 (Sl.nil _ _) (Sl.nil _ _)).mono ?_; rintro r w5 ⟨rfl, hg5⟩
  replace hb1 := hb1.later (hg4.trans hg5)
  replace hb2 := hb2.later (hg4.trans hg5)
  replace hg := hg.trans (hg4.trans hg5)
  clear hg4 hg5 HIN
  have HTX : Calls Tryd.prog 13 #[.iface 68 (.pointer (some ⟨w2.heap.size, 0, none⟩))] w5 fun e w' => e = .returned (.string ⟨#[115, 116, 97, 103, 101, 32, 49, 58, 32, 97, 116, 32, 55, 58, 32, 115, 121, 110, 116, 97, 120]⟩) ∧ Gr w5 w' := by
    have h1 := fun w' (h : Gr w5 w') => es_error (s 3) (wordP 3) w' (HT.out.later (hg.trans h) 3 (by omega) (by omega))
    have h2 := fun w' (h : Gr w5 w') => placed_error w1.heap.size (s 3) 7 (wordP 3) w' ((hb1.later h).cell 0 _ rfl) ((hb1.later h).cell 1 _ rfl) (by omega) (fun w'' h' => h1 w'' (h.trans h')) (Nat.le_trans (wordP_len 3) (by omega))
    have h3 := staged_error w2.heap.size ⟨w1.heap.size, 0, none⟩ 1 _ w5 (hb2.cell 0 _ rfl) (hb2.cell 1 _ rfl) (by omega) h2 (by
      rw [Lib.decDigits_one (by omega : 7 < 10)]; decide)
    rw [wake_text] at h3
    have H3 := Lib.hid h3
    clear h1 h2 h3
    go_enter Tryd.func13, Tryd.ntmps13
    go_wp2_with fail
    go_at_call 86
    refine H3.out.mono ?_; rintro r w6 ⟨rfl, hg6⟩
    go_wp2_with fail
    go_ret
    exact ⟨rfl, hg6⟩
  go_wp2_with fail
  go_at_call 13
  refine HTX.mono ?_; rintro r w6 ⟨rfl, hg6⟩
  clear HTX
  go_wp2_with fail
  go_at_call 18
  refine (of_nil 0 w6 (by omega)).mono ?_; rintro r w7 ⟨rfl, hg7⟩
  go_wp2_with fail
  go_ret
  exact ⟨rfl, hg.trans (hg6.trans hg7)⟩

end Go.Proofs.YtndefbkcondmcaaDoor
