/- ClassDeep of bolterlaw3, walked: it answers true. No condition but the errors' variables. -/
import Derived.Test.YtihjmeoklbmnmaaDoorPDeepP
import Derived.Test.YtihjmeoklbmnmaaDoorPBackR
import Derived.Test.YtihjmeoklbmnmaaDoorPTellErr
import Derived.Test.YtihjmeoklbmnmaaDoorPGe
import Derived.Test.YtihjmeoklbmnmaaDoorPGb
namespace Go.Proofs.YtihjmeoklbmnmaaDoor
open Go Go.RowKit

theorem Sl.litA (c : UInt8) (x : Int) (w W : World) (hx : x = (c.toNat : Int)) (hW : W = w.alloc (.cells #[.int .u8 x] 5)) : Sl W (.slice (some ⟨w.heap.size, 0, none⟩) 1 1) 1 ([c] : List UInt8).length (([c] : List UInt8).map vB) :=
  ⟨rfl, by unfold maxLen; simp, .inr ⟨_, _, _, rfl, fun _ => by subst hW; simp, fun j u hj => by
    subst hx
    have := (boxAt.new (w := w) (W := W) [vB c] 5 hW).cell j u hj
    rw [Nat.zero_add]; exact this⟩⟩

set_option maxRecDepth 100000 in
set_option maxHeartbeats 8000000 in
theorem classDeep_any (s : Nat → Addr) (w : World) (hF : FaultsIn w s) (hm : ∃ m, w.cell? ⟨17, 0, none⟩ = some (.int .i64 m)) :
    Calls Tryd.prog 7 #[] w fun e w' => e = .returned (.bool true) ∧ Gr w w' := by
  have HS := Lib.hid (hF.sy0 hm)
  have HF := Lib.hid hF
  clear hF hm
  go_enter Tryd.func7, Tryd.ntmps7
  go_wp2_with fail
  go_loopw [1, 2, 3] (fun a b i wr => ∃ k j : Nat, j = k + 1 ∧ k ≤ 39 ∧ i = .int .i64 (j : Int) ∧ a = .string (st (openL k)) ∧ b = .string (st (shutL k)) ∧ wr = w) (fun _ _ i _ => 40 - (intOf i).toNat)
  case atStart => exact ⟨0, 1, rfl, by omega, rfl, rfl, rfl, rfl⟩
  case round =>
    obtain ⟨k, j, hj, hk, rfl, rfl, rfl, rfl⟩ := hrel
    by_cases hlt : j < 40
    · have hjI : (j : Int) < 40 := by omega
      obtain ⟨j1, hj1⟩ : ∃ x, j + 1 = x := ⟨_, rfl⟩
      have hwj : IntKind.i64.wrap ((j : Int) + 1) = (j1 : Int) := by rw [IntWalk.i64_in _ (by omega)]; omega
      have c1 := cat_is (P := Tryd.prog) (st (openL k)) { data := #[91, 97, 45, 45] } (st (openL (k + 1))) (openL k) [91, 97, 45, 45] rfl rfl (by rw [openL_snoc]) (by rw [openL_len]; simp; omega)
      have c2 := cat_is (P := Tryd.prog) (st (shutL k)) { data := #[93] } (st (shutL (k + 1))) (shutL k) [93] rfl rfl (by rw [shutL_snoc]) (by rw [shutL_len]; simp; omega)
      obtain ⟨A, hA⟩ : ∃ x, openL k = x := ⟨_, rfl⟩
      obtain ⟨B, hB⟩ : ∃ x, shutL k = x := ⟨_, rfl⟩
      obtain ⟨A1, hA1⟩ : ∃ x, openL (k + 1) = x := ⟨_, rfl⟩
      obtain ⟨B1, hB1⟩ : ∃ x, shutL (k + 1) = x := ⟨_, rfl⟩
      rw [hA, hA1] at c1
      rw [hB, hB1] at c2
      rw [hA, hB]
      have HH := Lib.hid (show k + 1 = j ∧ j + 1 = j1 ∧ openL (k + 1) = A1 ∧ shutL (k + 1) = B1 ∧ j < 40 from ⟨hj.symm, hj1, hA1, hB1, hlt⟩)
      clear hj hk hlt hj1 hA hB hA1 hB1
      go_wp2_with fail
      go_roundw
      case rel => exact ⟨k + 1, j1, by have := HH.out; omega, by have := HH.out; omega, rfl, by rw [HH.out.2.2.1], by rw [HH.out.2.2.2.1], trivial⟩
      case measure => have := HH.out; simp [intOf]; omega
    · obtain rfl : j = 40 := by omega
      obtain rfl : k = 39 := by omega
      clear hj hk hlt
      have la : (openL 39).length = 156 := by rw [openL_len]
      have lb : (shutL 39).length = 39 := shutL_len 39
      have p1 := parse_deep
      have p2 := parse_deeper
      obtain ⟨A, hA⟩ : ∃ x, openL 39 = x := ⟨_, rfl⟩
      obtain ⟨B, hB⟩ : ∃ x, shutL 39 = x := ⟨_, rfl⟩
      rw [hA, hB] at p1 p2 ⊢
      rw [hA] at la
      rw [hB] at lb
      have sa : (st A).size = 156 := by rw [st_size, la]
      have sb : (st B).size = 39 := by rw [st_size, lb]
      obtain ⟨u1, hu1⟩ : ∃ x, A ++ [91, 98, 93] = x := ⟨_, rfl⟩
      obtain ⟨u2, hu2⟩ : ∃ x, u1 ++ B = x := ⟨_, rfl⟩
      obtain ⟨v1, hv1⟩ : ∃ x, A ++ [91, 98, 45, 45, 91, 99, 93, 93] = x := ⟨_, rfl⟩
      obtain ⟨v2, hv2⟩ : ∃ x, v1 ++ B = x := ⟨_, rfl⟩
      have lu1 : u1.length = 159 := by rw [← hu1, List.length_append, la]; rfl
      have lu2 : u2.length = 198 := by rw [← hu2, List.length_append, lu1, lb]
      have lv1 : v1.length = 164 := by rw [← hv1, List.length_append, la]; rfl
      have lv2 : v2.length = 203 := by rw [← hv2, List.length_append, lv1, lb]
      have c1 := cat_is (P := Tryd.prog) (st A) { data := #[91, 98, 93] } (st u1) A [91, 98, 93] rfl rfl (by rw [hu1]) (by rw [la]; simp)
      have c2 := cat_is (P := Tryd.prog) (st u1) (st B) (st u2) u1 B rfl rfl (by rw [hu2]) (by rw [lu1, lb]; omega)
      have c3 := cat_is (P := Tryd.prog) (st A) { data := #[91, 98, 45, 45, 91, 99, 93, 93] } (st v1) A [91, 98, 45, 45, 91, 99, 93, 93] rfl rfl (by rw [hv1]) (by rw [la]; simp)
      have c4 := cat_is (P := Tryd.prog) (st v1) (st B) (st v2) v1 B rfl rfl (by rw [hv2]) (by rw [lv1, lb]; omega)
      rw [show A ++ 91 :: 98 :: 93 :: B = u2 by rw [← hu2, ← hu1, List.append_assoc]; rfl] at p1
      rw [show A ++ 91 :: 98 :: 45 :: 45 :: 91 :: 99 :: 93 :: 93 :: B = v2 by rw [← hv2, ← hv1, List.append_assoc]; rfl] at p2
      obtain ⟨S, hSS⟩ : ∃ S, ofList [97] = S := ⟨_, rfl⟩
      rw [hSS] at p1
      have P1 := Lib.hid (fun w' h => parse_at u2 0 S [] (esV s 3) (esV s 4) w' (by omega) h p1 198 (by rw [lu2]; rfl))
      have P2 : Hid (∀ w', Gr wr w' → Calls Tryd.prog 13 #[.string (st v2), .int .i64 0] w' fun e w2 => Gr w' w2 ∧ ∃ t y, e = .returned (.tuple #[.agg #[.int .u64 (wd emptyS 0), .int .u64 (wd emptyS 1), .int .u64 (wd emptyS 2), .int .u64 (wd emptyS 3)], .int .i64 0, .iface t y]) ∧ ErrIn s w2 (some (true, 160)) (.iface t y)) := fun w' hw => by
        have := parse_any v2 0 (esV s 3) (esV s 4) w' (by omega) (HS.out.later hw)
        rw [p2] at this
        refine this.mono ?_
        rintro e w2 ⟨hg, er, rfl, hr⟩
        rw [show v2.length - (91 :: 99 :: 93 :: 93 :: B).length = 160 by rw [lv2]; simp [lb]] at hr
        have hin := ErrIn.refused hr
        obtain ⟨t, y, rfl⟩ := hin.iface
        exact ⟨hg, t, y, rfl, hin⟩
      have HO := Lib.hid hSS
      clear hA hB p1 p2 hu1 hu2 hv1 hv2 lu1 lu2 lv1 lv2 la lb hSS
      go_wp2_with fail
      go_at_call 13
      refine (P1.out _ HS.out).mono ?_; rintro e w1 ⟨rfl, hg⟩
      go_wp2_with fail
      go_at_call 13
      refine name_calls (fun W1 hW => ?_)
      have xs : boxAt W1 w1.heap.size [.int .u64 (wd S 0), .int .u64 (wd S 1), .int .u64 (wd S 2), .int .u64 (wd S 3)] := boxAt.new _ _ hW
      replace hg := Gr.trans hg (show Gr w1 W1 by rw [hW]; exact Gr.alloc _ _)
      clear hW
      refine (P2.out W1 hg).mono ?_; rintro e w2 ⟨hg2, ty, y, rfl, hin⟩
      have HIN := Lib.hid hin
      have xs2 := xs.later hg2
      clear hin xs
      go_upto_region 10 with fail
      refine name_world (fun W2 hW => ?_)
      have hb : Gr w2 W2 := by rw [hW]; exact Gr.alloc _ _
      replace xs2 := xs2.later hb
      have HIN2 := Lib.hid (HIN.out.later hb)
      have hg3 := (hg.trans hg2).trans hb
      clear hW hb hg hg2 HIN
      have c_s0 := xs2.cell 0 _ rfl
      have c_s1 := xs2.cell 1 _ rfl
      have c_s2 := xs2.cell 2 _ rfl
      have c_s3 := xs2.cell 3 _ rfl
      have m_s0 := xs2.mark 0 _ rfl
      have m_s1 := xs2.mark 1 _ rfl
      have m_s2 := xs2.mark 2 _ rfl
      have m_s3 := xs2.mark 3 _ rfl
      have l_s := xs2.lt (Nat.succ_pos _)
      refine wp_region_G (.take 0 (.take 1 (.take 2 (.take 3 (.take 4 (.take 5 (.take 6 (.take 7 (.take 8 (.take 9 (.take 10 (.take 11 (.take 12 (.take 13 (.run 14 false (.run 15 false (.take 16 (.take 17 .nil)))))))))))))))))) (by kernel_rfl) (by kernel_rfl) ?_
      simp only [pickOps, nthOp]
      intro wq hG
      repeat (first | (refine wpG_skip_take ?_ ?_; (focus rfl); try simp only [Act.put, List.setIfInBounds_toArray, List.set_cons_zero, List.set_cons_succ]) | (refine wpG_skip_run ?_ ?_; (focus rfl); try simp only [Act.put, List.setIfInBounds_toArray, List.set_cons_zero, List.set_cons_succ]) | (refine wpG_take ?_ ?_; (focus rfl); apply Exists.intro; refine ⟨fun w' hw' => ?_, ?_⟩; (focus (have hc := Gr.cells hw'; go_simp; (try rfl); done)); try simp only [Act.put, List.setIfInBounds_toArray, List.set_cons_zero, List.set_cons_succ]) | (refine wpG_run ?_ (fun K hK => ?_); (focus rfl); go_simp; (first | ((refine name_K (fun wn hW' => ?_); have hsl := Sl.litA 97 97 _ wn rfl hW'; have hb : Gr _ wn := (by rw [hW']; exact Gr.alloc _ _); clear hW')) | (go_at_call 19; (with_reducible refine (of_is [97] S _ _ hsl HO.out).mono ?_); rintro e wn ⟨rfl, hb⟩)); (try dsimp only); replace hG := hG.trans hb; refine hK.out _ _ hG ?_; clear hK K hb; try simp only [Act.put, List.setIfInBounds_toArray, List.set_cons_zero, List.set_cons_succ]))
      refine wpG_done ?_
      have HSM : Hid (∀ W', Gr W2 W' → Calls Tryd.prog 20 #[.iface ty y, .agg #[.int .i64 4, .int .i64 0, .int .i64 0, .int .i64 160, .slice none 0 0]] W' fun e w' => e = .returned (.bool true) ∧ Gr W' w') := fun W' hw => same_in (HF.out.later (hg3.trans hw)) (some (true, 160)) _ (HIN2.out.later hw)
      have HG := Lib.hid hG
      have HW : Hid (∀ W', Gr W2 W' → Sy0 W' (esV s 3) (esV s 4)) := fun W' hw => HS.out.later (hg3.trans hw)
      go_wp2_with first
        | (go_at_call 20; (with_reducible refine (HSM.out _ HG.out).mono ?_); rintro e w6 ⟨rfl, hb6⟩)
        | (go_at_call 12; (with_reducible refine (wakes_any _ _ _ (HW.out _ (HG.out.trans hb6))).mono ?_); rintro e w7 ⟨rfl, hb7⟩)
      go_ret
      exact ⟨rfl, ((hg3.trans HG.out).trans hb6).trans hb7⟩

end Go.Proofs.YtihjmeoklbmnmaaDoor
