/- wakes of bolterlaw1: it answers true. No condition. -/
import Derived.Test.YtambkpgcccjhmaaDoorList
import Derived.Test.YtambkpgcccjhmaaDoorEqB
namespace Go.Proofs.YtambkpgcccjhmaaDoor
open Go Go.RowKit

def wakeS : BitVec 256 := ofList [97, 98, 255]
theorem wake_card : card wakeS = 3 := by decide +kernel
theorem wake_255 : wakeS.getLsbD 255 = true := by decide +kernel
theorem wake_99 : wakeS.getLsbD 99 = false := by decide +kernel
theorem wake_list : (bytesOf wakeS == [97, 98, 255]) = true := by decide +kernel

theorem count_of (s : BitVec 256) (n : Nat) (w : World) (h : card s = n) : Calls Tryd.prog 14 #[.agg #[.int .u64 (wd s 0), .int .u64 (wd s 1), .int .u64 (wd s 2), .int .u64 (wd s 3)]] w fun e w' => e = .returned (.int .i64 n) ∧ Gr w w' := by
  subst h; exact count_any s w
theorem eqB_of (l m : List UInt8) (r : Bool) (v u : Value) (w : World) (hl : Sl w v 1 l.length (l.map vB)) (hm : Sl w u 1 m.length (m.map vB)) (h : (l == m) = r) :
    Calls Tryd.prog 36 #[v, u] w fun e w' => e = .returned (.bool r) ∧ Gr w w' := by
  subst h; exact eqB_any l m v u w hl hm
theorem has_at (s : BitVec 256) (x : Int) (b : Nat) (r : Bool) (w : World) (hx : x = (b : Int)) (hb : b < 256) (h : s.getLsbD b = r) : Calls Tryd.prog 12 #[.agg #[.int .u64 (wd s 0), .int .u64 (wd s 1), .int .u64 (wd s 2), .int .u64 (wd s 3)], .int .u8 x] w fun e w' => e = .returned (.bool r) ∧ Gr w w' := by
  subst hx; exact has_of s b r w hb h
theorem Sl.new3 (a b c : UInt8) (w W : World) (hW : W = w.alloc (.cells #[vB a, vB b, vB c] 5)) : Sl W (.slice (some ⟨w.heap.size, 0, none⟩) 3 3) 1 3 [vB a, vB b, vB c] :=
  ⟨rfl, by unfold maxLen; omega, .inr ⟨_, _, _, rfl, fun _ => by subst hW; simp, fun j u hj => by
    have := (boxAt.new (w := w) (W := W) [vB a, vB b, vB c] 5 hW).cell j u hj
    rw [Nat.zero_add]; exact this⟩⟩

set_option maxHeartbeats 1000000 in
theorem wakes_any (w : World) : Calls Tryd.prog 9 #[] w fun e w' => e = .returned (.bool true) ∧ Gr w w' := by
  go_enter Tryd.func9, Tryd.ntmps9
  go_wp2_with fail
  go_at_call 15
  refine name_calls (fun W hW => ?_)
  have hsl := Sl.new3 97 98 255 w W hW
  have hg0 : Gr w W := by rw [hW]; exact Gr.alloc _ _
  clear hW
  refine (of_any [97, 98, 255] _ _ hsl).mono ?_
  rintro e w1 ⟨rfl, hb⟩
  clear hsl
  replace hg0 := hg0.trans hb
  clear hb
  have hfold : ofList [97, 98, 255] = wakeS := rfl
  rw [hfold]
  clear hfold W
  go_wp2
  refine name_world (fun W hW => ?_)
  have hb0 : boxAt W w1.heap.size [.int .u64 (wd wakeS 0), .int .u64 (wd wakeS 1), .int .u64 (wd wakeS 2), .int .u64 (wd wakeS 3)] := boxAt.new _ 24 (by rw [hW])
  have hgW : Gr w W := hg0.trans (by rw [hW]; exact Gr.alloc _ _)
  have hz : w1.heap.size < W.heap.size := by rw [hW]; simp
  clear hW hg0
  have c_s0 := hb0.cell 0 _ rfl
  have c_s1 := hb0.cell 1 _ rfl
  have c_s2 := hb0.cell 2 _ rfl
  have c_s3 := hb0.cell 3 _ rfl
  have m_s0 := hb0.mark 0 _ rfl
  have m_s1 := hb0.mark 1 _ rfl
  have m_s2 := hb0.mark 2 _ rfl
  have m_s3 := hb0.mark 3 _ rfl
  have l_s := hb0.lt (Nat.succ_pos _)
  clear hb0
  refine wp_region_G (.take 0 (.run 1 false (.take 2 (.take 3 (.take 4 (.run 5 false (.take 6 (.take 7 (.take 8 (.run 9 false (.take 10 (.take 11 (.take 12 (.take 13 (.fork 14 (.run 15 false (.run 16 false (.run 17 false (.take 18 (.take 19 (.take 20 (.take 23 (.run 21 false (.run 22 false (.take 24 (.take 25 (.run 26 true .nil)))))))))))) 15 (.fork 14 (.run 16 false (.run 17 false (.take 18 (.take 19 (.take 20 (.take 23 (.run 21 false (.run 22 false (.take 24 (.take 25 (.run 26 true .nil))))))))))) 16 (.run 14 false (.run 17 false (.take 18 (.take 19 (.take 20 (.take 23 (.run 21 false (.run 22 false (.take 24 (.take 25 (.run 26 true .nil))))))))))))))))))))))))))) (by kernel_rfl) (by kernel_rfl) ?_
  simp only [pickOps, nthOp]
  intro wq hG
  repeat (first | (refine wpG_skip_take ?_ ?_; (focus rfl); try simp only [Act.put, List.setIfInBounds_toArray, List.set_cons_zero, List.set_cons_succ]) | (refine wpG_skip_run ?_ ?_; (focus rfl); try simp only [Act.put, List.setIfInBounds_toArray, List.set_cons_zero, List.set_cons_succ]) | (refine wpG_take ?_ ?_; (focus rfl); apply Exists.intro; refine ⟨fun w' hw' => ?_, ?_⟩; (focus (have hc := Gr.cells hw'; go_simp; (try rfl); done)); try simp only [Act.put, List.setIfInBounds_toArray, List.set_cons_zero, List.set_cons_succ]) | (refine wpG_run ?_ (fun K hK => ?_); (focus rfl); go_simp; (first | (go_at_call 14; (with_reducible refine (count_of wakeS 3 _ wake_card).mono ?_); rintro e w' ⟨rfl, hb⟩) | (go_at_call 12; (with_reducible refine (has_at wakeS 255 255 true _ rfl (by decide) wake_255).mono ?_); rintro e w' ⟨rfl, hb⟩) | (go_at_call 12; (with_reducible refine (has_at wakeS 99 99 false _ rfl (by decide) wake_99).mono ?_); rintro e w' ⟨rfl, hb⟩)); (try dsimp only); replace hG := hG.trans hb; refine hK.out _ _ hG ?_; clear hK K hb; try simp only [Act.put, List.setIfInBounds_toArray, List.set_cons_zero, List.set_cons_succ]))
  refine wpG_fork rfl rfl (fun K hK => ?_) (fun K hK => ?_)
  · go_simp
    go_at_call 10
    refine (list_any wakeS _).mono ?_
    rintro e w3 ⟨v, rfl, hown, hb⟩
    have hsl := Sl.of_owns hown
    replace hG := hG.trans hb
    refine hK.out _ _ hG ?_
    clear hK K hown hb
    repeat (first | (refine wpG_skip_take ?_ ?_; (focus rfl); try simp only [Act.put, List.setIfInBounds_toArray, List.set_cons_zero, List.set_cons_succ]) | (refine wpG_skip_run ?_ ?_; (focus rfl); try simp only [Act.put, List.setIfInBounds_toArray, List.set_cons_zero, List.set_cons_succ]) | (refine wpG_take ?_ ?_; (focus rfl); apply Exists.intro; refine ⟨fun w' hw' => ?_, ?_⟩; (focus (have hc := Gr.cells hw'; go_simp; (try rfl); done)); try simp only [Act.put, List.setIfInBounds_toArray, List.set_cons_zero, List.set_cons_succ]))
    refine wpG_run rfl (fun K hK => ?_)
    go_simp
    have hbl := Gr.size hG
    refine hK.out _ _ (hG.trans (Gr.alloc _ _)) ?_
    clear hK K
    refine name_wpG (fun W4 hW4 => ?_)
    have hs4 : Sl W4 _ 1 ([97, 98, 255] : List UInt8).length (([97, 98, 255] : List UInt8).map vB) := Sl.new3 97 98 255 _ W4 hW4
    have hsh := shape_new hW4
    replace hsl := hsl.allocTo hW4
    replace hG : Gr W W4 := hG.trans (by rw [hW4]; exact Gr.alloc _ _)
    clear hW4
    repeat (first | (refine wpG_skip_take ?_ ?_; (focus rfl); try simp only [Act.put, List.setIfInBounds_toArray, List.set_cons_zero, List.set_cons_succ]) | (refine wpG_skip_run ?_ ?_; (focus rfl); try simp only [Act.put, List.setIfInBounds_toArray, List.set_cons_zero, List.set_cons_succ]) | (refine wpG_take ?_ ?_; (focus rfl); apply Exists.intro; refine ⟨fun w' hw' => ?_, ?_⟩; (focus (have hc := Gr.cells hw'; go_simp; (try rfl); done)); try simp only [Act.put, List.setIfInBounds_toArray, List.set_cons_zero, List.set_cons_succ]))
    refine wpG_run rfl (fun K hK => ?_)
    have hcv := run_convert_bytes_same (P := Tryd.prog) _ 32 5 _ 3 3 _ _ Tryd.underlying32 Tryd.underlying5 hsh
    go_simp
    refine hK.out _ _ (hG.freeze _ _ (by exact hbl)) ?_
    refine name_wpG (fun W5 hW5 => ?_)
    replace hG : Gr W W5 := by rw [hW5]; exact hG.freeze _ _ (by exact hbl)
    replace hsl := hsl.freezeTo hW5
    replace hs4 := hs4.freezeTo hW5
    clear hK K hW5 hcv hsh hbl
    repeat (first | (refine wpG_skip_take ?_ ?_; (focus rfl); try simp only [Act.put, List.setIfInBounds_toArray, List.set_cons_zero, List.set_cons_succ]) | (refine wpG_skip_run ?_ ?_; (focus rfl); try simp only [Act.put, List.setIfInBounds_toArray, List.set_cons_zero, List.set_cons_succ]) | (refine wpG_take ?_ ?_; (focus rfl); apply Exists.intro; refine ⟨fun w' hw' => ?_, ?_⟩; (focus (have hc := Gr.cells hw'; go_simp; (try rfl); done)); try simp only [Act.put, List.setIfInBounds_toArray, List.set_cons_zero, List.set_cons_succ]) | (refine wpG_run ?_ (fun K hK => ?_); (focus rfl); go_simp; (first | (go_at_call 36; (with_reducible refine (eqB_of (bytesOf wakeS) [97, 98, 255] true _ _ _ hsl hs4 wake_list).mono ?_); rintro e w' ⟨rfl, hb⟩) | (go_at_call 30; (with_reducible refine (complement_any _ _).mono ?_); rintro e w' ⟨rfl, hb⟩)); (try dsimp only); replace hG := hG.trans hb; refine hK.out _ _ hG ?_; clear hK K hb; try simp only [Act.put, List.setIfInBounds_toArray, List.set_cons_zero, List.set_cons_succ]))
    refine wpG_last ?_ (fun K hK => ?_); (focus rfl)
    have hc := hG.cells
    have hm := hG.marks
    go_simp
    refine hK.out _ _ ?_
    try simp only [Act.put, List.setIfInBounds_toArray, List.set_cons_zero, List.set_cons_succ]
    clear hK K hc hm
    refine wpG_done ?_
    go_wp2
    go_ret
    exact ⟨rfl, hgW.trans hG⟩
  · go_simp
    have hbl := Gr.size hG
    refine hK.out _ _ (hG.trans (Gr.alloc _ _)) ?_
    clear hK K
    refine name_wpG (fun W4 hW4 => ?_)
    have hs4 : Sl W4 _ 1 ([97, 98, 255] : List UInt8).length (([97, 98, 255] : List UInt8).map vB) := Sl.new3 97 98 255 _ W4 hW4
    have hsh := shape_new hW4
    replace hG : Gr W W4 := hG.trans (by rw [hW4]; exact Gr.alloc _ _)
    clear hW4
    repeat (first | (refine wpG_skip_take ?_ ?_; (focus rfl); try simp only [Act.put, List.setIfInBounds_toArray, List.set_cons_zero, List.set_cons_succ]) | (refine wpG_skip_run ?_ ?_; (focus rfl); try simp only [Act.put, List.setIfInBounds_toArray, List.set_cons_zero, List.set_cons_succ]) | (refine wpG_take ?_ ?_; (focus rfl); apply Exists.intro; refine ⟨fun w' hw' => ?_, ?_⟩; (focus (have hc := Gr.cells hw'; go_simp; (try rfl); done)); try simp only [Act.put, List.setIfInBounds_toArray, List.set_cons_zero, List.set_cons_succ]))
    refine wpG_fork rfl rfl (fun K hK => ?_) (fun K hK => ?_)
    · go_simp
      go_at_call 10
      refine (list_any wakeS _).mono ?_
      rintro e w3 ⟨v, rfl, hown, hb⟩
      have hsl := Sl.of_owns hown
      replace hs4 := hs4.later hb
      replace hsh := shape_later hsh hb
      replace hG := hG.trans hb
      refine hK.out _ _ hG ?_
      clear hK K hown hb
      repeat (first | (refine wpG_skip_take ?_ ?_; (focus rfl); try simp only [Act.put, List.setIfInBounds_toArray, List.set_cons_zero, List.set_cons_succ]) | (refine wpG_skip_run ?_ ?_; (focus rfl); try simp only [Act.put, List.setIfInBounds_toArray, List.set_cons_zero, List.set_cons_succ]) | (refine wpG_take ?_ ?_; (focus rfl); apply Exists.intro; refine ⟨fun w' hw' => ?_, ?_⟩; (focus (have hc := Gr.cells hw'; go_simp; (try rfl); done)); try simp only [Act.put, List.setIfInBounds_toArray, List.set_cons_zero, List.set_cons_succ]))
      refine wpG_run rfl (fun K hK => ?_)
      have hcv := run_convert_bytes_same (P := Tryd.prog) _ 32 5 _ 3 3 _ _ Tryd.underlying32 Tryd.underlying5 hsh
      go_simp
      refine hK.out _ _ (hG.freeze _ _ (by exact hbl)) ?_
      refine name_wpG (fun W5 hW5 => ?_)
      replace hG : Gr W W5 := by rw [hW5]; exact hG.freeze _ _ (by exact hbl)
      replace hsl := hsl.freezeTo hW5
      replace hs4 := hs4.freezeTo hW5
      clear hK K hW5 hcv hsh hbl
      repeat (first | (refine wpG_skip_take ?_ ?_; (focus rfl); try simp only [Act.put, List.setIfInBounds_toArray, List.set_cons_zero, List.set_cons_succ]) | (refine wpG_skip_run ?_ ?_; (focus rfl); try simp only [Act.put, List.setIfInBounds_toArray, List.set_cons_zero, List.set_cons_succ]) | (refine wpG_take ?_ ?_; (focus rfl); apply Exists.intro; refine ⟨fun w' hw' => ?_, ?_⟩; (focus (have hc := Gr.cells hw'; go_simp; (try rfl); done)); try simp only [Act.put, List.setIfInBounds_toArray, List.set_cons_zero, List.set_cons_succ]) | (refine wpG_run ?_ (fun K hK => ?_); (focus rfl); go_simp; (first | (go_at_call 36; (with_reducible refine (eqB_of (bytesOf wakeS) [97, 98, 255] true _ _ _ hsl hs4 wake_list).mono ?_); rintro e w' ⟨rfl, hb⟩) | (go_at_call 30; (with_reducible refine (complement_any _ _).mono ?_); rintro e w' ⟨rfl, hb⟩)); (try dsimp only); replace hG := hG.trans hb; refine hK.out _ _ hG ?_; clear hK K hb; try simp only [Act.put, List.setIfInBounds_toArray, List.set_cons_zero, List.set_cons_succ]))
      refine wpG_last ?_ (fun K hK => ?_); (focus rfl)
      have hc := hG.cells
      have hm := hG.marks
      go_simp
      refine hK.out _ _ ?_
      try simp only [Act.put, List.setIfInBounds_toArray, List.set_cons_zero, List.set_cons_succ]
      clear hK K hc hm
      refine wpG_done ?_
      go_wp2
      go_ret
      exact ⟨rfl, hgW.trans hG⟩
    · have hcv := run_convert_bytes_same (P := Tryd.prog) _ 32 5 _ 3 3 _ _ Tryd.underlying32 Tryd.underlying5 hsh
      go_simp
      refine hK.out _ _ (hG.freeze _ _ (by exact hbl)) ?_
      refine name_wpG (fun W5 hW5 => ?_)
      replace hG : Gr W W5 := by rw [hW5]; exact hG.freeze _ _ (by exact hbl)
      replace hs4 := hs4.freezeTo hW5
      clear hK K hW5 hcv hsh hbl
      repeat (first | (refine wpG_skip_take ?_ ?_; (focus rfl); try simp only [Act.put, List.setIfInBounds_toArray, List.set_cons_zero, List.set_cons_succ]) | (refine wpG_skip_run ?_ ?_; (focus rfl); try simp only [Act.put, List.setIfInBounds_toArray, List.set_cons_zero, List.set_cons_succ]) | (refine wpG_take ?_ ?_; (focus rfl); apply Exists.intro; refine ⟨fun w' hw' => ?_, ?_⟩; (focus (have hc := Gr.cells hw'; go_simp; (try rfl); done)); try simp only [Act.put, List.setIfInBounds_toArray, List.set_cons_zero, List.set_cons_succ]))
      refine wpG_run rfl (fun K hK => ?_)
      go_simp
      go_at_call 10
      refine (list_any wakeS _).mono ?_
      rintro e w3 ⟨v, rfl, hown, hb⟩
      have hsl := Sl.of_owns hown
      replace hs4 := hs4.later hb
      replace hG := hG.trans hb
      refine hK.out _ _ hG ?_
      clear hK K hown hb
      repeat (first | (refine wpG_skip_take ?_ ?_; (focus rfl); try simp only [Act.put, List.setIfInBounds_toArray, List.set_cons_zero, List.set_cons_succ]) | (refine wpG_skip_run ?_ ?_; (focus rfl); try simp only [Act.put, List.setIfInBounds_toArray, List.set_cons_zero, List.set_cons_succ]) | (refine wpG_take ?_ ?_; (focus rfl); apply Exists.intro; refine ⟨fun w' hw' => ?_, ?_⟩; (focus (have hc := Gr.cells hw'; go_simp; (try rfl); done)); try simp only [Act.put, List.setIfInBounds_toArray, List.set_cons_zero, List.set_cons_succ]) | (refine wpG_run ?_ (fun K hK => ?_); (focus rfl); go_simp; (first | (go_at_call 36; (with_reducible refine (eqB_of (bytesOf wakeS) [97, 98, 255] true _ _ _ hsl hs4 wake_list).mono ?_); rintro e w' ⟨rfl, hb⟩) | (go_at_call 30; (with_reducible refine (complement_any _ _).mono ?_); rintro e w' ⟨rfl, hb⟩)); (try dsimp only); replace hG := hG.trans hb; refine hK.out _ _ hG ?_; clear hK K hb; try simp only [Act.put, List.setIfInBounds_toArray, List.set_cons_zero, List.set_cons_succ]))
      refine wpG_last ?_ (fun K hK => ?_); (focus rfl)
      have hc := hG.cells
      have hm := hG.marks
      go_simp
      refine hK.out _ _ ?_
      try simp only [Act.put, List.setIfInBounds_toArray, List.set_cons_zero, List.set_cons_succ]
      clear hK K hc hm
      refine wpG_done ?_
      go_wp2
      go_ret
      exact ⟨rfl, hgW.trans hG⟩

end Go.Proofs.YtambkpgcccjhmaaDoor
