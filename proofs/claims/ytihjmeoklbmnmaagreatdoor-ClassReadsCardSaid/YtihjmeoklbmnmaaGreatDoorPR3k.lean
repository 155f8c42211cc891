/- bolterref3: item, where a name should stand. No condition but a length's bound. -/
import Derived.Test.YtihjmeoklbmnmaaGreatDoorPGj
import Derived.Test.YtihjmeoklbmnmaaGreatDoorPGa
namespace Go.Proofs.YtihjmeoklbmnmaaGreatDoor
open Go Go.RowKit

theorem newA3 (w : World) : boxAt (w.alloc (.cells #[.int .u64 0, .int .u64 0, .int .u64 0, .int .u64 0] 27)) w.heap.size [.int .u64 0, .int .u64 0, .int .u64 0, .int .u64 0] := boxAt.new _ _ rfl
theorem newD3 (w : World) : boxAt (w.alloc (.cells #[.int .u64 0, .int .u64 0, .int .u64 0, .int .u64 0] 27)).drew w.heap.size [.int .u64 0, .int .u64 0, .int .u64 0, .int .u64 0] := (newA3 w).later (Gr.drew _)

set_option maxRecDepth 100000 in
set_option maxHeartbeats 8000000 in
theorem item3_name (p k o : Nat) (t : List UInt8) (w : World) (h : Rd3 w p t k o none) (hT : (t.length : Int) ≤ 4294967280) (hk : k ≤ t.length) (hn : pre [91, 58] (t.drop k) = true) :
    Calls Tryz.prog 28 #[.pointer (some ⟨p, 0, none⟩)] w (ItemEnd3 p o t w (nameP (t.drop k))) := by
  have H0 := Lib.hid h
  have lp0 := boxAt.lt h (Nat.succ_pos _)
  have hl2 := pre_len hn
  rw [List.length_drop] at hl2
  simp only [List.length_cons, List.length_nil] at hl2
  obtain ⟨Y, hY⟩ : ∃ Y, nameP (t.drop k) = Y := ⟨_, rfl⟩
  rw [hY]
  have HY := Lib.hid hY
  have HH := Lib.hid (fun w => has3_of t [91, 58] k true { data := #[91, 58] } w rfl hn hk (by decide) (by decide) hT)
  have HK := Lib.hid hl2
  have HT := Lib.hid hT
  clear hn hk hT hY hl2
  go_enter Tryz.func28, Tryz.ntmps28
  go_wp2_with fail
  refine name_world (fun W hW => ?_)
  have x2 : boxAt W w.heap.size [.int .u64 0, .int .u64 0, .int .u64 0, .int .u64 0] := boxAt.new _ _ hW
  have hg : Gr w W := Gr.of_alloc hW
  clear hW
  have h0 : boxAt W p _ := boxAt.later H0.out hg
  have c_x0 := h0.cell 0 _ rfl
  have c_x1 := h0.cell 1 _ rfl
  have c_x2 := h0.cell 2 _ rfl
  have c_x3 := h0.cell 3 _ rfl
  have c_x4 := h0.cell 4 _ rfl
  have c_x5 := h0.cell 5 _ rfl
  have c_x6 := h0.cell 6 _ rfl
  have c_x7 := h0.cell 7 _ rfl
  have m_x0 := h0.mark 0 _ rfl
  have m_x1 := h0.mark 1 _ rfl
  have m_x2 := h0.mark 2 _ rfl
  have m_x3 := h0.mark 3 _ rfl
  have m_x4 := h0.mark 4 _ rfl
  have m_x5 := h0.mark 5 _ rfl
  have m_x6 := h0.mark 6 _ rfl
  have m_x7 := h0.mark 7 _ rfl
  have l_x := h0.lt (Nat.succ_pos _)
  refine wp_region_G (.take 0 (.take 1 (.take 2 (.take 3 (.take 4 (.take 5 (.take 6 (.take 7 (.run 8 false .nil))))))))) (by kernel_rfl) (by kernel_rfl) ?_
  simp only [pickOps, nthOp]
  intro wq hG
  repeat (first | (refine wpG_skip_take ?_ ?_; (focus rfl); try simp only [Act.put, List.setIfInBounds_toArray, List.set_cons_zero, List.set_cons_succ]) | (refine wpG_skip_run ?_ ?_; (focus rfl); try simp only [Act.put, List.setIfInBounds_toArray, List.set_cons_zero, List.set_cons_succ]) | (refine wpG_take ?_ ?_; (focus rfl); apply Exists.intro; refine ⟨fun w' hw' => ?_, ?_⟩; (focus (have hc := Gr.cells hw'; go_simp; (try rfl); done)); try simp only [Act.put, List.setIfInBounds_toArray, List.set_cons_zero, List.set_cons_succ]) | (refine wpG_run ?_ (fun K hK => ?_); (focus rfl); go_simp; (first | (go_at_call 25; (with_reducible refine (HH.out _).mono ?_); rintro e wq ⟨rfl, hb⟩)); (try dsimp only); replace hG := hG.trans hb; refine hK.out _ _ hG ?_; clear hK K hb; try simp only [Act.put, List.setIfInBounds_toArray, List.set_cons_zero, List.set_cons_succ]))
  refine wpG_done ?_
  clear c_x0 c_x1 c_x2 c_x3 c_x4 c_x5 c_x6 c_x7 m_x0 m_x1 m_x2 m_x3 m_x4 m_x5 m_x6 m_x7 l_x
  replace x2 := x2.later hG
  have hgq := hg.trans hG
  have h1 : Rd3 wq p t k o none := boxAt.later H0.out hgq
  have hne : w.heap.size ≠ p := by omega
  clear hG hg h0
  go_wp2_with fail
  go_loopw [3] (fun iv wr => ∃ n : Nat, iv = .int .i64 (n : Int) ∧ 1 ≤ n ∧ n ≤ 8 ∧ Hid (∀ m, 1 ≤ m → m < n → nameAt ((t.drop k).drop 2) m = none) ∧ Rd3 wr p t k o none ∧ Kp p w wr ∧ boxAt wr w.heap.size [.int .u64 0, .int .u64 0, .int .u64 0, .int .u64 0]) (fun iv _ => 8 - (intOf iv).toNat)
  case atStart => exact ⟨1, rfl, by omega, by omega, Lib.hid (fun m h1 h2 => by omega), h1, Kp.gr hgq, x2⟩
  case round =>
    obtain ⟨n, rfl, hn1, hn8, hno, hR, hKw, xs⟩ := hrel
    by_cases hn : n < 8
    · have hI : (n : Int) < 8 := by omega
      have hTT := HT.out
      have hKK := HK.out
      obtain ⟨K2, hK2⟩ : ∃ x, k + 2 = x := ⟨_, rfl⟩
      obtain ⟨E, hE⟩ : ∃ x, K2 + n = x := ⟨_, rfl⟩
      have hw2 : IntKind.i64.wrap ((k : Int) + 2) = (K2 : Int) := by rw [IntWalk.i64_in _ (by omega)]; omega
      have hwE : IntKind.i64.wrap ((K2 : Int) + (n : Int)) = (E : Int) := by rw [IntWalk.i64_in _ (by omega)]; omega
      have hwn : IntKind.i64.wrap ((n : Int) + 1) = ((n + 1 : Nat) : Int) := by rw [IntWalk.i64_in _ (by omega)]; omega
      have hat : (((t.drop k).drop 2).drop n) = t.drop E := by rw [List.drop_drop, List.drop_drop]; congr 1; omega
      have HN := Lib.hid (show n < 8 ∧ 1 ≤ n ∧ k + 2 ≤ t.length from ⟨hn, hn1, by omega⟩)
      cases hp : pre [58, 93] (t.drop E) with
      | false =>
        have hno' : Hid (∀ m, 1 ≤ m → m < n + 1 → nameAt ((t.drop k).drop 2) m = none) := Lib.hid (fun m h1 h2 => by
          rcases Nat.lt_or_ge m n with h' | h'
          · exact hno.out m h1 h'
          · obtain rfl : m = n := by omega
            unfold nameAt
            rw [hat, hp, if_neg (by decide)])
        by_cases hEl : E ≤ t.length
        · have hEI : decide (E ≤ (st t).size) = true := decide_eq_true (by rw [st_size]; omega)
          have HH2 := Lib.hid (fun w => has3_of t [58, 93] E false { data := #[58, 93] } w rfl hp hEl (by decide) (by decide) hTT)
          clear hp hat hno hn hn1 hn8 hTT hKK hK2 hE hEl
          go_wp2_with fail
          have c_x0 := hR.cell 0 _ rfl
          have c_x1 := hR.cell 1 _ rfl
          have c_x2 := hR.cell 2 _ rfl
          have c_x3 := hR.cell 3 _ rfl
          have c_x4 := hR.cell 4 _ rfl
          have c_x5 := hR.cell 5 _ rfl
          have c_x6 := hR.cell 6 _ rfl
          have c_x7 := hR.cell 7 _ rfl
          have m_x0 := hR.mark 0 _ rfl
          have m_x1 := hR.mark 1 _ rfl
          have m_x2 := hR.mark 2 _ rfl
          have m_x3 := hR.mark 3 _ rfl
          have m_x4 := hR.mark 4 _ rfl
          have m_x5 := hR.mark 5 _ rfl
          have m_x6 := hR.mark 6 _ rfl
          have m_x7 := hR.mark 7 _ rfl
          have l_x := hR.lt (Nat.succ_pos _)
          refine wp_region_G (.take 0 (.take 1 (.take 2 (.take 3 (.take 4 (.take 5 (.take 6 (.take 7 (.take 8 (.take 9 (.take 10 (.take 11 (.take 12 (.take 13 (.take 14 (.take 15 (.take 16 (.take 17 (.take 18 (.take 19 (.take 20 (.take 21 (.take 22 (.take 23 (.take 24 (.run 25 false (.take 26 .nil))))))))))))))))))))))))))) (by kernel_rfl) (by kernel_rfl) ?_
          simp only [pickOps, nthOp]
          intro wq hG
          repeat (first | (refine wpG_skip_take ?_ ?_; (focus rfl); try simp only [Act.put, List.setIfInBounds_toArray, List.set_cons_zero, List.set_cons_succ]) | (refine wpG_skip_run ?_ ?_; (focus rfl); try simp only [Act.put, List.setIfInBounds_toArray, List.set_cons_zero, List.set_cons_succ]) | (refine wpG_take ?_ ?_; (focus rfl); apply Exists.intro; refine ⟨fun w' hw' => ?_, ?_⟩; (focus (have hc := Gr.cells hw'; go_simp; (try rfl); done)); try simp only [Act.put, List.setIfInBounds_toArray, List.set_cons_zero, List.set_cons_succ]) | (refine wpG_run ?_ (fun K hK => ?_); (focus rfl); go_simp; (first | (go_at_call 25; (with_reducible refine (HH2.out _).mono ?_); rintro e wq ⟨rfl, hb⟩)); (try dsimp only); replace hG := hG.trans hb; refine hK.out _ _ hG ?_; clear hK K hb; try simp only [Act.put, List.setIfInBounds_toArray, List.set_cons_zero, List.set_cons_succ]))
          refine wpG_done ?_
          clear c_x0 c_x1 c_x2 c_x3 c_x4 c_x5 c_x6 c_x7 m_x0 m_x1 m_x2 m_x3 m_x4 m_x5 m_x6 m_x7 l_x
          replace xs := xs.later hG
          replace hR := boxAt.later hR hG
          replace hKw := hKw.trans (Kp.gr hG)
          clear hG
          go_wp2_with fail
          go_roundw
          case rel => exact ⟨n + 1, by go_num, by omega, by have := HN.out; omega, hno', hR, hKw, xs⟩
          case measure => have := HN.out; simp [intOf]; omega
        · have hEI : decide (E ≤ (st t).size) = false := decide_eq_false (by rw [st_size]; omega)
          clear hp hat hno hn hn1 hn8 hTT hKK hK2 hE hEl
          go_wp2_with fail
          have c_x0 := hR.cell 0 _ rfl
          have c_x1 := hR.cell 1 _ rfl
          have c_x2 := hR.cell 2 _ rfl
          have c_x3 := hR.cell 3 _ rfl
          have c_x4 := hR.cell 4 _ rfl
          have c_x5 := hR.cell 5 _ rfl
          have c_x6 := hR.cell 6 _ rfl
          have c_x7 := hR.cell 7 _ rfl
          have m_x0 := hR.mark 0 _ rfl
          have m_x1 := hR.mark 1 _ rfl
          have m_x2 := hR.mark 2 _ rfl
          have m_x3 := hR.mark 3 _ rfl
          have m_x4 := hR.mark 4 _ rfl
          have m_x5 := hR.mark 5 _ rfl
          have m_x6 := hR.mark 6 _ rfl
          have m_x7 := hR.mark 7 _ rfl
          have l_x := hR.lt (Nat.succ_pos _)
          refine wp_region_G (.take 0 (.take 1 (.take 2 (.take 3 (.take 4 (.take 5 (.take 6 (.take 7 (.take 8 (.take 9 (.take 10 (.take 11 (.take 12 (.take 13 (.take 14 (.take 15 (.take 16 (.take 17 (.take 18 (.take 19 (.take 20 (.take 21 (.take 22 (.take 23 (.take 24 (.run 25 false (.take 26 .nil))))))))))))))))))))))))))) (by kernel_rfl) (by kernel_rfl) ?_
          simp only [pickOps, nthOp]
          intro wq hG
          repeat (first | (refine wpG_skip_take ?_ ?_; (focus rfl); try simp only [Act.put, List.setIfInBounds_toArray, List.set_cons_zero, List.set_cons_succ]) | (refine wpG_skip_run ?_ ?_; (focus rfl); try simp only [Act.put, List.setIfInBounds_toArray, List.set_cons_zero, List.set_cons_succ]) | (refine wpG_take ?_ ?_; (focus rfl); apply Exists.intro; refine ⟨fun w' hw' => ?_, ?_⟩; (focus (have hc := Gr.cells hw'; go_simp; (try rfl); done)); try simp only [Act.put, List.setIfInBounds_toArray, List.set_cons_zero, List.set_cons_succ]))
          refine wpG_done ?_
          clear c_x0 c_x1 c_x2 c_x3 c_x4 c_x5 c_x6 c_x7 m_x0 m_x1 m_x2 m_x3 m_x4 m_x5 m_x6 m_x7 l_x
          replace xs := xs.later hG
          replace hR := boxAt.later hR hG
          replace hKw := hKw.trans (Kp.gr hG)
          clear hG
          go_wp2_with fail
          go_roundw
          case rel => exact ⟨n + 1, by go_num, by omega, by have := HN.out; omega, hno', hR, hKw, xs⟩
          case measure => have := HN.out; simp [intOf]; omega
      | true =>
        have hEl := pre_len hp
        rw [List.length_drop] at hEl
        simp only [List.length_cons, List.length_nil] at hEl
        have hEl2 : E + 2 ≤ t.length := by omega
        have hEI : decide (E ≤ (st t).size) = true := decide_eq_true (by rw [st_size]; omega)
        have HH2 := Lib.hid (fun w => has3_of t [58, 93] E true { data := #[58, 93] } w rfl hp (by omega) (by decide) (by decide) hTT)
        obtain ⟨b, hb0⟩ : ∃ b, ((t.drop k).drop 2).take n = b := ⟨_, rfl⟩
        have hsub := fun w' => run_sub3 (P := Tryz.prog) w' 9 t K2 E Tryz.underlying9 (by omega) (by omega)
        have hbe : (t.drop K2).take (E - K2) = b := by rw [← hb0, List.drop_drop, hK2]; congr 1; omega
        rw [hbe] at hsub
        have HNm := Lib.hid (fun w => named3_any b w)
        have HAt := Lib.hid hat
        have HE := Lib.hid (show k + 2 = K2 ∧ K2 + n = E ∧ E + 2 ≤ t.length from ⟨hK2, hE, hEl2⟩)
        have HP := Lib.hid hp
        have HB := Lib.hid hb0
        clear hp hat hn hn1 hn8 hTT hKK hK2 hE hEl hEl2 hb0 hbe
        go_wp2_with fail
        have c_x0 := hR.cell 0 _ rfl
        have c_x1 := hR.cell 1 _ rfl
        have c_x2 := hR.cell 2 _ rfl
        have c_x3 := hR.cell 3 _ rfl
        have c_x4 := hR.cell 4 _ rfl
        have c_x5 := hR.cell 5 _ rfl
        have c_x6 := hR.cell 6 _ rfl
        have c_x7 := hR.cell 7 _ rfl
        have m_x0 := hR.mark 0 _ rfl
        have m_x1 := hR.mark 1 _ rfl
        have m_x2 := hR.mark 2 _ rfl
        have m_x3 := hR.mark 3 _ rfl
        have m_x4 := hR.mark 4 _ rfl
        have m_x5 := hR.mark 5 _ rfl
        have m_x6 := hR.mark 6 _ rfl
        have m_x7 := hR.mark 7 _ rfl
        have l_x := hR.lt (Nat.succ_pos _)
        refine wp_region_G (.take 0 (.take 1 (.take 2 (.take 3 (.take 4 (.take 5 (.take 6 (.take 7 (.take 8 (.take 9 (.take 10 (.take 11 (.take 12 (.take 13 (.take 14 (.take 15 (.take 16 (.take 17 (.take 18 (.take 19 (.take 20 (.take 21 (.take 22 (.take 23 (.take 24 (.run 25 false (.take 26 .nil))))))))))))))))))))))))))) (by kernel_rfl) (by kernel_rfl) ?_
        simp only [pickOps, nthOp]
        intro wq hG
        repeat (first | (refine wpG_skip_take ?_ ?_; (focus rfl); try simp only [Act.put, List.setIfInBounds_toArray, List.set_cons_zero, List.set_cons_succ]) | (refine wpG_skip_run ?_ ?_; (focus rfl); try simp only [Act.put, List.setIfInBounds_toArray, List.set_cons_zero, List.set_cons_succ]) | (refine wpG_take ?_ ?_; (focus rfl); apply Exists.intro; refine ⟨fun w' hw' => ?_, ?_⟩; (focus (have hc := Gr.cells hw'; go_simp; (try rfl); done)); try simp only [Act.put, List.setIfInBounds_toArray, List.set_cons_zero, List.set_cons_succ]) | (refine wpG_run ?_ (fun K hK => ?_); (focus rfl); go_simp; (first | (go_at_call 25; (with_reducible refine (HH2.out _).mono ?_); rintro e wq ⟨rfl, hb⟩)); (try dsimp only); replace hG := hG.trans hb; refine hK.out _ _ hG ?_; clear hK K hb; try simp only [Act.put, List.setIfInBounds_toArray, List.set_cons_zero, List.set_cons_succ]))
        refine wpG_done ?_
        clear c_x0 c_x1 c_x2 c_x3 c_x4 c_x5 c_x6 c_x7 m_x0 m_x1 m_x2 m_x3 m_x4 m_x5 m_x6 m_x7 l_x
        replace xs := xs.later hG
        replace hR := boxAt.later hR hG
        replace hKw := hKw.trans (Kp.gr hG)
        clear hG
        go_wp2_with fail
        have HRq := Lib.hid hR
        have HXS := Lib.hid xs
        have hlq : w.heap.size < wq.heap.size := xs.lt (by simp)
        have hlp : p < wq.heap.size := boxAt.lt hR (Nat.succ_pos _)
        have HKW := Lib.hid hKw
        have c_x0 := hR.cell 0 _ rfl
        have c_x1 := hR.cell 1 _ rfl
        have c_x2 := hR.cell 2 _ rfl
        have c_x3 := hR.cell 3 _ rfl
        have c_x4 := hR.cell 4 _ rfl
        have c_x5 := hR.cell 5 _ rfl
        have c_x6 := hR.cell 6 _ rfl
        have c_x7 := hR.cell 7 _ rfl
        have m_x0 := hR.mark 0 _ rfl
        have m_x1 := hR.mark 1 _ rfl
        have m_x2 := hR.mark 2 _ rfl
        have m_x3 := hR.mark 3 _ rfl
        have m_x4 := hR.mark 4 _ rfl
        have m_x5 := hR.mark 5 _ rfl
        have m_x6 := hR.mark 6 _ rfl
        have m_x7 := hR.mark 7 _ rfl
        have l_x := hR.lt (Nat.succ_pos _)
        cases hs : namedS b with
        | none =>
          have HN2 : Hid (∀ w, Calls Tryz.prog 47 #[.string (st b)] w fun e w' => Gr w w' ∧ e = .returned (.tuple #[.agg #[.int .u64 0, .int .u64 0, .int .u64 0, .int .u64 0], .bool false])) := by
            intro w
            have := HNm.out w
            unfold Named3 at this
            rw [hs] at this
            simpa only [wd_zero] using this
          have hno' : Hid (∀ m, 1 ≤ m → m < n + 1 → nameAt ((t.drop k).drop 2) m = none) := Lib.hid (fun m h1 h2 => by
            rcases Nat.lt_or_ge m n with h' | h'
            · exact hno.out m h1 h'
            · obtain rfl : m = n := by have := HN.out; omega
              unfold nameAt
              rw [HAt.out, HP.out, if_pos rfl, HB.out]; exact hs)
          clear hs hR xs hKw
          refine wp_region_G (.take 0 (.take 1 (.take 2 (.take 3 (.take 4 (.take 5 (.take 6 (.take 7 (.take 8 (.take 9 (.take 10 (.take 11 (.take 12 (.take 13 (.take 14 (.take 15 (.take 16 (.fork 17 (.take 18 (.take 19 (.take 20 (.run 21 false (.run 22 false (.run 23 true .nil)))))) 21 (.run 17 false (.take 18 (.take 19 (.take 20 (.run 22 false (.run 23 true .nil)))))))))))))))))))))))) (by kernel_rfl) (by kernel_rfl) ?_
          simp only [pickOps, nthOp]
          intro wz hG
          repeat' (first
            | (refine wpG_take ?_ ?_; (focus rfl); apply Exists.intro; refine ⟨fun w' hw' => ?_, ?_⟩; (focus (have hc := Gr.cells hw'; go_simp; (try rfl); done)); (try simp only [Act.put, List.setIfInBounds_toArray, List.set_cons_zero, List.set_cons_succ]))
            | (refine wpG_fork ?_ ?_ (fun K hK => ?_) (fun K hK => ?_) <;> first | rfl | (first | (go_simp; go_at_call 47; (with_reducible refine (HN2.out _).mono ?_); rintro e' wn ⟨hb, rfl⟩; (try replace xz := xz.later hb); (try dsimp only); replace hG := hG.trans hb; refine hK.out _ _ hG ?_; clear hb hK K; (try simp only [Act.put, List.setIfInBounds_toArray, List.set_cons_zero, List.set_cons_succ])) | (go_simp; refine name_K3 (fun wn hW' => ?_); have hb : Gr _ wn := (by rw [hW']; exact Gr.alloc _ _); have xz : NB3 wq wn _ [.int .u64 0, .int .u64 0, .int .u64 0, .int .u64 0] := (by rw [hW']; exact ⟨boxAt.new _ _ rfl, hG.size⟩); clear hW'; replace hG := hG.trans hb; refine hK.out _ _ hG ?_; clear hb hK K; (try simp only [Act.put, List.setIfInBounds_toArray, List.set_cons_zero, List.set_cons_succ])) | (go_simp; refine hK.out _ _ hG ?_; clear hK K; (try simp only [Act.put, List.setIfInBounds_toArray, List.set_cons_zero, List.set_cons_succ])) | (have z0 := xz.1.cell 0 _ rfl; have v0 := xz.1.mark 0 _ rfl; have z1 := xz.1.cell 1 _ rfl; have v1 := xz.1.mark 1 _ rfl; have z2 := xz.1.cell 2 _ rfl; have v2 := xz.1.mark 2 _ rfl; have z3 := xz.1.cell 3 _ rfl; have v3 := xz.1.mark 3 _ rfl; have lz := xz.1.lt (Nat.succ_pos _); go_simp; refine name_K3 (fun wn hW' => ?_); replace xz : NB3 wq wn _ [.int .u64 0, .int .u64 0, .int .u64 0, .int .u64 0] := (by rw [hW']; exact ⟨boxAt.put4 xz.1 _ _ _ _, xz.2⟩); replace hG : Gr wq wn := (by rw [hW']; exact Below.put4 hG xz.2 _ _ _ _); refine hK.out _ _ hG ?_; clear hW' hK K z0 z1 z2 z3 v0 v1 v2 v3 lz; (try simp only [Act.put, List.setIfInBounds_toArray, List.set_cons_zero, List.set_cons_succ]))))
            | (refine wpG_run ?_ (fun K hK => ?_); (focus rfl); (first | (go_simp; go_at_call 47; (with_reducible refine (HN2.out _).mono ?_); rintro e' wn ⟨hb, rfl⟩; (try replace xz := xz.later hb); (try dsimp only); replace hG := hG.trans hb; refine hK.out _ _ hG ?_; clear hb hK K; (try simp only [Act.put, List.setIfInBounds_toArray, List.set_cons_zero, List.set_cons_succ])) | (go_simp; refine name_K3 (fun wn hW' => ?_); have hb : Gr _ wn := (by rw [hW']; exact Gr.alloc _ _); have xz : NB3 wq wn _ [.int .u64 0, .int .u64 0, .int .u64 0, .int .u64 0] := (by rw [hW']; exact ⟨boxAt.new _ _ rfl, hG.size⟩); clear hW'; replace hG := hG.trans hb; refine hK.out _ _ hG ?_; clear hb hK K; (try simp only [Act.put, List.setIfInBounds_toArray, List.set_cons_zero, List.set_cons_succ])) | (go_simp; refine hK.out _ _ hG ?_; clear hK K; (try simp only [Act.put, List.setIfInBounds_toArray, List.set_cons_zero, List.set_cons_succ])) | (have z0 := xz.1.cell 0 _ rfl; have v0 := xz.1.mark 0 _ rfl; have z1 := xz.1.cell 1 _ rfl; have v1 := xz.1.mark 1 _ rfl; have z2 := xz.1.cell 2 _ rfl; have v2 := xz.1.mark 2 _ rfl; have z3 := xz.1.cell 3 _ rfl; have v3 := xz.1.mark 3 _ rfl; have lz := xz.1.lt (Nat.succ_pos _); go_simp; refine name_K3 (fun wn hW' => ?_); replace xz : NB3 wq wn _ [.int .u64 0, .int .u64 0, .int .u64 0, .int .u64 0] := (by rw [hW']; exact ⟨boxAt.put4 xz.1 _ _ _ _, xz.2⟩); replace hG : Gr wq wn := (by rw [hW']; exact Below.put4 hG xz.2 _ _ _ _); refine hK.out _ _ hG ?_; clear hW' hK K z0 z1 z2 z3 v0 v1 v2 v3 lz; (try simp only [Act.put, List.setIfInBounds_toArray, List.set_cons_zero, List.set_cons_succ]))))
            | (refine wpG_last ?_ (fun K hK => ?_); (focus rfl); (first | (go_simp; refine hK.out _ _ ?_; clear hK K; (try simp only [Act.put, List.setIfInBounds_toArray, List.set_cons_zero, List.set_cons_succ])) | (have z0 := xz.1.cell 0 _ rfl; have v0 := xz.1.mark 0 _ rfl; have z1 := xz.1.cell 1 _ rfl; have v1 := xz.1.mark 1 _ rfl; have z2 := xz.1.cell 2 _ rfl; have v2 := xz.1.mark 2 _ rfl; have z3 := xz.1.cell 3 _ rfl; have v3 := xz.1.mark 3 _ rfl; have lz := xz.1.lt (Nat.succ_pos _); go_simp; refine name_K3 (fun wn hW' => ?_); replace xz : NB3 wq wn _ [.int .u64 0, .int .u64 0, .int .u64 0, .int .u64 0] := (by rw [hW']; exact ⟨boxAt.put4 xz.1 _ _ _ _, xz.2⟩); replace hG : Gr wq wn := (by rw [hW']; exact Below.put4 hG xz.2 _ _ _ _); refine hK.out _ _ ?_; clear hW' hK K z0 z1 z2 z3 v0 v1 v2 v3 lz; (try simp only [Act.put, List.setIfInBounds_toArray, List.set_cons_zero, List.set_cons_succ])))))
          all_goals
            refine wpG_done ?_
            clear c_x0 c_x1 c_x2 c_x3 c_x4 c_x5 c_x6 c_x7 m_x0 m_x1 m_x2 m_x3 m_x4 m_x5 m_x6 m_x7 l_x
            go_wp2_with fail
            go_roundw
            case rel => exact ⟨n + 1, by go_num, by omega, by have := HN.out; omega, hno', boxAt.later HRq.out hG, HKW.out.trans (Kp.gr hG), HXS.out.later hG⟩
            case measure => have := HN.out; simp [intOf]; omega
        | some s =>
          have HN2 : Hid (∀ w, Calls Tryz.prog 47 #[.string (st b)] w fun e w' => Gr w w' ∧ e = .returned (.tuple #[.agg #[.int .u64 (wd s 0), .int .u64 (wd s 1), .int .u64 (wd s 2), .int .u64 (wd s 3)], .bool true])) := by
            intro w
            have := HNm.out w
            unfold Named3 at this
            rw [hs] at this
            exact this
          have hna : nameAt ((t.drop k).drop 2) n = some s := by unfold nameAt; rw [HAt.out, HP.out, if_pos rfl, HB.out]; exact hs
          obtain ⟨a1, a2, a3⟩ := nameAt_some hna
          obtain ⟨k4, hk4⟩ : ∃ x, k + (n + 4) = x := ⟨_, rfl⟩
          have hYv : Hid (Y = .ok s (t.drop k4)) := by
            unfold Hid
            rw [← HY.out]
            unfold nameP
            rw [a1]
            simp only [a2, a3]
            rw [List.drop_drop, hk4]
          obtain ⟨kn, hkn⟩ : ∃ x, k + n = x := ⟨_, rfl⟩
          have hwa : IntKind.i64.wrap ((k : Int) + (n : Int)) = (kn : Int) := by rw [IntWalk.i64_in _ (by have := HT.out; have := HE.out; omega)]; omega
          have hwb : IntKind.i64.wrap ((kn : Int) + 4) = (k4 : Int) := by rw [IntWalk.i64_in _ (by have := HT.out; have := HE.out; omega)]; omega
          have HK4 := Lib.hid (show k4 ≤ t.length from by have := HE.out; omega)
          clear hs hR xs hKw hna a1 a2 a3 hk4 hkn
          refine wp_region_G (.take 0 (.take 1 (.take 2 (.take 3 (.take 4 (.take 5 (.take 6 (.take 7 (.take 8 (.take 9 (.take 10 (.take 11 (.take 12 (.take 13 (.take 14 (.take 15 (.take 16 (.fork 17 (.take 18 (.take 19 (.take 20 (.run 21 false (.run 22 false (.run 23 true .nil)))))) 21 (.run 17 false (.take 18 (.take 19 (.take 20 (.run 22 false (.run 23 true .nil)))))))))))))))))))))))) (by kernel_rfl) (by kernel_rfl) ?_
          simp only [pickOps, nthOp]
          intro wz hG
          repeat' (first
            | (refine wpG_take ?_ ?_; (focus rfl); apply Exists.intro; refine ⟨fun w' hw' => ?_, ?_⟩; (focus (have hc := Gr.cells hw'; go_simp; (try rfl); done)); (try simp only [Act.put, List.setIfInBounds_toArray, List.set_cons_zero, List.set_cons_succ]))
            | (refine wpG_fork ?_ ?_ (fun K hK => ?_) (fun K hK => ?_) <;> first | rfl | (first | (go_simp; go_at_call 47; (with_reducible refine (HN2.out _).mono ?_); rintro e' wn ⟨hb, rfl⟩; (try replace xz := xz.later hb); (try dsimp only); replace hG := hG.trans hb; refine hK.out _ _ hG ?_; clear hb hK K; (try simp only [Act.put, List.setIfInBounds_toArray, List.set_cons_zero, List.set_cons_succ])) | (go_simp; refine name_K3 (fun wn hW' => ?_); have hb : Gr _ wn := (by rw [hW']; exact Gr.alloc _ _); have xz : NB3 wq wn _ [.int .u64 0, .int .u64 0, .int .u64 0, .int .u64 0] := (by rw [hW']; exact ⟨boxAt.new _ _ rfl, hG.size⟩); clear hW'; replace hG := hG.trans hb; refine hK.out _ _ hG ?_; clear hb hK K; (try simp only [Act.put, List.setIfInBounds_toArray, List.set_cons_zero, List.set_cons_succ])) | (go_simp; refine hK.out _ _ hG ?_; clear hK K; (try simp only [Act.put, List.setIfInBounds_toArray, List.set_cons_zero, List.set_cons_succ])) | (have z0 := xz.1.cell 0 _ rfl; have v0 := xz.1.mark 0 _ rfl; have z1 := xz.1.cell 1 _ rfl; have v1 := xz.1.mark 1 _ rfl; have z2 := xz.1.cell 2 _ rfl; have v2 := xz.1.mark 2 _ rfl; have z3 := xz.1.cell 3 _ rfl; have v3 := xz.1.mark 3 _ rfl; have lz := xz.1.lt (Nat.succ_pos _); go_simp; refine name_K3 (fun wn hW' => ?_); replace xz : NB3 wq wn _ [.int .u64 (wd s 0), .int .u64 (wd s 1), .int .u64 (wd s 2), .int .u64 (wd s 3)] := (by rw [hW']; exact ⟨boxAt.put4 xz.1 _ _ _ _, xz.2⟩); replace hG : Gr wq wn := (by rw [hW']; exact Below.put4 hG xz.2 _ _ _ _); refine hK.out _ _ hG ?_; clear hW' hK K z0 z1 z2 z3 v0 v1 v2 v3 lz; (try simp only [Act.put, List.setIfInBounds_toArray, List.set_cons_zero, List.set_cons_succ]))))
            | (refine wpG_run ?_ (fun K hK => ?_); (focus rfl); (first | (go_simp; go_at_call 47; (with_reducible refine (HN2.out _).mono ?_); rintro e' wn ⟨hb, rfl⟩; (try replace xz := xz.later hb); (try dsimp only); replace hG := hG.trans hb; refine hK.out _ _ hG ?_; clear hb hK K; (try simp only [Act.put, List.setIfInBounds_toArray, List.set_cons_zero, List.set_cons_succ])) | (go_simp; refine name_K3 (fun wn hW' => ?_); have hb : Gr _ wn := (by rw [hW']; exact Gr.alloc _ _); have xz : NB3 wq wn _ [.int .u64 0, .int .u64 0, .int .u64 0, .int .u64 0] := (by rw [hW']; exact ⟨boxAt.new _ _ rfl, hG.size⟩); clear hW'; replace hG := hG.trans hb; refine hK.out _ _ hG ?_; clear hb hK K; (try simp only [Act.put, List.setIfInBounds_toArray, List.set_cons_zero, List.set_cons_succ])) | (go_simp; refine hK.out _ _ hG ?_; clear hK K; (try simp only [Act.put, List.setIfInBounds_toArray, List.set_cons_zero, List.set_cons_succ])) | (have z0 := xz.1.cell 0 _ rfl; have v0 := xz.1.mark 0 _ rfl; have z1 := xz.1.cell 1 _ rfl; have v1 := xz.1.mark 1 _ rfl; have z2 := xz.1.cell 2 _ rfl; have v2 := xz.1.mark 2 _ rfl; have z3 := xz.1.cell 3 _ rfl; have v3 := xz.1.mark 3 _ rfl; have lz := xz.1.lt (Nat.succ_pos _); go_simp; refine name_K3 (fun wn hW' => ?_); replace xz : NB3 wq wn _ [.int .u64 (wd s 0), .int .u64 (wd s 1), .int .u64 (wd s 2), .int .u64 (wd s 3)] := (by rw [hW']; exact ⟨boxAt.put4 xz.1 _ _ _ _, xz.2⟩); replace hG : Gr wq wn := (by rw [hW']; exact Below.put4 hG xz.2 _ _ _ _); refine hK.out _ _ hG ?_; clear hW' hK K z0 z1 z2 z3 v0 v1 v2 v3 lz; (try simp only [Act.put, List.setIfInBounds_toArray, List.set_cons_zero, List.set_cons_succ]))))
            | (refine wpG_last ?_ (fun K hK => ?_); (focus rfl); (first | (go_simp; refine hK.out _ _ ?_; clear hK K; (try simp only [Act.put, List.setIfInBounds_toArray, List.set_cons_zero, List.set_cons_succ])) | (have z0 := xz.1.cell 0 _ rfl; have v0 := xz.1.mark 0 _ rfl; have z1 := xz.1.cell 1 _ rfl; have v1 := xz.1.mark 1 _ rfl; have z2 := xz.1.cell 2 _ rfl; have v2 := xz.1.mark 2 _ rfl; have z3 := xz.1.cell 3 _ rfl; have v3 := xz.1.mark 3 _ rfl; have lz := xz.1.lt (Nat.succ_pos _); go_simp; refine name_K3 (fun wn hW' => ?_); replace xz : NB3 wq wn _ [.int .u64 (wd s 0), .int .u64 (wd s 1), .int .u64 (wd s 2), .int .u64 (wd s 3)] := (by rw [hW']; exact ⟨boxAt.put4 xz.1 _ _ _ _, xz.2⟩); replace hG : Gr wq wn := (by rw [hW']; exact Below.put4 hG xz.2 _ _ _ _); refine hK.out _ _ ?_; clear hW' hK K z0 z1 z2 z3 v0 v1 v2 v3 lz; (try simp only [Act.put, List.setIfInBounds_toArray, List.set_cons_zero, List.set_cons_succ])))))
          all_goals
            refine wpG_done ?_
            clear c_x0 c_x1 c_x2 c_x3 c_x4 c_x5 c_x6 c_x7 m_x0 m_x1 m_x2 m_x3 m_x4 m_x5 m_x6 m_x7 l_x
            have hR7 := boxAt.later HRq.out hG
            have xs7 := HXS.out.later hG
            have hK7 := HKW.out.trans (Kp.gr hG)
            have hbp := Nat.ne_of_gt (Nat.lt_of_lt_of_le hlp xz.2)
            have hbq := Ne.symm hbp
            have z0 := xz.1.cell 0 _ rfl
            have z1 := xz.1.cell 1 _ rfl
            have z2 := xz.1.cell 2 _ rfl
            have z3 := xz.1.cell 3 _ rfl
            have lz := xz.1.lt (Nat.succ_pos _)
            have c_x0 := hR7.cell 0 _ rfl
            have c_x1 := hR7.cell 1 _ rfl
            have c_x2 := hR7.cell 2 _ rfl
            have c_x3 := hR7.cell 3 _ rfl
            have c_x4 := hR7.cell 4 _ rfl
            have c_x5 := hR7.cell 5 _ rfl
            have c_x6 := hR7.cell 6 _ rfl
            have c_x7 := hR7.cell 7 _ rfl
            have m_x0 := hR7.mark 0 _ rfl
            have m_x1 := hR7.mark 1 _ rfl
            have m_x2 := hR7.mark 2 _ rfl
            have m_x3 := hR7.mark 3 _ rfl
            have m_x4 := hR7.mark 4 _ rfl
            have m_x5 := hR7.mark 5 _ rfl
            have m_x6 := hR7.mark 6 _ rfl
            have m_x7 := hR7.mark 7 _ rfl
            have l_x := hR7.lt (Nat.succ_pos _)
            have c_r0 := xs7.cell 0 _ rfl
            have c_r1 := xs7.cell 1 _ rfl
            have c_r2 := xs7.cell 2 _ rfl
            have c_r3 := xs7.cell 3 _ rfl
            have m_r0 := xs7.mark 0 _ rfl
            have m_r1 := xs7.mark 1 _ rfl
            have m_r2 := xs7.mark 2 _ rfl
            have m_r3 := xs7.mark 3 _ rfl
            have l_r := xs7.lt (Nat.succ_pos _)
            go_wp2_with fail
            refine name_end (fun W9 hW => ?_)
            have hK9 : Kp p w W9 := by rw [hW]; exact (hK7.at_p 1 _).put4 (Nat.le_refl _) _ _ _ _
            have hR9 : Rd3 W9 p t k4 o none := by rw [hW]; exact boxAt.far4 (boxAt.put hR7 1 _ (by simp)) hne _ _ _ _
            have yb : boxAt W9 w.heap.size [.int .u64 (wd s 0), .int .u64 (wd s 1), .int .u64 (wd s 2), .int .u64 (wd s 3)] := by rw [hW]; exact (xs7.far ⟨p, 1, none⟩ _ (Ne.symm hne)).put4 _ _ _ _
            clear hW
            clear c_r0 c_r1 c_r2 c_r3 m_r0 m_r1 m_r2 m_r3 l_r
            have c_q0 := yb.cell 0 _ rfl
            have c_q1 := yb.cell 1 _ rfl
            have c_q2 := yb.cell 2 _ rfl
            have c_q3 := yb.cell 3 _ rfl
            have m_q0 := yb.mark 0 _ rfl
            have m_q1 := yb.mark 1 _ rfl
            have m_q2 := yb.mark 2 _ rfl
            have m_q3 := yb.mark 3 _ rfl
            have l_q := yb.lt (Nat.succ_pos _)
            refine bodyPost_ret (v := .agg #[.int .u64 (wd s 0), .int .u64 (wd s 1), .int .u64 (wd s 2), .int .u64 (wd s 3)]) (by simp [results, Tryz.results28, go_sem, c_q0, c_q1, c_q2, c_q3]) rfl ?_
            rw [hYv.out]
            exact ⟨hK9, rfl, by rw [List.length_drop, show t.length - (t.length - k4) = k4 by have := HK4.out; omega]; exact hR9⟩
    · obtain rfl : n = 8 := by omega
      clear hn hn1 hn8
      have c_x0 := hR.cell 0 _ rfl
      have c_x1 := hR.cell 1 _ rfl
      have c_x2 := hR.cell 2 _ rfl
      have c_x3 := hR.cell 3 _ rfl
      have c_x4 := hR.cell 4 _ rfl
      have c_x5 := hR.cell 5 _ rfl
      have c_x6 := hR.cell 6 _ rfl
      have c_x7 := hR.cell 7 _ rfl
      have m_x0 := hR.mark 0 _ rfl
      have m_x1 := hR.mark 1 _ rfl
      have m_x2 := hR.mark 2 _ rfl
      have m_x3 := hR.mark 3 _ rfl
      have m_x4 := hR.mark 4 _ rfl
      have m_x5 := hR.mark 5 _ rfl
      have m_x6 := hR.mark 6 _ rfl
      have m_x7 := hR.mark 7 _ rfl
      have l_x := hR.lt (Nat.succ_pos _)
      go_wp2_with fail
      go_at_call 26
      refine (refuse3_any p k o k false t none wr hR).mono ?_; rintro e w7 ⟨rfl, hKb, hRb⟩
      have hKc := hKw.trans hKb
      replace xs := xs.kept hKb hne (Nat.succ_pos _)
      clear hKb hR hKw
      clear c_x0 c_x1 c_x2 c_x3 c_x4 c_x5 c_x6 c_x7 m_x0 m_x1 m_x2 m_x3 m_x4 m_x5 m_x6 m_x7 l_x
      have c_r0 := xs.cell 0 _ rfl
      have c_r1 := xs.cell 1 _ rfl
      have c_r2 := xs.cell 2 _ rfl
      have c_r3 := xs.cell 3 _ rfl
      have m_r0 := xs.mark 0 _ rfl
      have m_r1 := xs.mark 1 _ rfl
      have m_r2 := xs.mark 2 _ rfl
      have m_r3 := xs.mark 3 _ rfl
      have l_r := xs.lt (Nat.succ_pos _)
      go_wp2_with fail
      refine name_end (fun W9 hW => ?_)
      have hK9 : Kp p w W9 := by subst hW; exact hKc.put4 (Nat.le_refl _) ..
      have yb : boxAt W9 w.heap.size [.int .u64 0, .int .u64 0, .int .u64 0, .int .u64 0] := by rw [hW]; exact xs.put4 _ _ _ _
      have hR9 : Rd3 W9 p t k o (some (false, k)) := by
        rw [hW]
        exact (((boxAt.far hRb ⟨w.heap.size, 0, none⟩ _ hne).far ⟨w.heap.size, 1, none⟩ _ hne).far ⟨w.heap.size, 2, none⟩ _ hne).far ⟨w.heap.size, 3, none⟩ _ hne
      clear hW
      clear c_r0 c_r1 c_r2 c_r3 m_r0 m_r1 m_r2 m_r3 l_r
      have c_q0 := yb.cell 0 _ rfl
      have c_q1 := yb.cell 1 _ rfl
      have c_q2 := yb.cell 2 _ rfl
      have c_q3 := yb.cell 3 _ rfl
      have m_q0 := yb.mark 0 _ rfl
      have m_q1 := yb.mark 1 _ rfl
      have m_q2 := yb.mark 2 _ rfl
      have m_q3 := yb.mark 3 _ rfl
      have l_q := yb.lt (Nat.succ_pos _)
      have hYv : Rd.bad false (t.drop k) = Y := by
        rw [← HY.out]
        unfold nameP
        split
        · rfl
        · rename_i b hb
          rw [nameAt_none (fun m h1 h2 => hno.out m h1 h2) b hb]
      refine bodyPost_ret (v := .agg #[.int .u64 (wd emptyS 0), .int .u64 (wd emptyS 1), .int .u64 (wd emptyS 2), .int .u64 (wd emptyS 3)]) (by simp [results, Tryz.results28, go_sem, c_q0, c_q1, c_q2, c_q3, wd_zero]) rfl ?_
      rw [← hYv]
      refine ⟨hK9, _, k, rfl, by have := HK.out; omega, ?_⟩
      rw [show t.length - (t.drop k).length = k by rw [List.length_drop]; have := HK.out; omega]
      exact hR9

end Go.Proofs.YtihjmeoklbmnmaaGreatDoor
