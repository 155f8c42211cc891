/- Texts of mine, put together: NmB. No condition but what each says. -/
import Derived.Test.YtkkopdmemjncdaaGreatDoorPNmO
namespace Go.Proofs.YtkkopdmemjncdaaGreatDoor
open Go Go.RowKit
theorem near_snoc (far : List Int) (row : List Nat) (k x : Nat) (h : row[k]? = some x) : nearP far (row.take (k + 1)) = near1 far (nearP far (row.take k)) x := by
 unfold nearP
 rw [List.take_add_one, h, List.foldl_append]; rfl
def bestV : Option Nat → Int
 | none => -1
 | some k => k
def farV (far : List Int) : List Value := far.map (Value.int .i64)
theorem farV_get {far : List Int} {k : Nat} (h : k < far.length) : (farV far)[k]? = some (.int .i64 (farAt far k)) := by
 unfold farV farAt
 rw [List.getElem?_map, List.getElem?_eq_getElem h]; rfl
theorem near_lt {far : List Int} {row : List Nat} {x n : Nat} (h : nearP far row = some x) (hr : ∀ y ∈ row, y < n) : x < n := hr x (near_some h).1
set_option maxRecDepth 100000 in
set_option maxHeartbeats 8000000 in
theorem
    nearest_any (w : World) (fb qf qd : Nat) (c0 c1 c2 c3 c4 v bv : Value) (kk : Int) (U : List (List Nat)) (far : List Int) (td : Option Addr) (cd : Nat) (hf : boxAt w qf [.pointer (some ⟨fb, 0, none⟩)]) (hb : boxAt w fb [c0, c1, c2, c3, c4, v, bv, .int .i64 kk]) (hU : RowsN w v U) (hn : U.length ≤ 1048576)
  (hd : boxAt w qd [.slice td far.length cd]) (hfar : Sl w (.slice td far.length cd) 1 far.length (farV far)) (hl : far.length = U.length) (i : Nat) (r : List Nat) (hr : U[i]? = some r) (hin : ∀ x ∈ r, x < U.length) :
  Calls Tryz.prog 111 #[.int .i64 (i : Int), .pointer (some ⟨qf, 0, none⟩), .pointer (some ⟨qd, 0, none⟩)] w fun e w' => e = .returned (.int .i64 (bestV (nearP far r))) ∧ Gr w w' := by
 have hil := (List.getElem?_eq_some_iff.1 hr).1
 have hmx : r.length ≤ maxLen := by
  obtain ⟨vs, _, _, h3⟩ := hU.sl
  obtain ⟨u, _, h5⟩ := h3 i r hr
  exact h5.2.1
 unfold maxLen at hmx
 obtain ⟨n, hln⟩ : ∃ n, U.length = n := ⟨_, rfl⟩
 obtain ⟨pv, cv, rfl⟩ : ∃ p c, v = .slice p n c := by
  obtain ⟨vs, h1, h2, _⟩ := hU.sl
  rw [hln] at h2
  exact h2.len
 obtain ⟨b, off, u, hpv, hbl, hcu, hsu⟩ := hU.row hr
 subst hpv
 obtain ⟨pu, cu, rfl⟩ := hsu.len
 rw [hln] at hl hil hin hn
 obtain ⟨m, hm⟩ : ∃ m, r.length = m := ⟨_, rfl⟩
 have HM := Lib.hid hm
 rw [hl] at hd
 have HFAR := Lib.hid hfar
 have HL := Lib.hid hl
 have HIN := Lib.hid hin
 have HSU := Lib.hid hsu
 have HQD := Lib.hid hd
 have hiI : (i : Int) < (n : Int) := by omega
 have hnI : (n : Int) ≤ 1048576 := by omega
 rw [hm] at hcu hmx
 clear hr hU hil hln hfar hl hin hsu hm hn
 go_enter Tryz.func111, Tryz.ntmps111
 have c_q0 := hf.cell 0 _ rfl
 have m_q0 := hf.mark 0 _ rfl
 have l_q := hf.lt (Nat.succ_pos _)
 obtain ⟨c_f0, c_f1, c_f2, c_f3, c_f4, c_f5, c_f6, c_f7, m_f0, m_f1, m_f2, m_f3, m_f4, m_f5, m_f6, m_f7, l_f⟩ := unb8 hb
 go_wp2_with fail
 go_loopw [5, 16] (fun bx ix wr => ∃ k : Nat, k ≤ m ∧ ix = .int .i64 (k : Int) ∧ bx = .int .i64 (bestV (nearP far (r.take k))) ∧ Gr w wr) (fun _ ix _ => m - (intOf ix).toNat)
 case atStart => exact ⟨0, Nat.zero_le _, rfl, rfl, Gr.refl _⟩
 case round =>
  obtain ⟨k, hk, rfl, rfl, hg⟩ := hrel
  rcases Nat.lt_or_ge k m with hkm | hkm
  ·
   have hkI : (k : Int) < (m : Int) := by omega
   have HKM := Lib.hid hkm
   obtain ⟨x, hx⟩ : ∃ x, r[k]? = some x := ⟨_, List.getElem?_eq_getElem (by rw [HM.out]; exact hkm)⟩
   obtain ⟨bu, ou, hpu, hbu, hcx⟩ := num_at HSU.out hx
   subst hpu
   have kx := hg.cell hcx
   have hbr := Nat.lt_of_lt_of_le hbu hg.size
   have hxn := HIN.out x (List.mem_of_getElem? hx)
   have hxI : (x : Int) < (n : Int) := by omega
   obtain ⟨bd, od, htd, hbd, hfx⟩ : ∃ bd od, td = some ⟨bd, od, none⟩ ∧ bd < w.heap.size ∧ ∀ y, y < n → w.cell? ⟨bd, od + y, none⟩ = some (.int .i64 (farAt far y)) := by
    obtain ⟨_, _, ⟨_, h0⟩ | ⟨bd, od, cap, hv, hb, hc⟩⟩ := HFAR.out
    · have := HL.out; omega
    ·
     injection hv with hp _ _
     exact ⟨bd, od, hp, hb (by have := HL.out; omega), fun y hy => hc y _ (farV_get (by rw [HL.out]; exact hy))⟩
   subst htd
   have kf := hg.cell (hfx x hxn)
   have hbr2 := Nat.lt_of_lt_of_le hbd hg.size
   have xd := HQD.out.later hg
   have c_d0 := xd.cell 0 _ rfl
   have m_d0 := xd.mark 0 _ rfl
   have l_d := xd.lt (Nat.succ_pos _)
   have HSN := Lib.hid (near_snoc far r k x hx)
   have HNB := Lib.hid (show ∀ j, nearP far (r.take k) = some j → j < n from fun j hj => near_lt hj (fun y hy => HIN.out y (List.mem_of_mem_take hy)))
   have HFX := Lib.hid hfx
   obtain ⟨fx, hfx2⟩ : ∃ f, farAt far x = f := ⟨_, rfl⟩
   rw [hfx2] at kf
   have HF2 := Lib.hid hfx2
   clear hx hcx hxn hk hkm hfx2 hfx hbu hbd
   obtain ⟨ob, hob⟩ : ∃ o, nearP far (r.take k) = o := ⟨_, rfl⟩
   rw [hob] at HSN HNB ⊢
   clear hob
   have hobv : bestV ob = bestV ob := rfl
   by_cases h0 : fx < 0
   ·
    have h0b : ¬ 0 ≤ fx := by omega
    have HN := Lib.hid (show nearP far (r.take (k + 1)) = ob by rw [HSN.out]; unfold near1; rw [HF2.out, if_pos h0])
    clear hobv
    go_upto_region 5 with fail
    refine wp_region_G (.take 0 (.take 1 (.take 2 (.take 3 (.take 4 (.take 5 (.take 6 (.take 7 (.take 8 (.take 9 (.take 10 (.take 11 (.take 12 (.take 13 (.take 14 (.take 15 (.take 16 (.take 17 (.take 18 (.take 19 .nil)))))))))))))))))))) (by kernel_rfl) (by kernel_rfl) ?_
    simp only [pickOps, nthOp]
    intro wq hG
    repeat (first | (refine wpG_skip_take ?_ ?_; (focus rfl); try simp only [Act.put, List.setIfInBounds_toArray, List.set_cons_zero, List.set_cons_succ]) | (refine wpG_skip_run ?_ ?_; (focus rfl); try simp only [Act.put, List.setIfInBounds_toArray, List.set_cons_zero, List.set_cons_succ]) | (refine wpG_take ?_ ?_; (focus rfl); apply Exists.intro; refine ⟨fun w' hw' => ?_, ?_⟩; (focus (have hc := Gr.cells hw'; go_simp; (try rfl); done)); try simp only [Act.put, List.setIfInBounds_toArray, List.set_cons_zero, List.set_cons_succ]))
    refine wpG_done ?_
    have hg2 := hg.trans hG
    clear c_d0 m_d0 l_d
    clear hG kx kf
    go_step
    go_wp2_with fail
    go_roundw
    case rel => exact ⟨k + 1, HKM.out, by go_num, by first | (rw [HN.out]; done) | (rw [HN.out]; rfl), hg2⟩
    case measure => have := HKM.out; simp [intOf]; omega
   ·
    have h0b : 0 ≤ fx := by omega
    clear hobv
    cases ob with
    |
     none =>
     have HN := Lib.hid (show nearP far (r.take (k + 1)) = some x by rw [HSN.out]; unfold near1; rw [HF2.out, if_neg h0])
     rw [show bestV none = -1 from rfl]
     clear h0
     go_upto_region 5 with fail
     refine wp_region_G (.take 0 (.take 1 (.take 2 (.take 3 (.take 4 (.take 5 (.take 6 (.take 7 (.take 8 (.take 9 (.take 10 (.take 11 (.take 12 (.take 13 (.take 14 (.take 15 (.take 16 (.take 17 (.take 18 (.take 19 .nil)))))))))))))))))))) (by kernel_rfl) (by kernel_rfl) ?_
     simp only [pickOps, nthOp]
     intro wq hG
     repeat (first | (refine wpG_skip_take ?_ ?_; (focus rfl); try simp only [Act.put, List.setIfInBounds_toArray, List.set_cons_zero, List.set_cons_succ]) | (refine wpG_skip_run ?_ ?_; (focus rfl); try simp only [Act.put, List.setIfInBounds_toArray, List.set_cons_zero, List.set_cons_succ]) | (refine wpG_take ?_ ?_; (focus rfl); apply Exists.intro; refine ⟨fun w' hw' => ?_, ?_⟩; (focus (have hc := Gr.cells hw'; go_simp; (try rfl); done)); try simp only [Act.put, List.setIfInBounds_toArray, List.set_cons_zero, List.set_cons_succ]))
     refine wpG_done ?_
     have hg2 := hg.trans hG
     clear c_d0 m_d0 l_d
     clear hG kx kf
     go_step
     go_wp2_with fail
     go_roundw
     case rel => exact ⟨k + 1, HKM.out, by go_num, by first | (rw [HN.out]; done) | (rw [HN.out]; rfl), hg2⟩
     case measure => have := HKM.out; simp [intOf]; omega
    |
     some j =>
     have hjn := HNB.out j rfl
     have hjI : (j : Int) < (n : Int) := by omega
     have hj0 : ¬ (j : Int) < 0 := by omega
     rw [show bestV (some j) = (j : Int) from rfl]
     obtain ⟨fj, hfj⟩ : ∃ f, farAt far j = f := ⟨_, rfl⟩
     have kj := hg.cell (HFX.out j hjn)
     rw [hfj] at kj
     by_cases hlt : fx < fj
     ·
      have HN := Lib.hid (show nearP far (r.take (k + 1)) = some x by rw [HSN.out]; unfold near1; rw [HF2.out, if_neg h0]; dsimp only; rw [hfj, if_pos hlt])
      clear h0 hfj hjn
      go_upto_region 5 with fail
      refine wp_region_G (.take 0 (.take 1 (.take 2 (.take 3 (.take 4 (.take 5 (.take 6 (.take 7 (.take 8 (.take 9 (.take 10 (.take 11 (.take 12 (.take 13 (.take 14 (.take 15 (.take 16 (.take 17 (.take 18 (.take 19 .nil)))))))))))))))))))) (by kernel_rfl) (by kernel_rfl) ?_
      simp only [pickOps, nthOp]
      intro wq hG
      repeat (first | (refine wpG_skip_take ?_ ?_; (focus rfl); try simp only [Act.put, List.setIfInBounds_toArray, List.set_cons_zero, List.set_cons_succ]) | (refine wpG_skip_run ?_ ?_; (focus rfl); try simp only [Act.put, List.setIfInBounds_toArray, List.set_cons_zero, List.set_cons_succ]) | (refine wpG_take ?_ ?_; (focus rfl); apply Exists.intro; refine ⟨fun w' hw' => ?_, ?_⟩; (focus (have hc := Gr.cells hw'; go_simp; (try rfl); done)); try simp only [Act.put, List.setIfInBounds_toArray, List.set_cons_zero, List.set_cons_succ]))
      refine wpG_done ?_
      have hg2 := hg.trans hG
      clear c_d0 m_d0 l_d
      clear hG kx kf kj
      go_step
      go_wp2_with fail
      go_roundw
      case rel => exact ⟨k + 1, HKM.out, by go_num, by first | (rw [HN.out]; done) | (rw [HN.out]; rfl), hg2⟩
      case measure => have := HKM.out; simp [intOf]; omega
     ·
      have HN := Lib.hid (show nearP far (r.take (k + 1)) = some j by rw [HSN.out]; unfold near1; rw [HF2.out, if_neg h0]; dsimp only; rw [hfj, if_neg hlt])
      clear h0 hfj hjn
      go_upto_region 5 with fail
      refine wp_region_G (.take 0 (.take 1 (.take 2 (.take 3 (.take 4 (.take 5 (.take 6 (.take 7 (.take 8 (.take 9 (.take 10 (.take 11 (.take 12 (.take 13 (.take 14 (.take 15 (.take 16 (.take 17 (.take 18 (.take 19 .nil)))))))))))))))))))) (by kernel_rfl) (by kernel_rfl) ?_
      simp only [pickOps, nthOp]
      intro wq hG
      repeat (first | (refine wpG_skip_take ?_ ?_; (focus rfl); try simp only [Act.put, List.setIfInBounds_toArray, List.set_cons_zero, List.set_cons_succ]) | (refine wpG_skip_run ?_ ?_; (focus rfl); try simp only [Act.put, List.setIfInBounds_toArray, List.set_cons_zero, List.set_cons_succ]) | (refine wpG_take ?_ ?_; (focus rfl); apply Exists.intro; refine ⟨fun w' hw' => ?_, ?_⟩; (focus (have hc := Gr.cells hw'; go_simp; (try rfl); done)); try simp only [Act.put, List.setIfInBounds_toArray, List.set_cons_zero, List.set_cons_succ]))
      refine wpG_done ?_
      have hg2 := hg.trans hG
      clear c_d0 m_d0 l_d
      clear hG kx kf kj
      go_step
      go_wp2_with fail
      go_roundw
      case rel => exact ⟨k + 1, HKM.out, by go_num, by first | (rw [HN.out]; done) | (rw [HN.out]; rfl), hg2⟩
      case measure => have := HKM.out; simp [intOf]; omega
  ·
   have hkI : ¬ (k : Int) < (m : Int) := by omega
   have HE := Lib.hid (show nearP far (r.take k) = nearP far r by rw [List.take_of_length_le (by have := HM.out; omega)])
   clear hk hkm
   go_wp2_with fail
   go_ret
   exact ⟨by rw [HE.out]; rfl, hg⟩
end Go.Proofs.YtkkopdmemjncdaaGreatDoor
