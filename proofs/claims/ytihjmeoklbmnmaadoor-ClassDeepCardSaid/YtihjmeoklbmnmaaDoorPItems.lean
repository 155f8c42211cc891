/- class: items. No condition but a length's bound. Printed by gen_items.py. -/
import Derived.Test.YtihjmeoklbmnmaaDoorPItem
import Derived.WalkMore
namespace Go.Proofs.YtihjmeoklbmnmaaDoor
open Go Go.RowKit

/-- Where a reader stands. -/
def atOf (p : Nat) (w : World) : Nat := match w.cell? ⟨p, 1, none⟩ with
  | some (.int _ q) => q.toNat
  | _ => 0
theorem Rdr.at {w : World} {p k : Nat} {t : List UInt8} (h : Rdr w p t k) : atOf p w = k := by
  unfold atOf; rw [boxAt.cell h 1 _ rfl]; simp
/-- What the head of a class comes to, when its items have come to this. -/
def headOf (b : Bool) : Rd → Rd
  | .bad d r => .bad d r
  | .ok s r => .ok (if b then ~~~s else s) r
theorem headP_eq (l : List UInt8) : headP l = headOf (pre [94] l) (itemsF (if pre [94] l then l.drop 1 else l) emptyS) := by
  have e : itemsP (l.length + 1) (if pre [94] l then l.drop 1 else l) emptyS = itemsF (if pre [94] l then l.drop 1 else l) emptyS := by
    unfold itemsF
    refine itemsP_fuel _ _ _ _ ?_ (by omega)
    split
    · rw [List.length_drop]; omega
    · omega
  unfold headP
  rw [e]
  cases itemsF (if pre [94] l then l.drop 1 else l) emptyS <;> rfl

set_option maxRecDepth 100000 in
set_option maxHeartbeats 8000000 in
theorem items_any (p k : Nat) (t : List UInt8) (es ed : Value) (w : World) (h : Rdr w p t k) (hk : k ≤ t.length) (hT : (t.length : Int) ≤ 4294967280) (hS : Sy w p es ed) :
    Calls Tryd.prog 43 #[.pointer (some ⟨p, 0, none⟩)] w (RdEnd es ed p t w (headP (t.drop k))) := by
  have hS' := Lib.hid hS
  have H0 := Lib.hid h
  have lp := boxAt.lt h (Nat.succ_pos _)
  have hne : w.heap.size ≠ p := by omega
  have hne2 : w.heap.size + 1 ≠ p := by omega
  clear hS h
  obtain ⟨X, hX⟩ : ∃ X, headP (t.drop k) = X := ⟨_, rfl⟩
  rw [hX]
  rw [headP_eq] at hX
  obtain ⟨qn, hqn⟩ : ∃ q, pre [94] (t.drop k) = q := ⟨_, rfl⟩
  rw [hqn] at hX
  have HN := Lib.hid hqn
  obtain ⟨k0, hk0⟩ : ∃ k0, (if qn then k + 1 else k) = k0 := ⟨_, rfl⟩
  have hk0l : k0 ≤ t.length := by
    rw [← hk0]
    split
    · rename_i hq
      have := pre_len (hqn.trans hq); rw [List.length_drop] at this; simp at this; omega
    · exact hk
  have hdk : (if qn = true then (t.drop k).drop 1 else t.drop k) = t.drop k0 := by
    rw [← hk0]; split
    · rw [List.drop_drop]
    · rfl
  rw [hdk] at hX
  obtain ⟨Y, hY0⟩ : ∃ Y, itemsF (t.drop k0) emptyS = Y := ⟨_, rfl⟩
  rw [hY0] at hX
  have HXY := Lib.hid hX.symm
  have HY0 := Lib.hid hY0
  have HK0 := Lib.hid hk0
  have hw1 : IntKind.i64.wrap ((k : Int) + 1) = ((k + 1 : Nat) : Int) := by rw [IntWalk.i64_in _ (by omega)]; omega
  clear hX hY0 hdk hqn hk0
  go_enter Tryd.func43, Tryd.ntmps43
  go_wp2_with fail
  go_step3
  go_wp2_with fail
  go_at_call 41
  refine name_calls (fun W hW => ?_)
  obtain ⟨xr, xs, hgW, hsz⟩ : boxAt W w.heap.size [.int .u64 0, .int .u64 0, .int .u64 0, .int .u64 0] ∧ boxAt W (w.heap.size + 1) [.int .u64 0, .int .u64 0, .int .u64 0, .int .u64 0] ∧ Gr w W ∧ W.heap.size = w.heap.size + 2 := by
    subst hW; exact boxes2 _ _ _ _ _
  have hR : Rdr W p t k := boxAt.later H0.out hgW
  have hK : Kp p w W := Kp.gr hgW
  clear hW hgW
  refine (begins_is p k t [94] qn W hR hk HN.out).mono ?_; rintro e w1 ⟨rfl, hg⟩
  replace xr := xr.later hg
  replace xs := xs.later hg
  replace hR := boxAt.later hR hg
  replace hK := hK.trans (Kp.gr hg)
  clear hg
  cases qn
  ·
    clear hw1
    go_wp2_with fail
    go_step3
    go_wp2_with fail
    go_loopw [7] (fun _ wr => ∃ (s : BitVec 256) (j : Nat), j ≤ t.length ∧ k0 ≤ j ∧ Hid (itemsF (t.drop j) s = Y) ∧ Rdr wr p t j ∧ Kp p w wr ∧ boxAt wr w.heap.size [.int .u64 0, .int .u64 0, .int .u64 0, .int .u64 0] ∧ boxAt wr (w.heap.size + 1) [.int .u64 (wd s 0), .int .u64 (wd s 1), .int .u64 (wd s 2), .int .u64 (wd s 3)]) (fun _ wr => t.length - atOf p wr)
    case atStart =>
      refine ⟨emptyS, k0, hk0l, Nat.le_refl _, HY0, by rw [← HK0.out]; exact hR, hK, xr, ?_⟩
      simp only [wd_zero]; exact xs
    case round =>
      obtain ⟨s, j, hj, hkj, hY, hR, hK, xr, xs⟩ := hrel
      have hat : atOf p wr = j := Rdr.at hR
      have HAT := Lib.hid hat
      clear hat
      have hsz0 : w.heap.size + 1 < wr.heap.size := xs.lt (by simp)
      by_cases h1 : pre [45, 45] (t.drop j) = true
      ·
        have HSTOP : Hid (stops (t.drop j) = true) := by unfold Hid stops; rw [h1]; rfl
        have H1 := Lib.hid h1
        clear h1
        go_wp2_with fail
        go_at_call 41
        refine (begins_is p j t [45, 45] true _ hR hj H1.out).mono ?_; rintro e w4 ⟨rfl, hg⟩
        replace xr := xr.later hg
        replace xs := xs.later hg
        replace hR := boxAt.later hR hg
        replace hK := hK.trans (Kp.gr hg)
        clear hg
        have HX2 : Hid (X = .ok s (t.drop j)) := by unfold Hid; rw [HXY.out, ← hY.out, itemsF_stop _ HSTOP.out]; rfl
        have c_s0 := xs.cell 0 _ rfl
        have c_s1 := xs.cell 1 _ rfl
        have c_s2 := xs.cell 2 _ rfl
        have c_s3 := xs.cell 3 _ rfl
        have m_s0 := xs.mark 0 _ rfl
        have m_s1 := xs.mark 1 _ rfl
        have m_s2 := xs.mark 2 _ rfl
        have m_s3 := xs.mark 3 _ rfl
        have l_s := xs.lt (Nat.succ_pos _)
        have c_r0 := xr.cell 0 _ rfl
        have c_r1 := xr.cell 1 _ rfl
        have c_r2 := xr.cell 2 _ rfl
        have c_r3 := xr.cell 3 _ rfl
        have m_r0 := xr.mark 0 _ rfl
        have m_r1 := xr.mark 1 _ rfl
        have m_r2 := xr.mark 2 _ rfl
        have m_r3 := xr.mark 3 _ rfl
        have l_r := xr.lt (Nat.succ_pos _)
        go_wp2
        rw [Exit.noGoto_ret]
        refine name_end (fun W9 hW => ?_)
        have xr9 : boxAt W9 w.heap.size [.int .u64 (wd s 0), .int .u64 (wd s 1), .int .u64 (wd s 2), .int .u64 (wd s 3)] := by rw [hW]; exact xr.put4 _ _ _ _
        have hK9 : Kp p w W9 := by rw [hW]; exact hK.put4 (Nat.le_refl _) _ _ _ _
        have c_q0 := xr9.cell 0 _ rfl
        have c_q1 := xr9.cell 1 _ rfl
        have c_q2 := xr9.cell 2 _ rfl
        have c_q3 := xr9.cell 3 _ rfl
        have m_q0 := xr9.mark 0 _ rfl
        have m_q1 := xr9.mark 1 _ rfl
        have m_q2 := xr9.mark 2 _ rfl
        have m_q3 := xr9.mark 3 _ rfl
        have l_q := xr9.lt (Nat.succ_pos _)
        refine bodyPost_ret (v := .tuple #[.agg #[.int .u64 (wd s 0), .int .u64 (wd s 1), .int .u64 (wd s 2), .int .u64 (wd s 3)], .nilIface]) (by simp [results, Tryd.results43, go_sem, c_q0, c_q1, c_q2, c_q3]) rfl ?_
        exact RdEnd.ok HX2.out hj hK9 (by rw [hW]; exact boxAt.far4 hR hne _ _ _ _)
      have h1f : pre [45, 45] (t.drop j) = false := by simpa using h1
      have H1 := Lib.hid h1f
      clear h1
      by_cases h2 : pre [38, 38] (t.drop j) = true
      ·
        have HSTOP : Hid (stops (t.drop j) = true) := by unfold Hid stops; rw [h1f, h2]; rfl
        have H2 := Lib.hid h2
        clear h2 h1f
        go_wp2_with fail
        go_at_call 41
        refine (begins_is p j t [45, 45] false _ hR hj H1.out).mono ?_; rintro e w3 ⟨rfl, hg⟩
        replace xr := xr.later hg
        replace xs := xs.later hg
        replace hR := boxAt.later hR hg
        replace hK := hK.trans (Kp.gr hg)
        clear hg
        go_wp2_with fail
        go_at_call 41
        refine (begins_is p j t [38, 38] true _ hR hj H2.out).mono ?_; rintro e w4 ⟨rfl, hg⟩
        replace xr := xr.later hg
        replace xs := xs.later hg
        replace hR := boxAt.later hR hg
        replace hK := hK.trans (Kp.gr hg)
        clear hg
        have HX2 : Hid (X = .ok s (t.drop j)) := by unfold Hid; rw [HXY.out, ← hY.out, itemsF_stop _ HSTOP.out]; rfl
        have c_s0 := xs.cell 0 _ rfl
        have c_s1 := xs.cell 1 _ rfl
        have c_s2 := xs.cell 2 _ rfl
        have c_s3 := xs.cell 3 _ rfl
        have m_s0 := xs.mark 0 _ rfl
        have m_s1 := xs.mark 1 _ rfl
        have m_s2 := xs.mark 2 _ rfl
        have m_s3 := xs.mark 3 _ rfl
        have l_s := xs.lt (Nat.succ_pos _)
        have c_r0 := xr.cell 0 _ rfl
        have c_r1 := xr.cell 1 _ rfl
        have c_r2 := xr.cell 2 _ rfl
        have c_r3 := xr.cell 3 _ rfl
        have m_r0 := xr.mark 0 _ rfl
        have m_r1 := xr.mark 1 _ rfl
        have m_r2 := xr.mark 2 _ rfl
        have m_r3 := xr.mark 3 _ rfl
        have l_r := xr.lt (Nat.succ_pos _)
        go_wp2
        rw [Exit.noGoto_ret]
        refine name_end (fun W9 hW => ?_)
        have xr9 : boxAt W9 w.heap.size [.int .u64 (wd s 0), .int .u64 (wd s 1), .int .u64 (wd s 2), .int .u64 (wd s 3)] := by rw [hW]; exact xr.put4 _ _ _ _
        have hK9 : Kp p w W9 := by rw [hW]; exact hK.put4 (Nat.le_refl _) _ _ _ _
        have c_q0 := xr9.cell 0 _ rfl
        have c_q1 := xr9.cell 1 _ rfl
        have c_q2 := xr9.cell 2 _ rfl
        have c_q3 := xr9.cell 3 _ rfl
        have m_q0 := xr9.mark 0 _ rfl
        have m_q1 := xr9.mark 1 _ rfl
        have m_q2 := xr9.mark 2 _ rfl
        have m_q3 := xr9.mark 3 _ rfl
        have l_q := xr9.lt (Nat.succ_pos _)
        refine bodyPost_ret (v := .tuple #[.agg #[.int .u64 (wd s 0), .int .u64 (wd s 1), .int .u64 (wd s 2), .int .u64 (wd s 3)], .nilIface]) (by simp [results, Tryd.results43, go_sem, c_q0, c_q1, c_q2, c_q3]) rfl ?_
        exact RdEnd.ok HX2.out hj hK9 (by rw [hW]; exact boxAt.far4 hR hne _ _ _ _)
      have h2f : pre [38, 38] (t.drop j) = false := by simpa using h2
      have H2 := Lib.hid h2f
      clear h2
      by_cases h3 : pre [93] (t.drop j) = true
      ·
        have HSTOP : Hid (stops (t.drop j) = true) := by unfold Hid stops; rw [h1f, h2f, h3]; rfl
        have H3 := Lib.hid h3
        clear h3 h2f h1f
        go_wp2_with fail
        go_at_call 41
        refine (begins_is p j t [45, 45] false _ hR hj H1.out).mono ?_; rintro e w2 ⟨rfl, hg⟩
        replace xr := xr.later hg
        replace xs := xs.later hg
        replace hR := boxAt.later hR hg
        replace hK := hK.trans (Kp.gr hg)
        clear hg
        go_wp2_with fail
        go_at_call 41
        refine (begins_is p j t [38, 38] false _ hR hj H2.out).mono ?_; rintro e w3 ⟨rfl, hg⟩
        replace xr := xr.later hg
        replace xs := xs.later hg
        replace hR := boxAt.later hR hg
        replace hK := hK.trans (Kp.gr hg)
        clear hg
        go_wp2_with fail
        go_at_call 41
        refine (begins_is p j t [93] true _ hR hj H3.out).mono ?_; rintro e w4 ⟨rfl, hg⟩
        replace xr := xr.later hg
        replace xs := xs.later hg
        replace hR := boxAt.later hR hg
        replace hK := hK.trans (Kp.gr hg)
        clear hg
        have HX2 : Hid (X = .ok s (t.drop j)) := by unfold Hid; rw [HXY.out, ← hY.out, itemsF_stop _ HSTOP.out]; rfl
        have c_s0 := xs.cell 0 _ rfl
        have c_s1 := xs.cell 1 _ rfl
        have c_s2 := xs.cell 2 _ rfl
        have c_s3 := xs.cell 3 _ rfl
        have m_s0 := xs.mark 0 _ rfl
        have m_s1 := xs.mark 1 _ rfl
        have m_s2 := xs.mark 2 _ rfl
        have m_s3 := xs.mark 3 _ rfl
        have l_s := xs.lt (Nat.succ_pos _)
        have c_r0 := xr.cell 0 _ rfl
        have c_r1 := xr.cell 1 _ rfl
        have c_r2 := xr.cell 2 _ rfl
        have c_r3 := xr.cell 3 _ rfl
        have m_r0 := xr.mark 0 _ rfl
        have m_r1 := xr.mark 1 _ rfl
        have m_r2 := xr.mark 2 _ rfl
        have m_r3 := xr.mark 3 _ rfl
        have l_r := xr.lt (Nat.succ_pos _)
        go_wp2
        rw [Exit.noGoto_ret]
        refine name_end (fun W9 hW => ?_)
        have xr9 : boxAt W9 w.heap.size [.int .u64 (wd s 0), .int .u64 (wd s 1), .int .u64 (wd s 2), .int .u64 (wd s 3)] := by rw [hW]; exact xr.put4 _ _ _ _
        have hK9 : Kp p w W9 := by rw [hW]; exact hK.put4 (Nat.le_refl _) _ _ _ _
        have c_q0 := xr9.cell 0 _ rfl
        have c_q1 := xr9.cell 1 _ rfl
        have c_q2 := xr9.cell 2 _ rfl
        have c_q3 := xr9.cell 3 _ rfl
        have m_q0 := xr9.mark 0 _ rfl
        have m_q1 := xr9.mark 1 _ rfl
        have m_q2 := xr9.mark 2 _ rfl
        have m_q3 := xr9.mark 3 _ rfl
        have l_q := xr9.lt (Nat.succ_pos _)
        refine bodyPost_ret (v := .tuple #[.agg #[.int .u64 (wd s 0), .int .u64 (wd s 1), .int .u64 (wd s 2), .int .u64 (wd s 3)], .nilIface]) (by simp [results, Tryd.results43, go_sem, c_q0, c_q1, c_q2, c_q3]) rfl ?_
        exact RdEnd.ok HX2.out hj hK9 (by rw [hW]; exact boxAt.far4 hR hne _ _ _ _)
      have h3f : pre [93] (t.drop j) = false := by simpa using h3
      have H3 := Lib.hid h3f
      have HSTOP : Hid (stops (t.drop j) = false) := by unfold Hid stops; rw [h1f, h2f, h3f]; rfl
      clear h3 h3f h2f h1f
      go_wp2_with fail
      go_at_call 41
      refine (begins_is p j t [45, 45] false _ hR hj H1.out).mono ?_; rintro e w2 ⟨rfl, hg⟩
      replace xr := xr.later hg
      replace xs := xs.later hg
      replace hR := boxAt.later hR hg
      replace hK := hK.trans (Kp.gr hg)
      clear hg
      go_wp2_with fail
      go_at_call 41
      refine (begins_is p j t [38, 38] false _ hR hj H2.out).mono ?_; rintro e w3 ⟨rfl, hg⟩
      replace xr := xr.later hg
      replace xs := xs.later hg
      replace hR := boxAt.later hR hg
      replace hK := hK.trans (Kp.gr hg)
      clear hg
      go_wp2_with fail
      go_at_call 41
      refine (begins_is p j t [93] false _ hR hj H3.out).mono ?_; rintro e w4 ⟨rfl, hg⟩
      replace xr := xr.later hg
      replace xs := xs.later hg
      replace hR := boxAt.later hR hg
      replace hK := hK.trans (Kp.gr hg)
      clear hg
      go_wp2_with fail
      go_at_call 54
      refine (item_any p j t es ed w4 hR hj hT (hS'.out.kept hK)).mono ?_; rintro e w5 ⟨hK2, hm⟩
      have hsz4 : w.heap.size + 1 < w4.heap.size := xs.lt (by simp)
      replace xr := xr.kept hK2 hne (by simp)
      replace xs := xs.kept hK2 hne2 (by simp)
      clear hR
      cases hx : itemP (t.drop j) with
      | bad d r =>
        rw [hx] at hm
        obtain ⟨s2, er, rfl, hr, hA⟩ := hm
        obtain ⟨ty, y, rfl⟩ := hr.iface
        have HX2 : Hid (X = .bad d r) := by unfold Hid; rw [HXY.out, ← hY.out, itemsF_bad _ HSTOP.out hx]; rfl
        have HR := Lib.hid hr
        clear hr hx
        have c_s0 := xs.cell 0 _ rfl
        have c_s1 := xs.cell 1 _ rfl
        have c_s2 := xs.cell 2 _ rfl
        have c_s3 := xs.cell 3 _ rfl
        have m_s0 := xs.mark 0 _ rfl
        have m_s1 := xs.mark 1 _ rfl
        have m_s2 := xs.mark 2 _ rfl
        have m_s3 := xs.mark 3 _ rfl
        have l_s := xs.lt (Nat.succ_pos _)
        have c_r0 := xr.cell 0 _ rfl
        have c_r1 := xr.cell 1 _ rfl
        have c_r2 := xr.cell 2 _ rfl
        have c_r3 := xr.cell 3 _ rfl
        have m_r0 := xr.mark 0 _ rfl
        have m_r1 := xr.mark 1 _ rfl
        have m_r2 := xr.mark 2 _ rfl
        have m_r3 := xr.mark 3 _ rfl
        have l_r := xr.lt (Nat.succ_pos _)
        go_wp2
        rw [Exit.noGoto_ret]
        refine name_end (fun W9 hW => ?_)
        have xr9 : boxAt W9 w.heap.size [.int .u64 (wd s 0), .int .u64 (wd s 1), .int .u64 (wd s 2), .int .u64 (wd s 3)] := by rw [hW]; exact boxAt.later (xr.put4 _ _ _ _) (Gr.alloc _ _)
        have hK9 : Kp p w W9 := by rw [hW]; exact ((hK.trans hK2).put4 (Nat.le_refl _) _ _ _ _).trans (Kp.gr (Gr.alloc _ _))
        have c_q0 := xr9.cell 0 _ rfl
        have c_q1 := xr9.cell 1 _ rfl
        have c_q2 := xr9.cell 2 _ rfl
        have c_q3 := xr9.cell 3 _ rfl
        have m_q0 := xr9.mark 0 _ rfl
        have m_q1 := xr9.mark 1 _ rfl
        have m_q2 := xr9.mark 2 _ rfl
        have m_q3 := xr9.mark 3 _ rfl
        have l_q := xr9.lt (Nat.succ_pos _)
        refine bodyPost_ret (v := .tuple #[.agg #[.int .u64 (wd s 0), .int .u64 (wd s 1), .int .u64 (wd s 2), .int .u64 (wd s 3)], .iface ty y]) (by simp [results, Tryd.results43, go_sem, c_q0, c_q1, c_q2, c_q3]) rfl ?_
        rw [HX2.out]
        refine RdEnd.bad' hK9 (Refused.mono (B := w4.heap.size) ?_ hK.size) (by rw [hW]; exact (hA.far4 hne _ _ _ _).later (Gr.alloc _ _))
        rw [hW]
        exact (HR.out.put4 _ (by omega) _ _ _ _).kept (Kp.gr (p := p) (Gr.alloc _ _)) (by omega)
      | ok x r =>
        rw [hx] at hm
        obtain ⟨rfl, hR⟩ := hm
        have hl := itemP_len (t.drop j)
        rw [hx] at hl
        obtain ⟨j0, hj1, hj2, rfl⟩ := hl
        rw [List.length_drop] at hj2
        have hY2 : Hid (itemsF ((t.drop j).drop j0) (s ||| x) = Y) := by unfold Hid; rw [← hY.out, itemsF_go s HSTOP.out hx]
        rw [List.drop_drop] at hR hY2
        have HJ2 := Lib.hid (show j + j0 ≤ t.length ∧ 1 ≤ j0 from ⟨by omega, hj1⟩)
        obtain ⟨j2, hj3⟩ : ∃ j2, j + j0 = j2 := ⟨_, rfl⟩
        rw [hj3] at hR hY2
        have hjl : j2 ≤ t.length := by omega
        rw [List.length_drop, show t.length - (t.length - j2) = j2 by omega] at hR
        replace hK := hK.trans hK2
        have HJ := Lib.hid (show j < j2 from by omega)
        clear hx hj1 hj2 hj3 hK2 HJ2
        have c_s0 := xs.cell 0 _ rfl
        have c_s1 := xs.cell 1 _ rfl
        have c_s2 := xs.cell 2 _ rfl
        have c_s3 := xs.cell 3 _ rfl
        have m_s0 := xs.mark 0 _ rfl
        have m_s1 := xs.mark 1 _ rfl
        have m_s2 := xs.mark 2 _ rfl
        have m_s3 := xs.mark 3 _ rfl
        have l_s := xs.lt (Nat.succ_pos _)
        go_wp2_with fail
        go_at_call 15
        refine name_calls (fun W6 hW => ?_)
        have hg : Gr w5 W6 := by rw [hW]; exact Gr.alloc _ _
        clear c_s0 c_s1 c_s2 c_s3 m_s0 m_s1 m_s2 m_s3 l_s
        replace xr := xr.later hg
        replace xs := xs.later hg
        replace hR := boxAt.later hR hg
        replace hK := hK.trans (Kp.gr hg)
        clear hg
        clear hW
        refine (union_any s x W6).mono ?_; rintro e w7 ⟨rfl, hg⟩
        replace xr := xr.later hg
        replace xs := xs.later hg
        replace hR := boxAt.later hR hg
        replace hK := hK.trans (Kp.gr hg)
        clear hg
        have c_s0 := xs.cell 0 _ rfl
        have c_s1 := xs.cell 1 _ rfl
        have c_s2 := xs.cell 2 _ rfl
        have c_s3 := xs.cell 3 _ rfl
        have m_s0 := xs.mark 0 _ rfl
        have m_s1 := xs.mark 1 _ rfl
        have m_s2 := xs.mark 2 _ rfl
        have m_s3 := xs.mark 3 _ rfl
        have l_s := xs.lt (Nat.succ_pos _)
        go_wp2_with fail
        go_roundw
        case rel => exact ⟨s ||| x, j2, hjl, by have := HJ.out; omega, hY2, boxAt.far4 hR hne2 _ _ _ _, hK.put4 (by omega) _ _ _ _, xr.far4 (by omega) _ _ _ _, xs.put4 _ _ _ _⟩
        case measure =>
          rw [Rdr.at (boxAt.far4 hR hne2 _ _ _ _), HAT.out]
          have := HJ.out; omega
  ·
    have c1 := boxAt.cell hR 1 _ rfl
    have m1 := boxAt.mark hR 1 _ rfl
    have lp1 := boxAt.lt hR (Nat.succ_pos _)
    go_wp2_with fail
    refine name_world (fun W2 hW => ?_)
    replace xr : boxAt W2 w.heap.size [.int .u64 0, .int .u64 0, .int .u64 0, .int .u64 0] := by rw [hW]; exact xr.far ⟨p, 1, none⟩ _ (by show p ≠ _; omega)
    replace xs : boxAt W2 (w.heap.size + 1) [.int .u64 0, .int .u64 0, .int .u64 0, .int .u64 0] := by rw [hW]; exact xs.far ⟨p, 1, none⟩ _ (by show p ≠ _; omega)
    replace hR : Rdr W2 p t (k + 1) := by rw [hW]; exact boxAt.put hR 1 _ (by simp)
    replace hK : Kp p w W2 := by rw [hW]; exact hK.at_p 1 _
    clear hW c1 m1 lp1 hw1
    go_step3
    go_wp2_with fail
    go_loopw [7] (fun _ wr => ∃ (s : BitVec 256) (j : Nat), j ≤ t.length ∧ k0 ≤ j ∧ Hid (itemsF (t.drop j) s = Y) ∧ Rdr wr p t j ∧ Kp p w wr ∧ boxAt wr w.heap.size [.int .u64 0, .int .u64 0, .int .u64 0, .int .u64 0] ∧ boxAt wr (w.heap.size + 1) [.int .u64 (wd s 0), .int .u64 (wd s 1), .int .u64 (wd s 2), .int .u64 (wd s 3)]) (fun _ wr => t.length - atOf p wr)
    case atStart =>
      refine ⟨emptyS, k0, hk0l, Nat.le_refl _, HY0, by rw [← HK0.out]; exact hR, hK, xr, ?_⟩
      simp only [wd_zero]; exact xs
    case round =>
      obtain ⟨s, j, hj, hkj, hY, hR, hK, xr, xs⟩ := hrel
      have hat : atOf p wr = j := Rdr.at hR
      have HAT := Lib.hid hat
      clear hat
      have hsz0 : w.heap.size + 1 < wr.heap.size := xs.lt (by simp)
      by_cases h1 : pre [45, 45] (t.drop j) = true
      ·
        have HSTOP : Hid (stops (t.drop j) = true) := by unfold Hid stops; rw [h1]; rfl
        have H1 := Lib.hid h1
        clear h1
        go_wp2_with fail
        go_at_call 41
        refine (begins_is p j t [45, 45] true _ hR hj H1.out).mono ?_; rintro e w4 ⟨rfl, hg⟩
        replace xr := xr.later hg
        replace xs := xs.later hg
        replace hR := boxAt.later hR hg
        replace hK := hK.trans (Kp.gr hg)
        clear hg
        have HX2 : Hid (X = .ok (~~~s) (t.drop j)) := by unfold Hid; rw [HXY.out, ← hY.out, itemsF_stop _ HSTOP.out]; rfl
        have c_s0 := xs.cell 0 _ rfl
        have c_s1 := xs.cell 1 _ rfl
        have c_s2 := xs.cell 2 _ rfl
        have c_s3 := xs.cell 3 _ rfl
        have m_s0 := xs.mark 0 _ rfl
        have m_s1 := xs.mark 1 _ rfl
        have m_s2 := xs.mark 2 _ rfl
        have m_s3 := xs.mark 3 _ rfl
        have l_s := xs.lt (Nat.succ_pos _)
        go_wp2_with fail
        go_at_call 14
        refine (complement_any s w4).mono ?_; rintro e w8 ⟨rfl, hg⟩
        clear c_s0 c_s1 c_s2 c_s3 m_s0 m_s1 m_s2 m_s3 l_s
        replace xr := xr.later hg
        replace xs := xs.later hg
        replace hR := boxAt.later hR hg
        replace hK := hK.trans (Kp.gr hg)
        clear hg
        have c_s0 := xs.cell 0 _ rfl
        have c_s1 := xs.cell 1 _ rfl
        have c_s2 := xs.cell 2 _ rfl
        have c_s3 := xs.cell 3 _ rfl
        have m_s0 := xs.mark 0 _ rfl
        have m_s1 := xs.mark 1 _ rfl
        have m_s2 := xs.mark 2 _ rfl
        have m_s3 := xs.mark 3 _ rfl
        have l_s := xs.lt (Nat.succ_pos _)
        have c_r0 := xr.cell 0 _ rfl
        have c_r1 := xr.cell 1 _ rfl
        have c_r2 := xr.cell 2 _ rfl
        have c_r3 := xr.cell 3 _ rfl
        have m_r0 := xr.mark 0 _ rfl
        have m_r1 := xr.mark 1 _ rfl
        have m_r2 := xr.mark 2 _ rfl
        have m_r3 := xr.mark 3 _ rfl
        have l_r := xr.lt (Nat.succ_pos _)
        go_wp2
        rw [Exit.noGoto_ret]
        refine name_end (fun W9 hW => ?_)
        have xr9 : boxAt W9 w.heap.size [.int .u64 (wd (~~~s) 0), .int .u64 (wd (~~~s) 1), .int .u64 (wd (~~~s) 2), .int .u64 (wd (~~~s) 3)] := by rw [hW]; exact (xr.far4 (by omega) _ _ _ _).put4 _ _ _ _
        have hK9 : Kp p w W9 := by rw [hW]; exact (hK.put4 (by omega) _ _ _ _).put4 (Nat.le_refl _) _ _ _ _
        have c_q0 := xr9.cell 0 _ rfl
        have c_q1 := xr9.cell 1 _ rfl
        have c_q2 := xr9.cell 2 _ rfl
        have c_q3 := xr9.cell 3 _ rfl
        have m_q0 := xr9.mark 0 _ rfl
        have m_q1 := xr9.mark 1 _ rfl
        have m_q2 := xr9.mark 2 _ rfl
        have m_q3 := xr9.mark 3 _ rfl
        have l_q := xr9.lt (Nat.succ_pos _)
        refine bodyPost_ret (v := .tuple #[.agg #[.int .u64 (wd ((~~~s)) 0), .int .u64 (wd ((~~~s)) 1), .int .u64 (wd ((~~~s)) 2), .int .u64 (wd ((~~~s)) 3)], .nilIface]) (by simp [results, Tryd.results43, go_sem, c_q0, c_q1, c_q2, c_q3]) rfl ?_
        exact RdEnd.ok HX2.out hj hK9 (by rw [hW]; exact boxAt.far4 (boxAt.far4 hR (by omega) _ _ _ _) hne _ _ _ _)
      have h1f : pre [45, 45] (t.drop j) = false := by simpa using h1
      have H1 := Lib.hid h1f
      clear h1
      by_cases h2 : pre [38, 38] (t.drop j) = true
      ·
        have HSTOP : Hid (stops (t.drop j) = true) := by unfold Hid stops; rw [h1f, h2]; rfl
        have H2 := Lib.hid h2
        clear h2 h1f
        go_wp2_with fail
        go_at_call 41
        refine (begins_is p j t [45, 45] false _ hR hj H1.out).mono ?_; rintro e w3 ⟨rfl, hg⟩
        replace xr := xr.later hg
        replace xs := xs.later hg
        replace hR := boxAt.later hR hg
        replace hK := hK.trans (Kp.gr hg)
        clear hg
        go_wp2_with fail
        go_at_call 41
        refine (begins_is p j t [38, 38] true _ hR hj H2.out).mono ?_; rintro e w4 ⟨rfl, hg⟩
        replace xr := xr.later hg
        replace xs := xs.later hg
        replace hR := boxAt.later hR hg
        replace hK := hK.trans (Kp.gr hg)
        clear hg
        have HX2 : Hid (X = .ok (~~~s) (t.drop j)) := by unfold Hid; rw [HXY.out, ← hY.out, itemsF_stop _ HSTOP.out]; rfl
        have c_s0 := xs.cell 0 _ rfl
        have c_s1 := xs.cell 1 _ rfl
        have c_s2 := xs.cell 2 _ rfl
        have c_s3 := xs.cell 3 _ rfl
        have m_s0 := xs.mark 0 _ rfl
        have m_s1 := xs.mark 1 _ rfl
        have m_s2 := xs.mark 2 _ rfl
        have m_s3 := xs.mark 3 _ rfl
        have l_s := xs.lt (Nat.succ_pos _)
        go_wp2_with fail
        go_at_call 14
        refine (complement_any s w4).mono ?_; rintro e w8 ⟨rfl, hg⟩
        clear c_s0 c_s1 c_s2 c_s3 m_s0 m_s1 m_s2 m_s3 l_s
        replace xr := xr.later hg
        replace xs := xs.later hg
        replace hR := boxAt.later hR hg
        replace hK := hK.trans (Kp.gr hg)
        clear hg
        have c_s0 := xs.cell 0 _ rfl
        have c_s1 := xs.cell 1 _ rfl
        have c_s2 := xs.cell 2 _ rfl
        have c_s3 := xs.cell 3 _ rfl
        have m_s0 := xs.mark 0 _ rfl
        have m_s1 := xs.mark 1 _ rfl
        have m_s2 := xs.mark 2 _ rfl
        have m_s3 := xs.mark 3 _ rfl
        have l_s := xs.lt (Nat.succ_pos _)
        have c_r0 := xr.cell 0 _ rfl
        have c_r1 := xr.cell 1 _ rfl
        have c_r2 := xr.cell 2 _ rfl
        have c_r3 := xr.cell 3 _ rfl
        have m_r0 := xr.mark 0 _ rfl
        have m_r1 := xr.mark 1 _ rfl
        have m_r2 := xr.mark 2 _ rfl
        have m_r3 := xr.mark 3 _ rfl
        have l_r := xr.lt (Nat.succ_pos _)
        go_wp2
        rw [Exit.noGoto_ret]
        refine name_end (fun W9 hW => ?_)
        have xr9 : boxAt W9 w.heap.size [.int .u64 (wd (~~~s) 0), .int .u64 (wd (~~~s) 1), .int .u64 (wd (~~~s) 2), .int .u64 (wd (~~~s) 3)] := by rw [hW]; exact (xr.far4 (by omega) _ _ _ _).put4 _ _ _ _
        have hK9 : Kp p w W9 := by rw [hW]; exact (hK.put4 (by omega) _ _ _ _).put4 (Nat.le_refl _) _ _ _ _
        have c_q0 := xr9.cell 0 _ rfl
        have c_q1 := xr9.cell 1 _ rfl
        have c_q2 := xr9.cell 2 _ rfl
        have c_q3 := xr9.cell 3 _ rfl
        have m_q0 := xr9.mark 0 _ rfl
        have m_q1 := xr9.mark 1 _ rfl
        have m_q2 := xr9.mark 2 _ rfl
        have m_q3 := xr9.mark 3 _ rfl
        have l_q := xr9.lt (Nat.succ_pos _)
        refine bodyPost_ret (v := .tuple #[.agg #[.int .u64 (wd ((~~~s)) 0), .int .u64 (wd ((~~~s)) 1), .int .u64 (wd ((~~~s)) 2), .int .u64 (wd ((~~~s)) 3)], .nilIface]) (by simp [results, Tryd.results43, go_sem, c_q0, c_q1, c_q2, c_q3]) rfl ?_
        exact RdEnd.ok HX2.out hj hK9 (by rw [hW]; exact boxAt.far4 (boxAt.far4 hR (by omega) _ _ _ _) hne _ _ _ _)
      have h2f : pre [38, 38] (t.drop j) = false := by simpa using h2
      have H2 := Lib.hid h2f
      clear h2
      by_cases h3 : pre [93] (t.drop j) = true
      ·
        have HSTOP : Hid (stops (t.drop j) = true) := by unfold Hid stops; rw [h1f, h2f, h3]; rfl
        have H3 := Lib.hid h3
        clear h3 h2f h1f
        go_wp2_with fail
        go_at_call 41
        refine (begins_is p j t [45, 45] false _ hR hj H1.out).mono ?_; rintro e w2 ⟨rfl, hg⟩
        replace xr := xr.later hg
        replace xs := xs.later hg
        replace hR := boxAt.later hR hg
        replace hK := hK.trans (Kp.gr hg)
        clear hg
        go_wp2_with fail
        go_at_call 41
        refine (begins_is p j t [38, 38] false _ hR hj H2.out).mono ?_; rintro e w3 ⟨rfl, hg⟩
        replace xr := xr.later hg
        replace xs := xs.later hg
        replace hR := boxAt.later hR hg
        replace hK := hK.trans (Kp.gr hg)
        clear hg
        go_wp2_with fail
        go_at_call 41
        refine (begins_is p j t [93] true _ hR hj H3.out).mono ?_; rintro e w4 ⟨rfl, hg⟩
        replace xr := xr.later hg
        replace xs := xs.later hg
        replace hR := boxAt.later hR hg
        replace hK := hK.trans (Kp.gr hg)
        clear hg
        have HX2 : Hid (X = .ok (~~~s) (t.drop j)) := by unfold Hid; rw [HXY.out, ← hY.out, itemsF_stop _ HSTOP.out]; rfl
        have c_s0 := xs.cell 0 _ rfl
        have c_s1 := xs.cell 1 _ rfl
        have c_s2 := xs.cell 2 _ rfl
        have c_s3 := xs.cell 3 _ rfl
        have m_s0 := xs.mark 0 _ rfl
        have m_s1 := xs.mark 1 _ rfl
        have m_s2 := xs.mark 2 _ rfl
        have m_s3 := xs.mark 3 _ rfl
        have l_s := xs.lt (Nat.succ_pos _)
        go_wp2_with fail
        go_at_call 14
        refine (complement_any s w4).mono ?_; rintro e w8 ⟨rfl, hg⟩
        clear c_s0 c_s1 c_s2 c_s3 m_s0 m_s1 m_s2 m_s3 l_s
        replace xr := xr.later hg
        replace xs := xs.later hg
        replace hR := boxAt.later hR hg
        replace hK := hK.trans (Kp.gr hg)
        clear hg
        have c_s0 := xs.cell 0 _ rfl
        have c_s1 := xs.cell 1 _ rfl
        have c_s2 := xs.cell 2 _ rfl
        have c_s3 := xs.cell 3 _ rfl
        have m_s0 := xs.mark 0 _ rfl
        have m_s1 := xs.mark 1 _ rfl
        have m_s2 := xs.mark 2 _ rfl
        have m_s3 := xs.mark 3 _ rfl
        have l_s := xs.lt (Nat.succ_pos _)
        have c_r0 := xr.cell 0 _ rfl
        have c_r1 := xr.cell 1 _ rfl
        have c_r2 := xr.cell 2 _ rfl
        have c_r3 := xr.cell 3 _ rfl
        have m_r0 := xr.mark 0 _ rfl
        have m_r1 := xr.mark 1 _ rfl
        have m_r2 := xr.mark 2 _ rfl
        have m_r3 := xr.mark 3 _ rfl
        have l_r := xr.lt (Nat.succ_pos _)
        go_wp2
        rw [Exit.noGoto_ret]
        refine name_end (fun W9 hW => ?_)
        have xr9 : boxAt W9 w.heap.size [.int .u64 (wd (~~~s) 0), .int .u64 (wd (~~~s) 1), .int .u64 (wd (~~~s) 2), .int .u64 (wd (~~~s) 3)] := by rw [hW]; exact (xr.far4 (by omega) _ _ _ _).put4 _ _ _ _
        have hK9 : Kp p w W9 := by rw [hW]; exact (hK.put4 (by omega) _ _ _ _).put4 (Nat.le_refl _) _ _ _ _
        have c_q0 := xr9.cell 0 _ rfl
        have c_q1 := xr9.cell 1 _ rfl
        have c_q2 := xr9.cell 2 _ rfl
        have c_q3 := xr9.cell 3 _ rfl
        have m_q0 := xr9.mark 0 _ rfl
        have m_q1 := xr9.mark 1 _ rfl
        have m_q2 := xr9.mark 2 _ rfl
        have m_q3 := xr9.mark 3 _ rfl
        have l_q := xr9.lt (Nat.succ_pos _)
        refine bodyPost_ret (v := .tuple #[.agg #[.int .u64 (wd ((~~~s)) 0), .int .u64 (wd ((~~~s)) 1), .int .u64 (wd ((~~~s)) 2), .int .u64 (wd ((~~~s)) 3)], .nilIface]) (by simp [results, Tryd.results43, go_sem, c_q0, c_q1, c_q2, c_q3]) rfl ?_
        exact RdEnd.ok HX2.out hj hK9 (by rw [hW]; exact boxAt.far4 (boxAt.far4 hR (by omega) _ _ _ _) hne _ _ _ _)
      have h3f : pre [93] (t.drop j) = false := by simpa using h3
      have H3 := Lib.hid h3f
      have HSTOP : Hid (stops (t.drop j) = false) := by unfold Hid stops; rw [h1f, h2f, h3f]; rfl
      clear h3 h3f h2f h1f
      go_wp2_with fail
      go_at_call 41
      refine (begins_is p j t [45, 45] false _ hR hj H1.out).mono ?_; rintro e w2 ⟨rfl, hg⟩
      replace xr := xr.later hg
      replace xs := xs.later hg
      replace hR := boxAt.later hR hg
      replace hK := hK.trans (Kp.gr hg)
      clear hg
      go_wp2_with fail
      go_at_call 41
      refine (begins_is p j t [38, 38] false _ hR hj H2.out).mono ?_; rintro e w3 ⟨rfl, hg⟩
      replace xr := xr.later hg
      replace xs := xs.later hg
      replace hR := boxAt.later hR hg
      replace hK := hK.trans (Kp.gr hg)
      clear hg
      go_wp2_with fail
      go_at_call 41
      refine (begins_is p j t [93] false _ hR hj H3.out).mono ?_; rintro e w4 ⟨rfl, hg⟩
      replace xr := xr.later hg
      replace xs := xs.later hg
      replace hR := boxAt.later hR hg
      replace hK := hK.trans (Kp.gr hg)
      clear hg
      go_wp2_with fail
      go_at_call 54
      refine (item_any p j t es ed w4 hR hj hT (hS'.out.kept hK)).mono ?_; rintro e w5 ⟨hK2, hm⟩
      have hsz4 : w.heap.size + 1 < w4.heap.size := xs.lt (by simp)
      replace xr := xr.kept hK2 hne (by simp)
      replace xs := xs.kept hK2 hne2 (by simp)
      clear hR
      cases hx : itemP (t.drop j) with
      | bad d r =>
        rw [hx] at hm
        obtain ⟨s2, er, rfl, hr, hA⟩ := hm
        obtain ⟨ty, y, rfl⟩ := hr.iface
        have HX2 : Hid (X = .bad d r) := by unfold Hid; rw [HXY.out, ← hY.out, itemsF_bad _ HSTOP.out hx]; rfl
        have HR := Lib.hid hr
        clear hr hx
        have c_s0 := xs.cell 0 _ rfl
        have c_s1 := xs.cell 1 _ rfl
        have c_s2 := xs.cell 2 _ rfl
        have c_s3 := xs.cell 3 _ rfl
        have m_s0 := xs.mark 0 _ rfl
        have m_s1 := xs.mark 1 _ rfl
        have m_s2 := xs.mark 2 _ rfl
        have m_s3 := xs.mark 3 _ rfl
        have l_s := xs.lt (Nat.succ_pos _)
        have c_r0 := xr.cell 0 _ rfl
        have c_r1 := xr.cell 1 _ rfl
        have c_r2 := xr.cell 2 _ rfl
        have c_r3 := xr.cell 3 _ rfl
        have m_r0 := xr.mark 0 _ rfl
        have m_r1 := xr.mark 1 _ rfl
        have m_r2 := xr.mark 2 _ rfl
        have m_r3 := xr.mark 3 _ rfl
        have l_r := xr.lt (Nat.succ_pos _)
        go_wp2
        rw [Exit.noGoto_ret]
        refine name_end (fun W9 hW => ?_)
        have xr9 : boxAt W9 w.heap.size [.int .u64 (wd s 0), .int .u64 (wd s 1), .int .u64 (wd s 2), .int .u64 (wd s 3)] := by rw [hW]; exact boxAt.later (xr.put4 _ _ _ _) (Gr.alloc _ _)
        have hK9 : Kp p w W9 := by rw [hW]; exact ((hK.trans hK2).put4 (Nat.le_refl _) _ _ _ _).trans (Kp.gr (Gr.alloc _ _))
        have c_q0 := xr9.cell 0 _ rfl
        have c_q1 := xr9.cell 1 _ rfl
        have c_q2 := xr9.cell 2 _ rfl
        have c_q3 := xr9.cell 3 _ rfl
        have m_q0 := xr9.mark 0 _ rfl
        have m_q1 := xr9.mark 1 _ rfl
        have m_q2 := xr9.mark 2 _ rfl
        have m_q3 := xr9.mark 3 _ rfl
        have l_q := xr9.lt (Nat.succ_pos _)
        refine bodyPost_ret (v := .tuple #[.agg #[.int .u64 (wd s 0), .int .u64 (wd s 1), .int .u64 (wd s 2), .int .u64 (wd s 3)], .iface ty y]) (by simp [results, Tryd.results43, go_sem, c_q0, c_q1, c_q2, c_q3]) rfl ?_
        rw [HX2.out]
        refine RdEnd.bad' hK9 (Refused.mono (B := w4.heap.size) ?_ hK.size) (by rw [hW]; exact (hA.far4 hne _ _ _ _).later (Gr.alloc _ _))
        rw [hW]
        exact (HR.out.put4 _ (by omega) _ _ _ _).kept (Kp.gr (p := p) (Gr.alloc _ _)) (by omega)
      | ok x r =>
        rw [hx] at hm
        obtain ⟨rfl, hR⟩ := hm
        have hl := itemP_len (t.drop j)
        rw [hx] at hl
        obtain ⟨j0, hj1, hj2, rfl⟩ := hl
        rw [List.length_drop] at hj2
        have hY2 : Hid (itemsF ((t.drop j).drop j0) (s ||| x) = Y) := by unfold Hid; rw [← hY.out, itemsF_go s HSTOP.out hx]
        rw [List.drop_drop] at hR hY2
        have HJ2 := Lib.hid (show j + j0 ≤ t.length ∧ 1 ≤ j0 from ⟨by omega, hj1⟩)
        obtain ⟨j2, hj3⟩ : ∃ j2, j + j0 = j2 := ⟨_, rfl⟩
        rw [hj3] at hR hY2
        have hjl : j2 ≤ t.length := by omega
        rw [List.length_drop, show t.length - (t.length - j2) = j2 by omega] at hR
        replace hK := hK.trans hK2
        have HJ := Lib.hid (show j < j2 from by omega)
        clear hx hj1 hj2 hj3 hK2 HJ2
        have c_s0 := xs.cell 0 _ rfl
        have c_s1 := xs.cell 1 _ rfl
        have c_s2 := xs.cell 2 _ rfl
        have c_s3 := xs.cell 3 _ rfl
        have m_s0 := xs.mark 0 _ rfl
        have m_s1 := xs.mark 1 _ rfl
        have m_s2 := xs.mark 2 _ rfl
        have m_s3 := xs.mark 3 _ rfl
        have l_s := xs.lt (Nat.succ_pos _)
        go_wp2_with fail
        go_at_call 15
        refine name_calls (fun W6 hW => ?_)
        have hg : Gr w5 W6 := by rw [hW]; exact Gr.alloc _ _
        clear c_s0 c_s1 c_s2 c_s3 m_s0 m_s1 m_s2 m_s3 l_s
        replace xr := xr.later hg
        replace xs := xs.later hg
        replace hR := boxAt.later hR hg
        replace hK := hK.trans (Kp.gr hg)
        clear hg
        clear hW
        refine (union_any s x W6).mono ?_; rintro e w7 ⟨rfl, hg⟩
        replace xr := xr.later hg
        replace xs := xs.later hg
        replace hR := boxAt.later hR hg
        replace hK := hK.trans (Kp.gr hg)
        clear hg
        have c_s0 := xs.cell 0 _ rfl
        have c_s1 := xs.cell 1 _ rfl
        have c_s2 := xs.cell 2 _ rfl
        have c_s3 := xs.cell 3 _ rfl
        have m_s0 := xs.mark 0 _ rfl
        have m_s1 := xs.mark 1 _ rfl
        have m_s2 := xs.mark 2 _ rfl
        have m_s3 := xs.mark 3 _ rfl
        have l_s := xs.lt (Nat.succ_pos _)
        go_wp2_with fail
        go_roundw
        case rel => exact ⟨s ||| x, j2, hjl, by have := HJ.out; omega, hY2, boxAt.far4 hR hne2 _ _ _ _, hK.put4 (by omega) _ _ _ _, xr.far4 (by omega) _ _ _ _, xs.put4 _ _ _ _⟩
        case measure =>
          rw [Rdr.at (boxAt.far4 hR hne2 _ _ _ _), HAT.out]
          have := HJ.out; omega

end Go.Proofs.YtihjmeoklbmnmaaDoor
