/- Texts of mine, put together: N5B. No condition but what each says. -/
import Derived.Test.YtkkopdmemjncdaaGreatDoorPN5A
namespace Go.Proofs.YtkkopdmemjncdaaGreatDoor
open Go Go.RowKit
theorem counted_no {mn mx : Int} (h : mn < 0 ∨ 1073741824 < mn ∨ 1073741824 < mx ∨ (mx ≠ -1 ∧ mx < mn)) : countedB mn mx = false := by
 unfold countedB
 rw [Bool.eq_iff_iff]
 simp only [Bool.and_eq_true, Bool.or_eq_true, decide_eq_true_eq, Bool.false_eq_true, iff_false]
 omega
theorem counted_yes {mn mx : Int} (h1 : 0 ≤ mn) (h2 : mn ≤ 1073741824) (h3 : mx ≤ 1073741824) (h4 : mx = -1 ∨ mn ≤ mx) : countedB mn mx = true := by
 unfold countedB
 rw [Bool.eq_iff_iff]
 simp only [Bool.and_eq_true, Bool.or_eq_true, decide_eq_true_eq, iff_true]
 omega
set_option maxRecDepth 100000 in
set_option maxHeartbeats 16000000 in
theorem
    may5_any : ∀ k, ∀ (e : Ex), SizeOf.sizeOf e ≤ k → ∀ (cs : List Value) (w : World) (d : Nat) (z : Int), ExIn w e cs → d ≤ 2001 → z = 2001 - (d : Int) →
  Calls Tryz.prog 64 #[.agg cs.toArray, .int .i64 z] w fun e' w' => e' = .returned (.bool (mayE d e)) ∧ Gr w w' := by
 intro k
 induction k with
 | zero => intro e h; cases e; simp only [Ex.mk.sizeOf_spec] at h; omega
 |
  succ k ih
       =>
  intro e hk cs w d z he hd hz
  cases he with
  |
   mk op
      pos
        s
         text mn mx v l h1 h2 h3 h4 h5 hlen hs hn hb hargs =>
   obtain ⟨pv, cv, rfl⟩ := hs.len
   have HSZ := Lib.hid (fun p (hp : p ∈ l) => by
    have := Ex.size_arg (.mk op pos s text mn mx (l.map (·.1))) p.1 (List.mem_map.2 ⟨p, hp, rfl⟩)
    exact (show SizeOf.sizeOf p.1 ≤ k by omega))
   have HIH := Lib.hid ih
   have HS := Lib.hid hs
   have HA := Lib.hid hargs
   have HLEN := Lib.hid hlen
   have hnm0 : l.length ≤ 140737488351232 := by omega
   obtain ⟨n, hn0⟩ : ∃ n, l.length = n := ⟨_, rfl⟩
   have HLL := Lib.hid hn0
   have HLN := Lib.hid (show (l.map (·.1)).length = n by rw [List.length_map]; exact hn0)
   have hnm : (n : Int) ≤ 140737488351232 := by omega
   have HZ := Lib.hid hz
   have hz0 : 0 ≤ z := by omega
   have hz1 : z ≤ 2001 := by omega
   rw [hn0]
   have HNM := Lib.hid (fun w' => named5_any text w' h5)
   have HPL := Lib.hid (fun w' => place5_any pos w')
   have HNO := Lib.hid (fun (h : flatE d op pos s text mn mx n = false) => may_no (deep := d) (op := op) (pos := pos) (s := s) (text := text) (mn := mn) (mx := mx) (args := l.map (·.1)) (by rw [HLN.out]; exact h))
   have HYES := Lib.hid (fun (h : flatE d op pos s text mn mx n = true) => may_yes (deep := d) (op := op) (pos := pos) (s := s) (text := text) (mn := mn) (mx := mx) (args := l.map (·.1)) (by rw [HLN.out]; exact h))
   obtain ⟨R, hR⟩ : ∃ R, mayE d (.mk op pos s text mn mx (l.map (·.1))) = R := ⟨_, rfl⟩
   rw [hR] at HNO HYES ⊢
   clear ih hk h1 h2 h3 h4 h5 hlen hs hn hb hargs hn0 hR hnm0 hz
   unfold exCells
   by_cases hdd : 2000 < d
   ·
    have hdI : z < 1 := by have := HZ.out; omega
    have HF := Lib.hid (HNO.out (by unfold flatE; rw [decide_eq_false (by omega)]; rfl))
    go_enter Tryz.func64, Tryz.ntmps64
    go_wp2_with fail
    go_ret
    exact ⟨ret_bool HF.out.symm, Gr.alloc _ _⟩
   have hdI : ¬ z < 1 := by have := HZ.out; omega
   have HD2 := Lib.hid (show d ≤ 2000 by omega)
   have HE1 := Lib.hid (show decide (d ≤ 2000) = true from decide_eq_true (by omega))
   clear hdd
   by_cases o1 : op < 1
   ·
    have HF := Lib.hid (HNO.out (by unfold flatE kindE; simp [show ¬ op = 1 by omega, show ¬ op = 2 by omega, show ¬ op = 3 by omega, show ¬ op = 4 by omega, show ¬ op = 5 by omega, show ¬ op = 6 by omega, show ¬ op = 7 by omega]))
    go_enter Tryz.func64, Tryz.ntmps64
    go_wp2_with fail
    go_ret
    exact ⟨ret_bool HF.out.symm, Gr.alloc _ _⟩
   by_cases o2 : (7 : Int) < op
   ·
    have HF := Lib.hid (HNO.out (by unfold flatE kindE; simp [show ¬ op = 1 by omega, show ¬ op = 2 by omega, show ¬ op = 3 by omega, show ¬ op = 4 by omega, show ¬ op = 5 by omega, show ¬ op = 6 by omega, show ¬ op = 7 by omega]))
    go_enter Tryz.func64, Tryz.ntmps64
    go_wp2_with fail
    go_ret
    exact ⟨ret_bool HF.out.symm, Gr.alloc _ _⟩
   go_enter Tryz.func64, Tryz.ntmps64
   go_wp2_with fail
   go_at_call 63
   refine name_calls (fun W hW => ?_)
   have xb : boxAt W w.heap.size [.int .i64 op, .int .i64 pos, .int .u64 (wd s 0), .int .u64 (wd s 1), .int .u64 (wd s 2), .int .u64 (wd s 3), .string text, .int .i64 mn, .int .i64 mx, .slice pv n cv] := by rw [hW]; exact boxAt.new_atN _ _ _ rfl rfl
   have hgW : Gr w W := by rw [hW]; exact Gr.alloc _ _
   clear hW
   obtain ⟨eb, heb⟩ : ∃ b, w.heap.size = b := ⟨_, rfl⟩
   rw [heb] at xb
   simp only [heb]
   clear heb
   obtain ⟨c_e0, c_e1, c_e2, c_e3, c_e4, c_e5, c_e6, c_e7, c_e8, c_e9, m_e0, m_e1, m_e2, m_e3, m_e4, m_e5, m_e6, m_e7, m_e8, m_e9, l_e⟩ := unb10 xb
   (with_reducible refine (HPL.out W).mono ?_); rintro e w1 ⟨rfl, hw1⟩; subst w1
   cases hp : placedB pos with
   |
    false =>
    have HF := Lib.hid (HNO.out (by unfold flatE; rw [HE1.out, hp]; rfl))
    go_wp2_with fail
    go_ret
    exact ⟨ret_bool HF.out.symm, hgW⟩
   |
    true =>
    have HP := Lib.hid hp
    clear hp
    have HST : Hid (∀ b : Bool, (s == emptyS) = b → decide (s = 0#256) = b) := Lib.hid (fun b h => by rw [← h, Bool.eq_iff_iff]; simp [emptyS])
    obtain ⟨bs, hbs⟩ : ∃ b, (s == emptyS) = b := ⟨_, rfl⟩
    have HS0 := Lib.hid (HST.out bs hbs)
    have hbs2 : (s != emptyS) = !bs := by rw [← hbs]; rfl
    clear HST
    have XB := Lib.hid xb
    rcases (show op = 1 ∨ op = 2 ∨ op = 3 ∨ op = 4 ∨ op = 5 ∨ op = 6 ∨ op = 7 from by omega) with rfl | rfl | rfl | rfl | rfl | rfl | rfl
    all_goals clear o1 o2
    ·
     cases
        bs
     ·
      have HF := Lib.hid (HNO.out (by unfold flatE kindE; simp [HE1.out, HP.out, HS0.out]))
      go_wp2_with fail
      go_ret
      exact ⟨ret_bool HF.out.symm, hgW⟩
     by_cases h_tx : text.size = 0
     rotate_left
     ·
      have HF := Lib.hid (HNO.out (by unfold flatE kindE; simp [HE1.out, HP.out, HS0.out, h_tx]))
      have z_tx : text.toList.isEmpty = false := isE_no h_tx
      clear h_tx
      go_wp2_with fail
      go_ret
      exact ⟨ret_bool HF.out.symm, hgW⟩
     have z_tx : text.toList.isEmpty = true := isE_yes h_tx
     have HTX := Lib.hid h_tx
     clear h_tx
     by_cases h_mn : mn = 0
     rotate_left
     ·
      have HF := Lib.hid (HNO.out (by unfold flatE kindE; simp [HE1.out, HP.out, HS0.out, HTX.out, h_mn]))
      have z_mn : (mn != 0) = true := by rw [bne_iff_ne]; exact h_mn
      clear h_mn
      go_wp2_with fail
      go_ret
      exact ⟨ret_bool HF.out.symm, hgW⟩
     have z_mn : (mn != 0) = false := by rw [h_mn]; rfl
     have HMN := Lib.hid h_mn
     clear h_mn
     by_cases h_mx : mx = 0
     rotate_left
     ·
      have HF := Lib.hid (HNO.out (by unfold flatE kindE; simp [HE1.out, HP.out, HS0.out, HTX.out, HMN.out, h_mx]))
      have z_mx : (mx != 0) = true := by rw [bne_iff_ne]; exact h_mx
      clear h_mx
      go_wp2_with fail
      go_ret
      exact ⟨ret_bool HF.out.symm, hgW⟩
     have z_mx : (mx != 0) = false := by rw [h_mx]; rfl
     have HMX := Lib.hid h_mx
     clear h_mx
     by_cases h_n0 : n = 0
     rotate_left
     ·
      have HF := Lib.hid (HNO.out (by unfold flatE kindE; simp [HE1.out, HP.out, HS0.out, HTX.out, HMN.out, HMX.out, h_n0]))
      have z_n0 : (0 : Int) < (n : Int) := by omega
      clear h_n0
      go_wp2_with fail
      go_ret
      exact ⟨ret_bool HF.out.symm, hgW⟩
     have z_n0 : ¬ (0 : Int) < (n : Int) := by omega
     have HN0 := Lib.hid h_n0
     clear h_n0
     have HB := Lib.hid (HYES.out (by unfold flatE kindE; simp [HE1.out, HP.out, HS0.out, HTX.out, HMN.out, HMX.out, HN0.out]))
     go_wp2_with fail
     clear c_e0 c_e1 c_e2 c_e3 c_e4 c_e5 c_e6 c_e7 c_e8 c_e9 m_e0 m_e1 m_e2 m_e3 m_e4 m_e5 m_e6 m_e7 m_e8 m_e9 l_e
     clear xb
     go_loopw [5] (fun i wr => ∃ j : Nat, j ≤ n ∧ i = .int .i64 (j : Int) ∧ Gr W wr ∧ Hid (((l.map (·.1)).take j).all (mayE (d + 1)) = true)) (fun i _ => n - (intOf i).toNat)
     case atStart => exact ⟨0, Nat.zero_le _, rfl, Gr.refl _, Lib.hid rfl⟩
     case round =>
      obtain ⟨j, hj, rfl, hg, HAL⟩ := hrel
      have xb := XB.out.later hg
      obtain ⟨c_e0, c_e1, c_e2, c_e3, c_e4, c_e5, c_e6, c_e7, c_e8, c_e9, m_e0, m_e1, m_e2, m_e3, m_e4, m_e5, m_e6, m_e7, m_e8, m_e9, l_e⟩ := unb10 xb
      by_cases hlt : j < n
      · exact absurd hlt (by have := HN0.out; omega)
      ·
       have hjI : ¬ (j : Int) < (n : Int) := by omega
       have HF := Lib.hid (show R = true by
        have h := HAL.out
        rw [List.take_of_length_le (by rw [HLN.out]; omega)] at h
        rw [HB.out]; exact h)
       clear hlt hj
       go_wp2_with fail
       go_ret
       exact ⟨ret_bool HF.out.symm, hgW.trans hg⟩
    ·
     by_cases h_tx : text.size = 0
     rotate_left
     ·
      have HF := Lib.hid (HNO.out (by unfold flatE kindE; simp [HE1.out, HP.out, h_tx]))
      have z_tx : text.toList.isEmpty = false := isE_no h_tx
      clear h_tx
      go_wp2_with fail
      go_ret
      exact ⟨ret_bool HF.out.symm, hgW⟩
     have z_tx : text.toList.isEmpty = true := isE_yes h_tx
     have HTX := Lib.hid h_tx
     clear h_tx
     by_cases h_mn : mn = 0
     rotate_left
     ·
      have HF := Lib.hid (HNO.out (by unfold flatE kindE; simp [HE1.out, HP.out, HTX.out, h_mn]))
      have z_mn : (mn != 0) = true := by rw [bne_iff_ne]; exact h_mn
      clear h_mn
      go_wp2_with fail
      go_ret
      exact ⟨ret_bool HF.out.symm, hgW⟩
     have z_mn : (mn != 0) = false := by rw [h_mn]; rfl
     have HMN := Lib.hid h_mn
     clear h_mn
     by_cases h_mx : mx = 0
     rotate_left
     ·
      have HF := Lib.hid (HNO.out (by unfold flatE kindE; simp [HE1.out, HP.out, HTX.out, HMN.out, h_mx]))
      have z_mx : (mx != 0) = true := by rw [bne_iff_ne]; exact h_mx
      clear h_mx
      go_wp2_with fail
      go_ret
      exact ⟨ret_bool HF.out.symm, hgW⟩
     have z_mx : (mx != 0) = false := by rw [h_mx]; rfl
     have HMX := Lib.hid h_mx
     clear h_mx
     by_cases h_n0 : n = 0
     rotate_left
     ·
      have HF := Lib.hid (HNO.out (by unfold flatE kindE; simp [HE1.out, HP.out, HTX.out, HMN.out, HMX.out, h_n0]))
      have z_n0 : (0 : Int) < (n : Int) := by omega
      clear h_n0
      go_wp2_with fail
      go_ret
      exact ⟨ret_bool HF.out.symm, hgW⟩
     have z_n0 : ¬ (0 : Int) < (n : Int) := by omega
     have HN0 := Lib.hid h_n0
     clear h_n0
     have HB := Lib.hid (HYES.out (by unfold flatE kindE; simp [HE1.out, HP.out, HTX.out, HMN.out, HMX.out, HN0.out]))
     go_wp2_with fail
     clear c_e0 c_e1 c_e2 c_e3 c_e4 c_e5 c_e6 c_e7 c_e8 c_e9 m_e0 m_e1 m_e2 m_e3 m_e4 m_e5 m_e6 m_e7 m_e8 m_e9 l_e
     clear xb
     go_loopw [5] (fun i wr => ∃ j : Nat, j ≤ n ∧ i = .int .i64 (j : Int) ∧ Gr W wr ∧ Hid (((l.map (·.1)).take j).all (mayE (d + 1)) = true)) (fun i _ => n - (intOf i).toNat)
     case atStart => exact ⟨0, Nat.zero_le _, rfl, Gr.refl _, Lib.hid rfl⟩
     case round =>
      obtain ⟨j, hj, rfl, hg, HAL⟩ := hrel
      have xb := XB.out.later hg
      obtain ⟨c_e0, c_e1, c_e2, c_e3, c_e4, c_e5, c_e6, c_e7, c_e8, c_e9, m_e0, m_e1, m_e2, m_e3, m_e4, m_e5, m_e6, m_e7, m_e8, m_e9, l_e⟩ := unb10 xb
      by_cases hlt : j < n
      · exact absurd hlt (by have := HN0.out; omega)
      ·
       have hjI : ¬ (j : Int) < (n : Int) := by omega
       have HF := Lib.hid (show R = true by
        have h := HAL.out
        rw [List.take_of_length_le (by rw [HLN.out]; omega)] at h
        rw [HB.out]; exact h)
       clear hlt hj
       go_wp2_with fail
       go_ret
       exact ⟨ret_bool HF.out.symm, hgW.trans hg⟩
    ·
     cases
        bs
     ·
      have HF := Lib.hid (HNO.out (by unfold flatE kindE; simp [HE1.out, HP.out, HS0.out]))
      go_wp2_with fail
      go_ret
      exact ⟨ret_bool HF.out.symm, hgW⟩
     by_cases h_tn : text.size ≠ 0
     rotate_left
     ·
      have HF := Lib.hid (HNO.out (by unfold flatE kindE; simp [HE1.out, HP.out, HS0.out, h_tn]))
      have z_tn : text.toList.isEmpty = true := isE_yes (Classical.not_not.1 h_tn)
      clear h_tn
      go_wp2_with fail
      go_ret
      exact ⟨ret_bool HF.out.symm, hgW⟩
     have z_tn : text.toList.isEmpty = false := isE_no h_tn
     have HTN := Lib.hid h_tn
     clear h_tn
     by_cases h_mn : mn = 0
     rotate_left
     ·
      have HF := Lib.hid (HNO.out (by unfold flatE kindE; simp [HE1.out, HP.out, HS0.out, HTN.out, h_mn]))
      have z_mn : (mn != 0) = true := by rw [bne_iff_ne]; exact h_mn
      clear h_mn
      go_wp2_with fail
      go_ret
      exact ⟨ret_bool HF.out.symm, hgW⟩
     have z_mn : (mn != 0) = false := by rw [h_mn]; rfl
     have HMN := Lib.hid h_mn
     clear h_mn
     by_cases h_mx : mx = 0
     rotate_left
     ·
      have HF := Lib.hid (HNO.out (by unfold flatE kindE; simp [HE1.out, HP.out, HS0.out, HTN.out, HMN.out, h_mx]))
      have z_mx : (mx != 0) = true := by rw [bne_iff_ne]; exact h_mx
      clear h_mx
      go_wp2_with fail
      go_ret
      exact ⟨ret_bool HF.out.symm, hgW⟩
     have z_mx : (mx != 0) = false := by rw [h_mx]; rfl
     have HMX := Lib.hid h_mx
     clear h_mx
     by_cases h_n0 : n = 0
     rotate_left
     ·
      have HF := Lib.hid (HNO.out (by unfold flatE kindE; simp [HE1.out, HP.out, HS0.out, HTN.out, HMN.out, HMX.out, h_n0]))
      have z_n0 : (0 : Int) < (n : Int) := by omega
      clear h_n0
      go_wp2_with fail
      go_ret
      exact ⟨ret_bool HF.out.symm, hgW⟩
     have z_n0 : ¬ (0 : Int) < (n : Int) := by omega
     have HN0 := Lib.hid h_n0
     clear h_n0
     have HB := Lib.hid (HYES.out (by unfold flatE kindE; simp [HE1.out, HP.out, HS0.out, HTN.out, HMN.out, HMX.out, HN0.out]))
     go_wp2_with fail
     clear c_e0 c_e1 c_e2 c_e3 c_e4 c_e5 c_e6 c_e7 c_e8 c_e9 m_e0 m_e1 m_e2 m_e3 m_e4 m_e5 m_e6 m_e7 m_e8 m_e9 l_e
     clear xb
     go_loopw [5] (fun i wr => ∃ j : Nat, j ≤ n ∧ i = .int .i64 (j : Int) ∧ Gr W wr ∧ Hid (((l.map (·.1)).take j).all (mayE (d + 1)) = true)) (fun i _ => n - (intOf i).toNat)
     case atStart => exact ⟨0, Nat.zero_le _, rfl, Gr.refl _, Lib.hid rfl⟩
     case round =>
      obtain ⟨j, hj, rfl, hg, HAL⟩ := hrel
      have xb := XB.out.later hg
      obtain ⟨c_e0, c_e1, c_e2, c_e3, c_e4, c_e5, c_e6, c_e7, c_e8, c_e9, m_e0, m_e1, m_e2, m_e3, m_e4, m_e5, m_e6, m_e7, m_e8, m_e9, l_e⟩ := unb10 xb
      by_cases hlt : j < n
      · exact absurd hlt (by have := HN0.out; omega)
      ·
       have hjI : ¬ (j : Int) < (n : Int) := by omega
       have HF := Lib.hid (show R = true by
        have h := HAL.out
        rw [List.take_of_length_le (by rw [HLN.out]; omega)] at h
        rw [HB.out]; exact h)
       clear hlt hj
       go_wp2_with fail
       go_ret
       exact ⟨ret_bool HF.out.symm, hgW.trans hg⟩
    ·
     cases
        bs
     ·
      have HF := Lib.hid (HNO.out (by unfold flatE kindE; simp [HE1.out, HP.out, HS0.out]))
      go_wp2_with fail
      go_ret
      exact ⟨ret_bool HF.out.symm, hgW⟩
     cases hnm : namedB text
     ·
      have HF := Lib.hid (HNO.out (by unfold flatE kindE; simp [HE1.out, HP.out, HS0.out, hnm]))
      have HNB := Lib.hid (hnm ▸ HNM.out)
      clear hnm
      go_wp2_with fail
      go_at_call 62
      (with_reducible refine (HNB.out _).mono ?_); rintro e w1 ⟨rfl, hw1⟩; subst w1
      go_wp2_with fail
      go_ret
      exact ⟨ret_bool HF.out.symm, hgW⟩
     have HNN := Lib.hid hnm
     have HNB := Lib.hid (hnm ▸ HNM.out)
     clear hnm
     go_wp2_with fail
     go_at_call 62
     (with_reducible refine (HNB.out _).mono ?_); rintro e w1 ⟨rfl, hw1⟩; subst w1
     by_cases h_mn : mn = 0
     rotate_left
     ·
      have HF := Lib.hid (HNO.out (by unfold flatE kindE; simp [HE1.out, HP.out, HS0.out, HNN.out, h_mn]))
      have z_mn : (mn != 0) = true := by rw [bne_iff_ne]; exact h_mn
      clear h_mn
      go_wp2_with fail
      go_ret
      exact ⟨ret_bool HF.out.symm, hgW⟩
     have z_mn : (mn != 0) = false := by rw [h_mn]; rfl
     have HMN := Lib.hid h_mn
     clear h_mn
     by_cases h_mx : mx = 0
     rotate_left
     ·
      have HF := Lib.hid (HNO.out (by unfold flatE kindE; simp [HE1.out, HP.out, HS0.out, HNN.out, HMN.out, h_mx]))
      have z_mx : (mx != 0) = true := by rw [bne_iff_ne]; exact h_mx
      clear h_mx
      go_wp2_with fail
      go_ret
      exact ⟨ret_bool HF.out.symm, hgW⟩
     have z_mx : (mx != 0) = false := by rw [h_mx]; rfl
     have HMX := Lib.hid h_mx
     clear h_mx
     by_cases h_n0 : n = 0
     rotate_left
     ·
      have HF := Lib.hid (HNO.out (by unfold flatE kindE; simp [HE1.out, HP.out, HS0.out, HNN.out, HMN.out, HMX.out, h_n0]))
      have z_n0 : (0 : Int) < (n : Int) := by omega
      clear h_n0
      go_wp2_with fail
      go_ret
      exact ⟨ret_bool HF.out.symm, hgW⟩
     have z_n0 : ¬ (0 : Int) < (n : Int) := by omega
     have HN0 := Lib.hid h_n0
     clear h_n0
     have HB := Lib.hid (HYES.out (by unfold flatE kindE; simp [HE1.out, HP.out, HS0.out, HNN.out, HMN.out, HMX.out, HN0.out]))
     go_wp2_with fail
     clear c_e0 c_e1 c_e2 c_e3 c_e4 c_e5 c_e6 c_e7 c_e8 c_e9 m_e0 m_e1 m_e2 m_e3 m_e4 m_e5 m_e6 m_e7 m_e8 m_e9 l_e
     clear xb
     go_loopw [5] (fun i wr => ∃ j : Nat, j ≤ n ∧ i = .int .i64 (j : Int) ∧ Gr W wr ∧ Hid (((l.map (·.1)).take j).all (mayE (d + 1)) = true)) (fun i _ => n - (intOf i).toNat)
     case atStart => exact ⟨0, Nat.zero_le _, rfl, Gr.refl _, Lib.hid rfl⟩
     case round =>
      obtain ⟨j, hj, rfl, hg, HAL⟩ := hrel
      have xb := XB.out.later hg
      obtain ⟨c_e0, c_e1, c_e2, c_e3, c_e4, c_e5, c_e6, c_e7, c_e8, c_e9, m_e0, m_e1, m_e2, m_e3, m_e4, m_e5, m_e6, m_e7, m_e8, m_e9, l_e⟩ := unb10 xb
      by_cases hlt : j < n
      · exact absurd hlt (by have := HN0.out; omega)
      ·
       have hjI : ¬ (j : Int) < (n : Int) := by omega
       have HF := Lib.hid (show R = true by
        have h := HAL.out
        rw [List.take_of_length_le (by rw [HLN.out]; omega)] at h
        rw [HB.out]; exact h)
       clear hlt hj
       go_wp2_with fail
       go_ret
       exact ⟨ret_bool HF.out.symm, hgW.trans hg⟩
    ·
     cases
        bs
     ·
      have HF := Lib.hid (HNO.out (by unfold flatE kindE; simp [HE1.out, HP.out, HS0.out]))
      go_wp2_with fail
      go_ret
      exact ⟨ret_bool HF.out.symm, hgW⟩
     by_cases h_tx : text.size = 0
     rotate_left
     ·
      have HF := Lib.hid (HNO.out (by unfold flatE kindE; simp [HE1.out, HP.out, HS0.out, h_tx]))
      have z_tx : text.toList.isEmpty = false := isE_no h_tx
      clear h_tx
      go_wp2_with fail
      go_ret
      exact ⟨ret_bool HF.out.symm, hgW⟩
     have z_tx : text.toList.isEmpty = true := isE_yes h_tx
     have HTX := Lib.hid h_tx
     clear h_tx
     by_cases h_mn : mn = 0
     rotate_left
     ·
      have HF := Lib.hid (HNO.out (by unfold flatE kindE; simp [HE1.out, HP.out, HS0.out, HTX.out, h_mn]))
      have z_mn : (mn != 0) = true := by rw [bne_iff_ne]; exact h_mn
      clear h_mn
      go_wp2_with fail
      go_ret
      exact ⟨ret_bool HF.out.symm, hgW⟩
     have z_mn : (mn != 0) = false := by rw [h_mn]; rfl
     have HMN := Lib.hid h_mn
     clear h_mn
     by_cases h_mx : mx = 0
     rotate_left
     ·
      have HF := Lib.hid (HNO.out (by unfold flatE kindE; simp [HE1.out, HP.out, HS0.out, HTX.out, HMN.out, h_mx]))
      have z_mx : (mx != 0) = true := by rw [bne_iff_ne]; exact h_mx
      clear h_mx
      go_wp2_with fail
      go_ret
      exact ⟨ret_bool HF.out.symm, hgW⟩
     have z_mx : (mx != 0) = false := by rw [h_mx]; rfl
     have HMX := Lib.hid h_mx
     clear h_mx
     by_cases h_n2 : 1 < n
     rotate_left
     ·
      have HF := Lib.hid (HNO.out (by unfold flatE kindE; simp [HE1.out, HP.out, HS0.out, HTX.out, HMN.out, HMX.out, h_n2]))
      have z_n2 : (n : Int) < 2 := by omega
      clear h_n2
      go_wp2_with fail
      go_ret
      exact ⟨ret_bool HF.out.symm, hgW⟩
     have z_n2 : ¬ (n : Int) < 2 := by omega
     have HN2 := Lib.hid h_n2
     clear h_n2
     have HB := Lib.hid (HYES.out (by unfold flatE kindE; simp [HE1.out, HP.out, HS0.out, HTX.out, HMN.out, HMX.out, HN2.out]))
     go_wp2_with fail
     clear c_e0 c_e1 c_e2 c_e3 c_e4 c_e5 c_e6 c_e7 c_e8 c_e9 m_e0 m_e1 m_e2 m_e3 m_e4 m_e5 m_e6 m_e7 m_e8 m_e9 l_e
     clear xb
     go_loopw [5] (fun i wr => ∃ j : Nat, j ≤ n ∧ i = .int .i64 (j : Int) ∧ Gr W wr ∧ Hid (((l.map (·.1)).take j).all (mayE (d + 1)) = true)) (fun i _ => n - (intOf i).toNat)
     case atStart => exact ⟨0, Nat.zero_le _, rfl, Gr.refl _, Lib.hid rfl⟩
     case round =>
      obtain ⟨j, hj, rfl, hg, HAL⟩ := hrel
      have xb := XB.out.later hg
      obtain ⟨c_e0, c_e1, c_e2, c_e3, c_e4, c_e5, c_e6, c_e7, c_e8, c_e9, m_e0, m_e1, m_e2, m_e3, m_e4, m_e5, m_e6, m_e7, m_e8, m_e9, l_e⟩ := unb10 xb
      by_cases hlt : j < n
      ·
       obtain ⟨b2, off, op2, pos2, s2, text2, mn2, mx2, p3, n3, c3, a, rfl, hbW, ha, hin, hat⟩ := args_at HS.out HLEN.out HA.out j (by rw [HLL.out]; exact hlt)
       have haj : (l.map (·.1))[j]? = some a := by rw [List.getElem?_map, ha]; rfl
       have HSA := Lib.hid (HSZ.out _ (List.mem_of_getElem? ha))
       obtain ⟨hbr, hcell⟩ := hat wr (hgW.trans hg)
       unfold exCells at hcell
       have d0 := hcell 0 _ (by omega) rfl
       have d1 := hcell 1 _ (by omega) rfl
       have d2 := hcell 2 _ (by omega) rfl
       have d3 := hcell 3 _ (by omega) rfl
       have d4 := hcell 4 _ (by omega) rfl
       have d5 := hcell 5 _ (by omega) rfl
       have d6 := hcell 6 _ (by omega) rfl
       have d7 := hcell 7 _ (by omega) rfl
       have d8 := hcell 8 _ (by omega) rfl
       have d9 := hcell 9 _ (by omega) rfl
       simp only [Nat.add_zero] at d0
       have HC := Lib.hid (HIH.out a HSA.out _ wr (d + 1) (z - 1) (hin.later (hgW.trans hg)) (by have := HD2.out; omega) (by have := HZ.out; omega))
       have HTK := Lib.hid (show ((l.map (·.1)).take (j + 1)).all (mayE (d + 1)) = mayE (d + 1) a by rw [List.take_add_one, haj]; simp only [Option.toList_some, List.all_append, HAL.out, List.all_cons, List.all_nil, Bool.true_and, Bool.and_true])
       have HNB := Lib.hid (fun h : mayE (d + 1) a = false => (show R = false by rw [HB.out]; exact List.all_eq_false.2 ⟨a, List.mem_of_getElem? haj, by rw [h]; simp⟩))
       unfold exCells at HC
       try dsimp only at HC
       have hjI : (j : Int) < (n : Int) := by omega
       have HLT := Lib.hid hlt
       obtain ⟨q, hq⟩ : ∃ q, mayE (d + 1) a = q := ⟨_, rfl⟩
       rw [hq] at HC HTK HNB
       clear hlt hcell hin hat ha hj hbW haj hq
       go_wp2_with fail
       go_at_call 64
       (with_reducible refine HC.out.mono ?_); rintro e w3 ⟨rfl, hg3⟩
       have hg4 := hg.trans hg3
       clear c_e0 c_e1 c_e2 c_e3 c_e4 c_e5 c_e6 c_e7 c_e8 c_e9 m_e0 m_e1 m_e2 m_e3 m_e4 m_e5 m_e6 m_e7 m_e8 m_e9 l_e
       clear hg3 d0 d1 d2 d3 d4 d5 d6 d7 d8 d9 hbr xb HC
       cases q with
       |
        true =>
        go_wp2_with fail
        go_roundw
        case rel => exact ⟨j + 1, by have := HLT.out; omega, by go_num, hg4, HTK⟩
        case measure => have := HLT.out; simp [intOf]; omega
       |
        false =>
        have HF := Lib.hid (HNB.out rfl)
        go_wp2_with fail
        go_ret
        exact ⟨ret_bool HF.out.symm, hgW.trans hg4⟩
      ·
       have hjI : ¬ (j : Int) < (n : Int) := by omega
       have HF := Lib.hid (show R = true by
        have h := HAL.out
        rw [List.take_of_length_le (by rw [HLN.out]; omega)] at h
        rw [HB.out]; exact h)
       clear hlt hj
       go_wp2_with fail
       go_ret
       exact ⟨ret_bool HF.out.symm, hgW.trans hg⟩
    ·
     cases
        bs
     ·
      have HF := Lib.hid (HNO.out (by unfold flatE kindE; simp [HE1.out, HP.out, HS0.out]))
      go_wp2_with fail
      go_ret
      exact ⟨ret_bool HF.out.symm, hgW⟩
     by_cases h_tx : text.size = 0
     rotate_left
     ·
      have HF := Lib.hid (HNO.out (by unfold flatE kindE; simp [HE1.out, HP.out, HS0.out, h_tx]))
      have z_tx : text.toList.isEmpty = false := isE_no h_tx
      clear h_tx
      go_wp2_with fail
      go_ret
      exact ⟨ret_bool HF.out.symm, hgW⟩
     have z_tx : text.toList.isEmpty = true := isE_yes h_tx
     have HTX := Lib.hid h_tx
     clear h_tx
     by_cases h_mn : mn = 0
     rotate_left
     ·
      have HF := Lib.hid (HNO.out (by unfold flatE kindE; simp [HE1.out, HP.out, HS0.out, HTX.out, h_mn]))
      have z_mn : (mn != 0) = true := by rw [bne_iff_ne]; exact h_mn
      clear h_mn
      go_wp2_with fail
      go_ret
      exact ⟨ret_bool HF.out.symm, hgW⟩
     have z_mn : (mn != 0) = false := by rw [h_mn]; rfl
     have HMN := Lib.hid h_mn
     clear h_mn
     by_cases h_mx : mx = 0
     rotate_left
     ·
      have HF := Lib.hid (HNO.out (by unfold flatE kindE; simp [HE1.out, HP.out, HS0.out, HTX.out, HMN.out, h_mx]))
      have z_mx : (mx != 0) = true := by rw [bne_iff_ne]; exact h_mx
      clear h_mx
      go_wp2_with fail
      go_ret
      exact ⟨ret_bool HF.out.symm, hgW⟩
     have z_mx : (mx != 0) = false := by rw [h_mx]; rfl
     have HMX := Lib.hid h_mx
     clear h_mx
     by_cases h_n2 : 1 < n
     rotate_left
     ·
      have HF := Lib.hid (HNO.out (by unfold flatE kindE; simp [HE1.out, HP.out, HS0.out, HTX.out, HMN.out, HMX.out, h_n2]))
      have z_n2 : (n : Int) < 2 := by omega
      clear h_n2
      go_wp2_with fail
      go_ret
      exact ⟨ret_bool HF.out.symm, hgW⟩
     have z_n2 : ¬ (n : Int) < 2 := by omega
     have HN2 := Lib.hid h_n2
     clear h_n2
     have HB := Lib.hid (HYES.out (by unfold flatE kindE; simp [HE1.out, HP.out, HS0.out, HTX.out, HMN.out, HMX.out, HN2.out]))
     go_wp2_with fail
     clear c_e0 c_e1 c_e2 c_e3 c_e4 c_e5 c_e6 c_e7 c_e8 c_e9 m_e0 m_e1 m_e2 m_e3 m_e4 m_e5 m_e6 m_e7 m_e8 m_e9 l_e
     clear xb
     go_loopw [5] (fun i wr => ∃ j : Nat, j ≤ n ∧ i = .int .i64 (j : Int) ∧ Gr W wr ∧ Hid (((l.map (·.1)).take j).all (mayE (d + 1)) = true)) (fun i _ => n - (intOf i).toNat)
     case atStart => exact ⟨0, Nat.zero_le _, rfl, Gr.refl _, Lib.hid rfl⟩
     case round =>
      obtain ⟨j, hj, rfl, hg, HAL⟩ := hrel
      have xb := XB.out.later hg
      obtain ⟨c_e0, c_e1, c_e2, c_e3, c_e4, c_e5, c_e6, c_e7, c_e8, c_e9, m_e0, m_e1, m_e2, m_e3, m_e4, m_e5, m_e6, m_e7, m_e8, m_e9, l_e⟩ := unb10 xb
      by_cases hlt : j < n
      ·
       obtain ⟨b2, off, op2, pos2, s2, text2, mn2, mx2, p3, n3, c3, a, rfl, hbW, ha, hin, hat⟩ := args_at HS.out HLEN.out HA.out j (by rw [HLL.out]; exact hlt)
       have haj : (l.map (·.1))[j]? = some a := by rw [List.getElem?_map, ha]; rfl
       have HSA := Lib.hid (HSZ.out _ (List.mem_of_getElem? ha))
       obtain ⟨hbr, hcell⟩ := hat wr (hgW.trans hg)
       unfold exCells at hcell
       have d0 := hcell 0 _ (by omega) rfl
       have d1 := hcell 1 _ (by omega) rfl
       have d2 := hcell 2 _ (by omega) rfl
       have d3 := hcell 3 _ (by omega) rfl
       have d4 := hcell 4 _ (by omega) rfl
       have d5 := hcell 5 _ (by omega) rfl
       have d6 := hcell 6 _ (by omega) rfl
       have d7 := hcell 7 _ (by omega) rfl
       have d8 := hcell 8 _ (by omega) rfl
       have d9 := hcell 9 _ (by omega) rfl
       simp only [Nat.add_zero] at d0
       have HC := Lib.hid (HIH.out a HSA.out _ wr (d + 1) (z - 1) (hin.later (hgW.trans hg)) (by have := HD2.out; omega) (by have := HZ.out; omega))
       have HTK := Lib.hid (show ((l.map (·.1)).take (j + 1)).all (mayE (d + 1)) = mayE (d + 1) a by rw [List.take_add_one, haj]; simp only [Option.toList_some, List.all_append, HAL.out, List.all_cons, List.all_nil, Bool.true_and, Bool.and_true])
       have HNB := Lib.hid (fun h : mayE (d + 1) a = false => (show R = false by rw [HB.out]; exact List.all_eq_false.2 ⟨a, List.mem_of_getElem? haj, by rw [h]; simp⟩))
       unfold exCells at HC
       try dsimp only at HC
       have hjI : (j : Int) < (n : Int) := by omega
       have HLT := Lib.hid hlt
       obtain ⟨q, hq⟩ : ∃ q, mayE (d + 1) a = q := ⟨_, rfl⟩
       rw [hq] at HC HTK HNB
       clear hlt hcell hin hat ha hj hbW haj hq
       go_wp2_with fail
       go_at_call 64
       (with_reducible refine HC.out.mono ?_); rintro e w3 ⟨rfl, hg3⟩
       have hg4 := hg.trans hg3
       clear c_e0 c_e1 c_e2 c_e3 c_e4 c_e5 c_e6 c_e7 c_e8 c_e9 m_e0 m_e1 m_e2 m_e3 m_e4 m_e5 m_e6 m_e7 m_e8 m_e9 l_e
       clear hg3 d0 d1 d2 d3 d4 d5 d6 d7 d8 d9 hbr xb HC
       cases q with
       |
        true =>
        go_wp2_with fail
        go_roundw
        case rel => exact ⟨j + 1, by have := HLT.out; omega, by go_num, hg4, HTK⟩
        case measure => have := HLT.out; simp [intOf]; omega
       |
        false =>
        have HF := Lib.hid (HNB.out rfl)
        go_wp2_with fail
        go_ret
        exact ⟨ret_bool HF.out.symm, hgW.trans hg4⟩
      ·
       have hjI : ¬ (j : Int) < (n : Int) := by omega
       have HF := Lib.hid (show R = true by
        have h := HAL.out
        rw [List.take_of_length_le (by rw [HLN.out]; omega)] at h
        rw [HB.out]; exact h)
       clear hlt hj
       go_wp2_with fail
       go_ret
       exact ⟨ret_bool HF.out.symm, hgW.trans hg⟩
    ·
     cases
        bs
     ·
      have HF := Lib.hid (HNO.out (by unfold flatE kindE; simp [HE1.out, HP.out, HS0.out]))
      go_wp2_with fail
      go_ret
      exact ⟨ret_bool HF.out.symm, hgW⟩
     by_cases h_tx : text.size = 0
     rotate_left
     ·
      have HF := Lib.hid (HNO.out (by unfold flatE kindE; simp [HE1.out, HP.out, HS0.out, h_tx]))
      have z_tx : text.toList.isEmpty = false := isE_no h_tx
      clear h_tx
      go_wp2_with fail
      go_ret
      exact ⟨ret_bool HF.out.symm, hgW⟩
     have z_tx : text.toList.isEmpty = true := isE_yes h_tx
     have HTX := Lib.hid h_tx
     clear h_tx
     by_cases h_c1 : 0 ≤ mn
     rotate_left
     ·
      have z_c1 : mn < 0 := by omega
      have HCN := Lib.hid (counted_no (mn := mn) (mx := mx) (.inl z_c1))
      have HF := Lib.hid (HNO.out (by unfold flatE kindE; simp [HE1.out, HP.out, HS0.out, HTX.out, HCN.out]))
      go_wp2_with fail
      go_ret
      exact ⟨ret_bool HF.out.symm, hgW⟩
     have z_c1 : ¬ mn < 0 := by omega
     have HC1 := Lib.hid h_c1
     clear h_c1
     by_cases h_c2 : mn ≤ 1073741824
     rotate_left
     ·
      have z_c2 : (1073741824 : Int) < mn := by omega
      have HCN := Lib.hid (counted_no (mn := mn) (mx := mx) (.inr (.inl z_c2)))
      have HF := Lib.hid (HNO.out (by unfold flatE kindE; simp [HE1.out, HP.out, HS0.out, HTX.out, HCN.out]))
      go_wp2_with fail
      go_ret
      exact ⟨ret_bool HF.out.symm, hgW⟩
     have z_c2 : ¬ (1073741824 : Int) < mn := by omega
     have HC2 := Lib.hid h_c2
     clear h_c2
     by_cases h_c3 : mx ≤ 1073741824
     rotate_left
     ·
      have z_c3 : (1073741824 : Int) < mx := by omega
      have HCN := Lib.hid (counted_no (mn := mn) (mx := mx) (.inr (.inr (.inl z_c3))))
      have HF := Lib.hid (HNO.out (by unfold flatE kindE; simp [HE1.out, HP.out, HS0.out, HTX.out, HCN.out]))
      go_wp2_with fail
      go_ret
      exact ⟨ret_bool HF.out.symm, hgW⟩
     have z_c3 : ¬ (1073741824 : Int) < mx := by omega
     have HC3 := Lib.hid h_c3
     clear h_c3
     rcases (show (mx = -1) ∨ (mx ≠ -1 ∧ mx < mn) ∨ (mx ≠ -1 ∧ mn ≤ mx) by omega) with h_c4 | ⟨h_c4, h_c5⟩ | ⟨h_c4, h_c5⟩
     rotate_left
     ·
      have z_c4 : (mx != -1) = true := by rw [bne_iff_ne]; exact h_c4
      have HCN := Lib.hid (counted_no (mn := mn) (mx := mx) (.inr (.inr (.inr ⟨h_c4, h_c5⟩))))
      have HF := Lib.hid (HNO.out (by unfold flatE kindE; simp [HE1.out, HP.out, HS0.out, HTX.out, HCN.out]))
      go_wp2_with fail
      go_ret
      exact ⟨ret_bool HF.out.symm, hgW⟩
     focus
      have z_c4 : (mx != -1) = true := by rw [bne_iff_ne]; exact h_c4
      have z_c5 : ¬ mx < mn := by omega
      have HCN := Lib.hid (counted_yes (mn := mn) (mx := mx) HC1.out HC2.out HC3.out (by omega))
      by_cases h_n1 : n = 1
      rotate_left
      ·
       have HF := Lib.hid (HNO.out (by unfold flatE kindE; simp [HE1.out, HP.out, HS0.out, HTX.out, HCN.out, h_n1]))
       have z_n1 : ((n : Int) != 1) = true := by rw [bne_iff_ne]; omega
       go_wp2_with fail
       go_ret
       exact ⟨ret_bool HF.out.symm, hgW⟩
      have z_n1 : ((n : Int) != 1) = false := by rw [h_n1]; rfl
      have HN1 := Lib.hid h_n1
      clear h_n1
      have HB := Lib.hid (HYES.out (by unfold flatE kindE; simp [HE1.out, HP.out, HS0.out, HTX.out, HCN.out, HN1.out]))
      go_wp2_with fail
      clear c_e0 c_e1 c_e2 c_e3 c_e4 c_e5 c_e6 c_e7 c_e8 c_e9 m_e0 m_e1 m_e2 m_e3 m_e4 m_e5 m_e6 m_e7 m_e8 m_e9 l_e
      clear xb
      go_loopw [5] (fun i wr => ∃ j : Nat, j ≤ n ∧ i = .int .i64 (j : Int) ∧ Gr W wr ∧ Hid (((l.map (·.1)).take j).all (mayE (d + 1)) = true)) (fun i _ => n - (intOf i).toNat)
      case atStart => exact ⟨0, Nat.zero_le _, rfl, Gr.refl _, Lib.hid rfl⟩
      case round =>
       obtain ⟨j, hj, rfl, hg, HAL⟩ := hrel
       have xb := XB.out.later hg
       obtain ⟨c_e0, c_e1, c_e2, c_e3, c_e4, c_e5, c_e6, c_e7, c_e8, c_e9, m_e0, m_e1, m_e2, m_e3, m_e4, m_e5, m_e6, m_e7, m_e8, m_e9, l_e⟩ := unb10 xb
       by_cases hlt : j < n
       ·
        obtain ⟨b2, off, op2, pos2, s2, text2, mn2, mx2, p3, n3, c3, a, rfl, hbW, ha, hin, hat⟩ := args_at HS.out HLEN.out HA.out j (by rw [HLL.out]; exact hlt)
        have haj : (l.map (·.1))[j]? = some a := by rw [List.getElem?_map, ha]; rfl
        have HSA := Lib.hid (HSZ.out _ (List.mem_of_getElem? ha))
        obtain ⟨hbr, hcell⟩ := hat wr (hgW.trans hg)
        unfold exCells at hcell
        have d0 := hcell 0 _ (by omega) rfl
        have d1 := hcell 1 _ (by omega) rfl
        have d2 := hcell 2 _ (by omega) rfl
        have d3 := hcell 3 _ (by omega) rfl
        have d4 := hcell 4 _ (by omega) rfl
        have d5 := hcell 5 _ (by omega) rfl
        have d6 := hcell 6 _ (by omega) rfl
        have d7 := hcell 7 _ (by omega) rfl
        have d8 := hcell 8 _ (by omega) rfl
        have d9 := hcell 9 _ (by omega) rfl
        simp only [Nat.add_zero] at d0
        have HC := Lib.hid (HIH.out a HSA.out _ wr (d + 1) (z - 1) (hin.later (hgW.trans hg)) (by have := HD2.out; omega) (by have := HZ.out; omega))
        have HTK := Lib.hid (show ((l.map (·.1)).take (j + 1)).all (mayE (d + 1)) = mayE (d + 1) a by rw [List.take_add_one, haj]; simp only [Option.toList_some, List.all_append, HAL.out, List.all_cons, List.all_nil, Bool.true_and, Bool.and_true])
        have HNB := Lib.hid (fun h : mayE (d + 1) a = false => (show R = false by rw [HB.out]; exact List.all_eq_false.2 ⟨a, List.mem_of_getElem? haj, by rw [h]; simp⟩))
        unfold exCells at HC
        try dsimp only at HC
        have hjI : (j : Int) < (n : Int) := by omega
        have HLT := Lib.hid hlt
        obtain ⟨q, hq⟩ : ∃ q, mayE (d + 1) a = q := ⟨_, rfl⟩
        rw [hq] at HC HTK HNB
        clear hlt hcell hin hat ha hj hbW haj hq
        go_wp2_with fail
        go_at_call 64
        (with_reducible refine HC.out.mono ?_); rintro e w3 ⟨rfl, hg3⟩
        have hg4 := hg.trans hg3
        clear c_e0 c_e1 c_e2 c_e3 c_e4 c_e5 c_e6 c_e7 c_e8 c_e9 m_e0 m_e1 m_e2 m_e3 m_e4 m_e5 m_e6 m_e7 m_e8 m_e9 l_e
        clear hg3 d0 d1 d2 d3 d4 d5 d6 d7 d8 d9 hbr xb HC
        cases q with
        |
         true =>
         go_wp2_with fail
         go_roundw
         case rel => exact ⟨j + 1, by have := HLT.out; omega, by go_num, hg4, HTK⟩
         case measure => have := HLT.out; simp [intOf]; omega
        |
         false =>
         have HF := Lib.hid (HNB.out rfl)
         go_wp2_with fail
         go_ret
         exact ⟨ret_bool HF.out.symm, hgW.trans hg4⟩
       ·
        have hjI : ¬ (j : Int) < (n : Int) := by omega
        have HF := Lib.hid (show R = true by
         have h := HAL.out
         rw [List.take_of_length_le (by rw [HLN.out]; omega)] at h
         rw [HB.out]; exact h)
        clear hlt hj
        go_wp2_with fail
        go_ret
        exact ⟨ret_bool HF.out.symm, hgW.trans hg⟩
     focus
      have z_c4 : (mx != -1) = false := by rw [h_c4]; rfl
      have HCN := Lib.hid (counted_yes (mn := mn) (mx := mx) HC1.out HC2.out HC3.out (by omega))
      by_cases h_n1 : n = 1
      rotate_left
      ·
       have HF := Lib.hid (HNO.out (by unfold flatE kindE; simp [HE1.out, HP.out, HS0.out, HTX.out, HCN.out, h_n1]))
       have z_n1 : ((n : Int) != 1) = true := by rw [bne_iff_ne]; omega
       go_wp2_with fail
       go_ret
       exact ⟨ret_bool HF.out.symm, hgW⟩
      have z_n1 : ((n : Int) != 1) = false := by rw [h_n1]; rfl
      have HN1 := Lib.hid h_n1
      clear h_n1
      have HB := Lib.hid (HYES.out (by unfold flatE kindE; simp [HE1.out, HP.out, HS0.out, HTX.out, HCN.out, HN1.out]))
      go_wp2_with fail
      clear c_e0 c_e1 c_e2 c_e3 c_e4 c_e5 c_e6 c_e7 c_e8 c_e9 m_e0 m_e1 m_e2 m_e3 m_e4 m_e5 m_e6 m_e7 m_e8 m_e9 l_e
      clear xb
      go_loopw [5] (fun i wr => ∃ j : Nat, j ≤ n ∧ i = .int .i64 (j : Int) ∧ Gr W wr ∧ Hid (((l.map (·.1)).take j).all (mayE (d + 1)) = true)) (fun i _ => n - (intOf i).toNat)
      case atStart => exact ⟨0, Nat.zero_le _, rfl, Gr.refl _, Lib.hid rfl⟩
      case round =>
       obtain ⟨j, hj, rfl, hg, HAL⟩ := hrel
       have xb := XB.out.later hg
       obtain ⟨c_e0, c_e1, c_e2, c_e3, c_e4, c_e5, c_e6, c_e7, c_e8, c_e9, m_e0, m_e1, m_e2, m_e3, m_e4, m_e5, m_e6, m_e7, m_e8, m_e9, l_e⟩ := unb10 xb
       by_cases hlt : j < n
       ·
        obtain ⟨b2, off, op2, pos2, s2, text2, mn2, mx2, p3, n3, c3, a, rfl, hbW, ha, hin, hat⟩ := args_at HS.out HLEN.out HA.out j (by rw [HLL.out]; exact hlt)
        have haj : (l.map (·.1))[j]? = some a := by rw [List.getElem?_map, ha]; rfl
        have HSA := Lib.hid (HSZ.out _ (List.mem_of_getElem? ha))
        obtain ⟨hbr, hcell⟩ := hat wr (hgW.trans hg)
        unfold exCells at hcell
        have d0 := hcell 0 _ (by omega) rfl
        have d1 := hcell 1 _ (by omega) rfl
        have d2 := hcell 2 _ (by omega) rfl
        have d3 := hcell 3 _ (by omega) rfl
        have d4 := hcell 4 _ (by omega) rfl
        have d5 := hcell 5 _ (by omega) rfl
        have d6 := hcell 6 _ (by omega) rfl
        have d7 := hcell 7 _ (by omega) rfl
        have d8 := hcell 8 _ (by omega) rfl
        have d9 := hcell 9 _ (by omega) rfl
        simp only [Nat.add_zero] at d0
        have HC := Lib.hid (HIH.out a HSA.out _ wr (d + 1) (z - 1) (hin.later (hgW.trans hg)) (by have := HD2.out; omega) (by have := HZ.out; omega))
        have HTK := Lib.hid (show ((l.map (·.1)).take (j + 1)).all (mayE (d + 1)) = mayE (d + 1) a by rw [List.take_add_one, haj]; simp only [Option.toList_some, List.all_append, HAL.out, List.all_cons, List.all_nil, Bool.true_and, Bool.and_true])
        have HNB := Lib.hid (fun h : mayE (d + 1) a = false => (show R = false by rw [HB.out]; exact List.all_eq_false.2 ⟨a, List.mem_of_getElem? haj, by rw [h]; simp⟩))
        unfold exCells at HC
        try dsimp only at HC
        have hjI : (j : Int) < (n : Int) := by omega
        have HLT := Lib.hid hlt
        obtain ⟨q, hq⟩ : ∃ q, mayE (d + 1) a = q := ⟨_, rfl⟩
        rw [hq] at HC HTK HNB
        clear hlt hcell hin hat ha hj hbW haj hq
        go_wp2_with fail
        go_at_call 64
        (with_reducible refine HC.out.mono ?_); rintro e w3 ⟨rfl, hg3⟩
        have hg4 := hg.trans hg3
        clear c_e0 c_e1 c_e2 c_e3 c_e4 c_e5 c_e6 c_e7 c_e8 c_e9 m_e0 m_e1 m_e2 m_e3 m_e4 m_e5 m_e6 m_e7 m_e8 m_e9 l_e
        clear hg3 d0 d1 d2 d3 d4 d5 d6 d7 d8 d9 hbr xb HC
        cases q with
        |
         true =>
         go_wp2_with fail
         go_roundw
         case rel => exact ⟨j + 1, by have := HLT.out; omega, by go_num, hg4, HTK⟩
         case measure => have := HLT.out; simp [intOf]; omega
        |
         false =>
         have HF := Lib.hid (HNB.out rfl)
         go_wp2_with fail
         go_ret
         exact ⟨ret_bool HF.out.symm, hgW.trans hg4⟩
       ·
        have hjI : ¬ (j : Int) < (n : Int) := by omega
        have HF := Lib.hid (show R = true by
         have h := HAL.out
         rw [List.take_of_length_le (by rw [HLN.out]; omega)] at h
         rw [HB.out]; exact h)
        clear hlt hj
        go_wp2_with fail
        go_ret
        exact ⟨ret_bool HF.out.symm, hgW.trans hg⟩
end Go.Proofs.YtkkopdmemjncdaaGreatDoor
