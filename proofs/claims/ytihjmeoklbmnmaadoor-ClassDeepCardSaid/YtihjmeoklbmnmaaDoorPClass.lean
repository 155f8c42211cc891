/- class: class. No condition but a length's bound. Printed by gen_class.py. -/
import Derived.Test.YtihjmeoklbmnmaaDoorPItems
namespace Go.Proofs.YtihjmeoklbmnmaaDoor
open Go Go.RowKit

/-- What a class stands at, between its tails. -/
def ClsSt (es ed : Value) (p o k0 : Nat) (t : List UInt8) (X : Rd) (B : Nat) (s : BitVec 256) (er : Value) (w : World) : Prop :=
  (er = .nilIface ∧ ∃ j, k0 ≤ j ∧ j ≤ t.length ∧ tailsF o (t.drop j) s = X ∧ Rdr w p t j) ∨
  (∃ d r, X = .bad d r ∧ Refused w B (refE es ed d) er ((t.length - r.length : Nat) : Int) ∧ Any w p t)
theorem ClsSt.later {es ed : Value} {p o k0 : Nat} {t : List UInt8} {X : Rd} {B : Nat} {s : BitVec 256} {er : Value} {w w' : World} (h : ClsSt es ed p o k0 t X B s er w) (hG : Gr w w') (hp : p < B) : ClsSt es ed p o k0 t X B s er w' := by
  rcases h with ⟨h1, j, h0, h2, h3, h4⟩ | ⟨d, r, h1, h2, h3⟩
  · exact .inl ⟨h1, j, h0, h2, h3, boxAt.later h4 hG⟩
  · exact .inr ⟨d, r, h1, h2.kept (Kp.gr (p := p) hG) hp, h3.later hG⟩
theorem ClsSt.far4 {es ed : Value} {p o k0 : Nat} {t : List UInt8} {X : Rd} {B : Nat} {s : BitVec 256} {er : Value} {w : World} (h : ClsSt es ed p o k0 t X B s er w) (c : Nat) (hc : c ≠ p) (hB : c < B) (v0 v1 v2 v3 : Value) :
    ClsSt es ed p o k0 t X B s er ((((w.setCell ⟨c, 0, none⟩ v0).setCell ⟨c, 1, none⟩ v1).setCell ⟨c, 2, none⟩ v2).setCell ⟨c, 3, none⟩ v3) := by
  rcases h with ⟨h1, j, h0, h2, h3, h4⟩ | ⟨d, r, h1, h2, h3⟩
  · exact .inl ⟨h1, j, h0, h2, h3, boxAt.far4 h4 hc _ _ _ _⟩
  · exact .inr ⟨d, r, h1, h2.put4 c hB _ _ _ _, h3.far4 hc _ _ _ _⟩
theorem ClsSt.mono {es ed : Value} {p o k0 k1 : Nat} {t : List UInt8} {X : Rd} {B B' : Nat} {s : BitVec 256} {er : Value} {w : World} (h : ClsSt es ed p o k0 t X B s er w) (hk : k1 ≤ k0) (hB : B' ≤ B) : ClsSt es ed p o k1 t X B' s er w := by
  rcases h with ⟨h1, j, h0, h2, h3, h4⟩ | ⟨d, r, h1, h2, h3⟩
  · exact .inl ⟨h1, j, by omega, h2, h3, h4⟩
  · exact .inr ⟨d, r, h1, h2.mono hB, h3⟩
/-- How far a class has still to go. -/
def goOf (er : Value) (n : Nat) : Nat := match er with
  | .nilIface => n + 1
  | _ => 0
theorem ClsSt.less {es ed : Value} {p o k0 j : Nat} {t : List UInt8} {X : Rd} {B : Nat} {s : BitVec 256} {er : Value} {w w0 : World} (h : ClsSt es ed p o k0 t X B s er w) (hj : atOf p w0 = j) (hjk : j < k0) :
    goOf er (t.length - atOf p w) < goOf .nilIface (t.length - atOf p w0) := by
  rcases h with ⟨rfl, j', h0, h2, h3, h4⟩ | ⟨d, r, h1, h2, h3⟩
  · show t.length - atOf p w + 1 < t.length - atOf p w0 + 1
    rw [Rdr.at h4, hj]; omega
  · obtain ⟨ty, y, rfl⟩ := h2.iface
    show 0 < t.length - atOf p w0 + 1
    omega
theorem size_set (w : World) (a : Addr) (v : Value) : (w.setCell a v).heap.size = w.heap.size := by simp [World.setCell]
theorem set4_size (w : World) (b : Nat) (v0 v1 v2 v3 : Value) : ((((w.setCell ⟨b, 0, none⟩ v0).setCell ⟨b, 1, none⟩ v1).setCell ⟨b, 2, none⟩ v2).setCell ⟨b, 3, none⟩ v3).heap.size = w.heap.size := by
  rw [size_set, size_set, size_set, size_set]

set_option maxRecDepth 100000 in
set_option maxHeartbeats 16000000 in
theorem class_any (t : List UInt8) (es ed : Value) (hT : (t.length : Int) ≤ 4294967280) : ∀ (n o k p : Nat) (w : World), Rdr w p t k → k ≤ t.length → (t.drop k).length < n → o ≤ 40 → Sy w p es ed →
    Calls Tryd.prog 31 #[.pointer (some ⟨p, 0, none⟩), .int .i64 (o : Int)] w (RdEnd es ed p t w (classF o (t.drop k))) := by
  intro n
  induction n with
  | zero => intro o k p w _ _ h; exact absurd h (Nat.not_lt_zero _)
  | succ n ih =>
    intro o k p w h hk hn ho hS
    have IH := Lib.hid ih
    have hS' := Lib.hid hS
    have H0 := Lib.hid h
    have lp := boxAt.lt h (Nat.succ_pos _)
    have hne : w.heap.size ≠ p := by omega
    have HNL := Lib.hid hn
    clear hS h ih hn
    obtain ⟨X, hX⟩ : ∃ X, classF o (t.drop k) = X := ⟨_, rfl⟩
    rw [hX]
    by_cases hb : pre [91] (t.drop k) = true
    rotate_left
    · have hbf : pre [91] (t.drop k) = false := by simpa using hb
      rw [classF_none o _ hbf] at hX
      have HX := Lib.hid hX.symm
      have HB := Lib.hid hbf
      clear hX hb hbf
      go_enter Tryd.func31, Tryd.ntmps31
      go_wp2_with fail
      go_at_call 41
      refine name_calls (fun W hW => ?_)
      have xr : boxAt W w.heap.size [.int .u64 0, .int .u64 0, .int .u64 0, .int .u64 0] := boxAt.new _ _ hW
      have hgW : Gr w W := by rw [hW]; exact Gr.alloc _ _
      have hR : Rdr W p t k := boxAt.later H0.out hgW
      have hK : Kp p w W := Kp.gr hgW
      clear hW hgW
      refine (begins_is p k t [91] false W hR hk HB.out).mono ?_; rintro e w1 ⟨rfl, hg⟩
      replace xr := xr.later hg
      replace hR := boxAt.later hR hg
      replace hK := hK.trans (Kp.gr hg)
      clear hg
      have c1 := boxAt.cell hR 1 _ rfl
      have lp1 := boxAt.lt hR (Nat.succ_pos _)
      have hl1 : w.heap.size < w1.heap.size := xr.lt (by simp)
      go_wp2_with fail
      go_at_call 33
      refine (syntax_any _ p es ed w1 (hS'.out.kept hK) lp1).mono ?_; rintro e w2 ⟨er, rfl, hr, hg⟩
      obtain ⟨ty, y, rfl⟩ := hr.iface
      have HR := Lib.hid hr
      replace xr := xr.later hg
      clear hr c1
      have c_r0 := xr.cell 0 _ rfl
      have c_r1 := xr.cell 1 _ rfl
      have c_r2 := xr.cell 2 _ rfl
      have c_r3 := xr.cell 3 _ rfl
      have m_r0 := xr.mark 0 _ rfl
      have m_r1 := xr.mark 1 _ rfl
      have m_r2 := xr.mark 2 _ rfl
      have m_r3 := xr.mark 3 _ rfl
      have l_r := xr.lt (Nat.succ_pos _)
      go_wp2
      refine name_end (fun W9 hW => ?_)
      have xr9 : boxAt W9 w.heap.size [.int .u64 (wd emptyS 0), .int .u64 (wd emptyS 1), .int .u64 (wd emptyS 2), .int .u64 (wd emptyS 3)] := by rw [hW]; simp only [wd_zero]; exact xr.put4 _ _ _ _
      have hK9 : Kp p w W9 := by rw [hW]; exact (hK.trans (Kp.gr hg)).put4 (Nat.le_refl _) _ _ _ _
      have c_q0 := xr9.cell 0 _ rfl
      have c_q1 := xr9.cell 1 _ rfl
      have c_q2 := xr9.cell 2 _ rfl
      have c_q3 := xr9.cell 3 _ rfl
      have m_q0 := xr9.mark 0 _ rfl
      have m_q1 := xr9.mark 1 _ rfl
      have m_q2 := xr9.mark 2 _ rfl
      have m_q3 := xr9.mark 3 _ rfl
      have l_q := xr9.lt (Nat.succ_pos _)
      refine bodyPost_ret (v := .tuple #[.agg #[.int .u64 (wd emptyS 0), .int .u64 (wd emptyS 1), .int .u64 (wd emptyS 2), .int .u64 (wd emptyS 3)], .iface ty y]) (by simp [results, Tryd.results31, go_sem, c_q0, c_q1, c_q2, c_q3]) rfl ?_
      refine RdEnd.bad (j := k) HX.out hk hK9 (Refused.mono (B := w1.heap.size) ?_ hK.size) (by rw [hW]; exact Any.far4 ⟨_, boxAt.later hR hg⟩ hne _ _ _ _)
      rw [hW]; exact HR.out.put4 _ hl1 _ _ _ _
    have HB := Lib.hid hb
    by_cases ho2 : 40 ≤ o
    · rw [classF_deep o _ hb ho2] at hX
      have HX := Lib.hid hX.symm
      have hoI : (40 : Int) ≤ (o : Int) := by omega
      clear hX hb ho2 ho
      go_enter Tryd.func31, Tryd.ntmps31
      go_wp2_with fail
      go_at_call 41
      refine name_calls (fun W hW => ?_)
      have xr : boxAt W w.heap.size [.int .u64 0, .int .u64 0, .int .u64 0, .int .u64 0] := boxAt.new _ _ hW
      have hgW : Gr w W := by rw [hW]; exact Gr.alloc _ _
      have hR : Rdr W p t k := boxAt.later H0.out hgW
      have hK : Kp p w W := Kp.gr hgW
      clear hW hgW
      refine (begins_is p k t [91] true W hR hk HB.out).mono ?_; rintro e w1 ⟨rfl, hg⟩
      replace xr := xr.later hg
      replace hR := boxAt.later hR hg
      replace hK := hK.trans (Kp.gr hg)
      clear hg
      have hs1 := hS'.out.kept hK
      have hde := hs1.deep
      have hdl := World.block_lt_of_cell? _ _ hde
      obtain ⟨ty, y, he⟩ := hs1.deepI
      rw [he] at hde
      have HE := Lib.hid he
      have c1 := boxAt.cell hR 1 _ rfl
      have lp1 := boxAt.lt hR (Nat.succ_pos _)
      have HR1 := Lib.hid hR
      clear hs1 he
      go_wp2_with fail
      have c_r0 := xr.cell 0 _ rfl
      have c_r1 := xr.cell 1 _ rfl
      have c_r2 := xr.cell 2 _ rfl
      have c_r3 := xr.cell 3 _ rfl
      have m_r0 := xr.mark 0 _ rfl
      have m_r1 := xr.mark 1 _ rfl
      have m_r2 := xr.mark 2 _ rfl
      have m_r3 := xr.mark 3 _ rfl
      have l_r := xr.lt (Nat.succ_pos _)
      go_region_with (go_at_call 42; (with_reducible refine (place_any _ _ _ _).mono ?_); rintro e w2 ⟨rfl, hb2, hg2⟩; have hc := ((Gr.drew w1).trans hg2).cells; have hm := ((Gr.drew w1).trans hg2).marks)
      all_goals
        go_wp2
        refine name_end (fun W9 hW => ?_)
        have xr9 : boxAt W9 w.heap.size [.int .u64 (wd emptyS 0), .int .u64 (wd emptyS 1), .int .u64 (wd emptyS 2), .int .u64 (wd emptyS 3)] := by rw [hW]; simp only [wd_zero]; exact (xr.later ((Gr.drew w1).trans hg2)).put4 _ _ _ _
        have hK9 : Kp p w W9 := by rw [hW]; exact (hK.trans (Kp.gr ((Gr.drew w1).trans hg2))).put4 (Nat.le_refl _) _ _ _ _
        have c_q0 := xr9.cell 0 _ rfl
        have c_q1 := xr9.cell 1 _ rfl
        have c_q2 := xr9.cell 2 _ rfl
        have c_q3 := xr9.cell 3 _ rfl
        have m_q0 := xr9.mark 0 _ rfl
        have m_q1 := xr9.mark 1 _ rfl
        have m_q2 := xr9.mark 2 _ rfl
        have m_q3 := xr9.mark 3 _ rfl
        have l_q := xr9.lt (Nat.succ_pos _)
        refine bodyPost_ret (v := .tuple #[.agg #[.int .u64 (wd emptyS 0), .int .u64 (wd emptyS 1), .int .u64 (wd emptyS 2), .int .u64 (wd emptyS 3)], _]) (by simp [results, Tryd.results31, go_sem, c_q0, c_q1, c_q2, c_q3]; rfl) rfl ?_
        refine RdEnd.bad (j := k) HX.out hk hK9 (Refused.mono (B := w1.heap.size) ?_ hK.size) (by rw [hW]; exact Any.far4 ⟨_, boxAt.later HR1.out ((Gr.drew w1).trans hg2)⟩ hne _ _ _ _)
        rw [hW]
        refine Refused.put4 ⟨_, rfl, ?_, Nat.le_refl _⟩ _ l_r _ _ _ _
        show boxAt w2 _ [ed, _]
        rw [HE.out]; exact hb2
    have hoI : ¬ (40 : Int) ≤ (o : Int) := by omega
    obtain ⟨k1, hk1⟩ : ∃ x, k + 1 = x := ⟨_, rfl⟩
    have hk1l : k1 ≤ t.length := by have := pre_len hb; rw [List.length_drop] at this; simp at this; omega
    have hw1 : IntKind.i64.wrap ((k : Int) + 1) = (k1 : Int) := by rw [IntWalk.i64_in _ (by omega)]; omega
    obtain ⟨o1, ho1⟩ : ∃ x, o + 1 = x := ⟨_, rfl⟩
    have hwo : IntKind.i64.wrap ((o : Int) + 1) = (o1 : Int) := by rw [IntWalk.i64_in _ (by omega)]; omega
    have hdk : (t.drop k).drop 1 = t.drop k1 := by rw [List.drop_drop, hk1]
    have HK1 := Lib.hid (show k + 1 = k1 ∧ o + 1 = o1 ∧ o < 40 ∧ (t.drop k).drop 1 = t.drop k1 from ⟨hk1, ho1, by omega, hdk⟩)
    have HX := Lib.hid hX
    clear hX hb ho2 ho hk1 ho1 hdk
    go_enter Tryd.func31, Tryd.ntmps31
    go_wp2_with fail
    go_at_call 41
    refine name_calls (fun W hW => ?_)
    have xr : boxAt W w.heap.size [.int .u64 0, .int .u64 0, .int .u64 0, .int .u64 0] := boxAt.new _ _ hW
    have hgW : Gr w W := by rw [hW]; exact Gr.alloc _ _
    have hR : Rdr W p t k := boxAt.later H0.out hgW
    have hK : Kp p w W := Kp.gr hgW
    clear hW hgW
    refine (begins_is p k t [91] true W hR hk HB.out).mono ?_; rintro e w1 ⟨rfl, hg⟩
    replace xr := xr.later hg
    replace hR := boxAt.later hR hg
    replace hK := hK.trans (Kp.gr hg)
    clear hg
    have c1 := boxAt.cell hR 1 _ rfl
    have m1 := boxAt.mark hR 1 _ rfl
    have lp1 := boxAt.lt hR (Nat.succ_pos _)
    go_wp2_with fail
    go_at_call 43
    refine name_calls (fun W2 hW => ?_)
    replace xr : boxAt W2 w.heap.size [.int .u64 0, .int .u64 0, .int .u64 0, .int .u64 0] := by rw [hW]; exact xr.far ⟨p, 1, none⟩ _ (by show p ≠ _; omega)
    replace hR : Rdr W2 p t k1 := by rw [hW]; exact boxAt.put hR 1 _ (by simp)
    replace hK : Kp p w W2 := by rw [hW]; exact hK.at_p 1 _
    clear hW c1 m1 lp1
    have hl2 : w.heap.size < W2.heap.size := xr.lt (by simp)
    refine (items_any p k1 t es ed W2 hR hk1l hT (hS'.out.kept hK)).mono ?_; rintro e w5 ⟨hK2, hm⟩
    replace xr := xr.kept hK2 hne (by simp)
    obtain ⟨s0, er0, rfl, hst⟩ : ∃ s0 er0, e = .returned (.tuple #[.agg #[.int .u64 (wd s0 0), .int .u64 (wd s0 1), .int .u64 (wd s0 2), .int .u64 (wd s0 3)], er0]) ∧ ClsSt es ed p o k1 t X (w.heap.size + 1) s0 er0 w5 := by
      cases hx : headP (t.drop k1) with
      | ok s r =>
        rw [hx] at hm
        obtain ⟨rfl, hR5⟩ := hm
        have hl := headP_len (t.drop k1)
        rw [hx] at hl
        obtain ⟨j0, _, hj2, rfl⟩ := hl
        rw [List.length_drop] at hj2
        refine ⟨s, .nilIface, rfl, .inl ⟨rfl, k1 + j0, by omega, by omega, ?_, ?_⟩⟩
        · rw [← HX.out, classF_ok HB.out (by have := HK1.out; omega) (by rw [HK1.out.2.2.2]; exact hx), List.drop_drop]
        · rw [List.drop_drop, List.length_drop, show t.length - (t.length - (k1 + j0)) = k1 + j0 by omega] at hR5; exact hR5
      | bad d r =>
        rw [hx] at hm
        obtain ⟨s, er, rfl, hr, hA⟩ := hm
        exact ⟨s, er, rfl, .inr ⟨d, r, by rw [← HX.out, classF_bad HB.out (by have := HK1.out; omega) (by rw [HK1.out.2.2.2]; exact hx)], hr.mono (by omega), hA⟩⟩
    replace hK := hK.trans hK2
    have hl5 : w.heap.size < w5.heap.size := xr.lt (by simp)
    clear hm hK2 hR
    go_wp2_with fail
    refine name_world (fun W6 hW => ?_)
    have xs : boxAt W6 w5.heap.size [.int .u64 (wd s0 0), .int .u64 (wd s0 1), .int .u64 (wd s0 2), .int .u64 (wd s0 3)] := boxAt.new _ _ hW
    have hg : Gr w5 W6 := by rw [hW]; exact Gr.alloc _ _
    replace xr := xr.later hg
    replace hst := hst.later hg (by omega)
    replace hK := hK.trans (Kp.gr hg)
    clear hW hg
    have hlp5 : p < w5.heap.size := by omega
    go_loopw [7] (fun er wr => ∃ s : BitVec 256, boxAt wr w.heap.size [.int .u64 0, .int .u64 0, .int .u64 0, .int .u64 0] ∧ boxAt wr w5.heap.size [.int .u64 (wd s 0), .int .u64 (wd s 1), .int .u64 (wd s 2), .int .u64 (wd s 3)] ∧ Kp p w wr ∧ ClsSt es ed p o k1 t X (w.heap.size + 1) s er wr) (fun er wr => goOf er (t.length - atOf p wr))
    case atStart => exact ⟨s0, xr, xs, hK, hst⟩
    case round =>
      clear xr xs hK hst
      obtain ⟨s, xr, xs, hK, hst⟩ := hrel
      have hl6 : w5.heap.size < wr.heap.size := xs.lt (by simp)
      rcases hst with ⟨rfl, j, hge, hj, hY, hR⟩ | ⟨d, r, hXb, hr, hA⟩
      · have HY := Lib.hid hY
        have HAT := Lib.hid (Rdr.at hR)
        have HGE := Lib.hid (show k + 1 ≤ j from by have := HK1.out; omega)
        clear hY
        by_cases h3 : pre [93] (t.drop j) = true
        · have H3 := Lib.hid h3
          obtain ⟨j1, hj1⟩ : ∃ x, j + 1 = x := ⟨_, rfl⟩
          have hj1l : j1 ≤ t.length := by have := pre_len h3; rw [List.length_drop] at this; simp at this; omega
          have hwj : IntKind.i64.wrap ((j : Int) + 1) = (j1 : Int) := by rw [IntWalk.i64_in _ (by omega)]; omega
          have HX2 : Hid (X = .ok s (t.drop j1)) := by unfold Hid; rw [← HY.out, tailsF_end h3, List.drop_drop, hj1]
          clear h3 hj1
          go_wp2_with fail
          go_at_call 41
          refine (begins_is p j t [93] true _ hR hj H3.out).mono ?_; rintro e w6 ⟨rfl, hg⟩
          replace xr := xr.later hg
          replace xs := xs.later hg
          replace hR := boxAt.later hR hg
          replace hK := hK.trans (Kp.gr hg)
          clear hg
          have c1 := boxAt.cell hR 1 _ rfl
          have m1 := boxAt.mark hR 1 _ rfl
          have lp6 := boxAt.lt hR (Nat.succ_pos _)
          have c_s0 := xs.cell 0 _ rfl
          have c_s1 := xs.cell 1 _ rfl
          have c_s2 := xs.cell 2 _ rfl
          have c_s3 := xs.cell 3 _ rfl
          have m_s0 := xs.mark 0 _ rfl
          have m_s1 := xs.mark 1 _ rfl
          have m_s2 := xs.mark 2 _ rfl
          have m_s3 := xs.mark 3 _ rfl
          have l_s := xs.lt (Nat.succ_pos _)
          have c_r0 := xr.cell 0 _ rfl
          have c_r1 := xr.cell 1 _ rfl
          have c_r2 := xr.cell 2 _ rfl
          have c_r3 := xr.cell 3 _ rfl
          have m_r0 := xr.mark 0 _ rfl
          have m_r1 := xr.mark 1 _ rfl
          have m_r2 := xr.mark 2 _ rfl
          have m_r3 := xr.mark 3 _ rfl
          have l_r := xr.lt (Nat.succ_pos _)
          go_wp2
          refine name_end (fun W9 hW => ?_)
          have xr9 : boxAt W9 w.heap.size [.int .u64 (wd s 0), .int .u64 (wd s 1), .int .u64 (wd s 2), .int .u64 (wd s 3)] := by rw [hW]; exact (xr.far ⟨p, 1, none⟩ _ (by show p ≠ _; omega)).put4 _ _ _ _
          have hK9 : Kp p w W9 := by rw [hW]; exact (hK.at_p 1 _).put4 (Nat.le_refl _) _ _ _ _
          have c_q0 := xr9.cell 0 _ rfl
          have c_q1 := xr9.cell 1 _ rfl
          have c_q2 := xr9.cell 2 _ rfl
          have c_q3 := xr9.cell 3 _ rfl
          have m_q0 := xr9.mark 0 _ rfl
          have m_q1 := xr9.mark 1 _ rfl
          have m_q2 := xr9.mark 2 _ rfl
          have m_q3 := xr9.mark 3 _ rfl
          have l_q := xr9.lt (Nat.succ_pos _)
          refine bodyPost_ret (v := .tuple #[.agg #[.int .u64 (wd s 0), .int .u64 (wd s 1), .int .u64 (wd s 2), .int .u64 (wd s 3)], .nilIface]) (by simp [results, Tryd.results31, go_sem, c_q0, c_q1, c_q2, c_q3]) rfl ?_
          exact RdEnd.ok HX2.out hj1l hK9 (by rw [hW]; exact boxAt.far4 (boxAt.put hR 1 _ (by simp)) hne _ _ _ _)
        have h3f : pre [93] (t.drop j) = false := by simpa using h3
        have H3 := Lib.hid h3f
        clear h3
        by_cases hdd : pre [45, 45] (t.drop j) = true
        rotate_left
        · have hddf : pre [45, 45] (t.drop j) = false := by simpa using hdd
          have HDD := Lib.hid hddf
          clear hdd
          by_cases haa : pre [38, 38] (t.drop j) = true
          rotate_left
          · have haaf : pre [38, 38] (t.drop j) = false := by simpa using haa
            have HX2 : Hid (X = .bad false (t.drop j)) := by unfold Hid; rw [← HY.out, tailsF_none h3f hddf haaf]
            have HAA := Lib.hid haaf
            clear haa haaf hddf h3f
            go_wp2_with fail
            go_at_call 41
            refine (begins_is p j t [93] false _ hR hj H3.out).mono ?_; rintro e w6 ⟨rfl, hg⟩
            replace xr := xr.later hg
            replace xs := xs.later hg
            replace hR := boxAt.later hR hg
            replace hK := hK.trans (Kp.gr hg)
            clear hg
            go_wp2_with fail
            go_at_call 41
            refine (begins_is p j t [45, 45] false _ hR hj HDD.out).mono ?_; rintro e w7 ⟨rfl, hg⟩
            replace xr := xr.later hg
            replace xs := xs.later hg
            replace hR := boxAt.later hR hg
            replace hK := hK.trans (Kp.gr hg)
            clear hg
            go_wp2_with fail
            go_at_call 41
            refine (begins_is p j t [38, 38] false _ hR hj HAA.out).mono ?_; rintro e w8 ⟨rfl, hg⟩
            replace xr := xr.later hg
            replace xs := xs.later hg
            replace hR := boxAt.later hR hg
            replace hK := hK.trans (Kp.gr hg)
            clear hg
            have c1 := boxAt.cell hR 1 _ rfl
            have lp8 := boxAt.lt hR (Nat.succ_pos _)
            have HR8 := Lib.hid hR
            have HS8 : Hid (∀ W6, Gr w8 W6 → Sy W6 p es ed ∧ p < W6.heap.size) := fun W6 h6 => ⟨hS'.out.kept (hK.trans (Kp.gr h6)), by have := h6.size; omega⟩
            have c_s0 := xs.cell 0 _ rfl
            have c_s1 := xs.cell 1 _ rfl
            have c_s2 := xs.cell 2 _ rfl
            have c_s3 := xs.cell 3 _ rfl
            have m_s0 := xs.mark 0 _ rfl
            have m_s1 := xs.mark 1 _ rfl
            have m_s2 := xs.mark 2 _ rfl
            have m_s3 := xs.mark 3 _ rfl
            have l_s := xs.lt (Nat.succ_pos _)
            have c_r0 := xr.cell 0 _ rfl
            have c_r1 := xr.cell 1 _ rfl
            have c_r2 := xr.cell 2 _ rfl
            have c_r3 := xr.cell 3 _ rfl
            have m_r0 := xr.mark 0 _ rfl
            have m_r1 := xr.mark 1 _ rfl
            have m_r2 := xr.mark 2 _ rfl
            have m_r3 := xr.mark 3 _ rfl
            have l_r := xr.lt (Nat.succ_pos _)
            go_wp2_with fail
            go_region_with (go_at_call 33; (with_reducible refine (syntax_any _ p es ed _ (HS8.out _ (Gr.drew _)).1 (HS8.out _ (Gr.drew _)).2).mono ?_); rintro e w9 ⟨er, rfl, hr, hg2⟩; have hc := ((Gr.drew w8).trans hg2).cells; have hm := ((Gr.drew w8).trans hg2).marks)
            all_goals
              go_wp2
              refine name_end (fun W9 hW => ?_)
              have xr9 : boxAt W9 w.heap.size [.int .u64 (wd s 0), .int .u64 (wd s 1), .int .u64 (wd s 2), .int .u64 (wd s 3)] := by rw [hW]; exact (xr.later ((Gr.drew w8).trans hg2)).put4 _ _ _ _
              have hK9 : Kp p w W9 := by rw [hW]; exact (hK.trans (Kp.gr ((Gr.drew w8).trans hg2))).put4 (Nat.le_refl _) _ _ _ _
              have c_q0 := xr9.cell 0 _ rfl
              have c_q1 := xr9.cell 1 _ rfl
              have c_q2 := xr9.cell 2 _ rfl
              have c_q3 := xr9.cell 3 _ rfl
              have m_q0 := xr9.mark 0 _ rfl
              have m_q1 := xr9.mark 1 _ rfl
              have m_q2 := xr9.mark 2 _ rfl
              have m_q3 := xr9.mark 3 _ rfl
              have l_q := xr9.lt (Nat.succ_pos _)
              refine bodyPost_ret (v := .tuple #[.agg #[.int .u64 (wd s 0), .int .u64 (wd s 1), .int .u64 (wd s 2), .int .u64 (wd s 3)], er]) (by simp [results, Tryd.results31, go_sem, c_q0, c_q1, c_q2, c_q3]) rfl ?_
              refine RdEnd.bad HX2.out hj hK9 (Refused.mono (B := w8.heap.size) ?_ hK.size) (by rw [hW]; exact Any.far4 ⟨_, boxAt.later HR8.out ((Gr.drew w8).trans hg2)⟩ hne _ _ _ _)
              rw [hW]; exact hr.put4 _ l_r _ _ _ _
          have hpt : pre [45, 45] (t.drop j) = true ∨ pre [38, 38] (t.drop j) = true := .inr haa
          have HPT := Lib.hid hpt
          obtain ⟨j2, hj2⟩ : ∃ x, j + 2 = x := ⟨_, rfl⟩
          have hj2l : j2 ≤ t.length := by rcases hpt with h | h <;> (have := pre_len h; rw [List.length_drop] at this; simp at this; omega)
          have hwj : IntKind.i64.wrap ((j : Int) + 2) = (j2 : Int) := by rw [IntWalk.i64_in _ (by omega)]; omega
          have HJ2 := Lib.hid (show j + 2 = j2 ∧ (t.drop j).drop 2 = t.drop j2 from ⟨hj2, by rw [List.drop_drop, hj2]⟩)
          clear hpt hj2
          have HAA := Lib.hid haa
          clear haa h3f hddf
          go_wp2_with fail
          go_at_call 41
          refine (begins_is p j t [93] false _ hR hj H3.out).mono ?_; rintro e w6 ⟨rfl, hg⟩
          replace xr := xr.later hg
          replace xs := xs.later hg
          replace hR := boxAt.later hR hg
          replace hK := hK.trans (Kp.gr hg)
          clear hg
          go_wp2_with fail
          go_at_call 41
          refine (begins_is p j t [45, 45] false _ hR hj HDD.out).mono ?_; rintro e w7 ⟨rfl, hg⟩
          replace xr := xr.later hg
          replace xs := xs.later hg
          replace hR := boxAt.later hR hg
          replace hK := hK.trans (Kp.gr hg)
          clear hg
          go_wp2_with fail
          go_at_call 41
          refine (begins_is p j t [38, 38] true _ hR hj HAA.out).mono ?_; rintro e w8 ⟨rfl, hg⟩
          replace xr := xr.later hg
          replace xs := xs.later hg
          replace hR := boxAt.later hR hg
          replace hK := hK.trans (Kp.gr hg)
          clear hg
          have c1 := boxAt.cell hR 1 _ rfl
          have m1 := boxAt.mark hR 1 _ rfl
          have lp8 := boxAt.lt hR (Nat.succ_pos _)
          have hl8 : w5.heap.size < w8.heap.size := xs.lt (by simp)
          go_wp2_with fail
          go_at_call 31
          refine name_calls (fun W7 hW => ?_)
          have xx : boxAt W7 w8.heap.size [.int .u64 0, .int .u64 0, .int .u64 0, .int .u64 0] := by have := boxAt.new _ _ hW; rw [size_set] at this; exact this
          replace xr : boxAt W7 w.heap.size [.int .u64 0, .int .u64 0, .int .u64 0, .int .u64 0] := by rw [hW]; exact (xr.far ⟨p, 1, none⟩ _ (by show p ≠ _; omega)).later (Gr.alloc _ _)
          replace xs : boxAt W7 w5.heap.size [.int .u64 (wd s 0), .int .u64 (wd s 1), .int .u64 (wd s 2), .int .u64 (wd s 3)] := by rw [hW]; exact (xs.far ⟨p, 1, none⟩ _ (by show p ≠ _; omega)).later (Gr.alloc _ _)
          replace hR : Rdr W7 p t j2 := by rw [hW]; exact boxAt.later (boxAt.put hR 1 _ (by simp)) (Gr.alloc _ _)
          replace hK : Kp p w W7 := by rw [hW]; exact (hK.at_p 1 _).trans (Kp.gr (Gr.alloc _ _))
          clear hW c1 m1
          have hlx : w8.heap.size < W7.heap.size := xx.lt (by simp)
          refine (IH.out o1 j2 p W7 hR hj2l (by have h1 := HNL.out; have h2 := HJ2.out; have h3 := HGE.out; rw [List.length_drop] at h1 ⊢; omega) (by have := HK1.out; omega) (hS'.out.kept hK)).mono ?_; rintro e w8' ⟨hK2, hm⟩
          replace xr := xr.kept hK2 hne (by simp)
          replace xs := xs.kept hK2 (by omega) (by simp)
          replace xx := xx.kept hK2 (by omega) (by simp)
          obtain ⟨x, er1, rfl, hst⟩ : ∃ (x : BitVec 256) (er1 : Value), e = .returned (.tuple #[.agg #[.int .u64 (wd x 0), .int .u64 (wd x 1), .int .u64 (wd x 2), .int .u64 (wd x 3)], er1]) ∧ ClsSt es ed p o j2 t X W7.heap.size (s &&& x) er1 w8' := by
            cases hx : classF o1 (t.drop j2) with
            | ok x r =>
              rw [hx] at hm
              obtain ⟨rfl, hR5⟩ := hm
              have hl := classP_len ((t.drop j2).length + 1) o1 (t.drop j2)
              rw [show classP ((t.drop j2).length + 1) o1 (t.drop j2) = classF o1 (t.drop j2) from rfl, hx] at hl
              obtain ⟨j0, hj0, hj3, rfl⟩ := hl
              rw [List.length_drop] at hj3
              have hgo := tailsF_go (o := o) (s := s) H3.out HPT.out (by rw [HJ2.out.2, HK1.out.2.1]; exact hx)
              rw [HY.out, HDD.out] at hgo
              refine ⟨x, .nilIface, rfl, .inl ⟨rfl, j2 + j0, by omega, by omega, ?_, ?_⟩⟩
              · rw [hgo, List.drop_drop]; rfl
              · rw [List.drop_drop, List.length_drop, show t.length - (t.length - (j2 + j0)) = j2 + j0 by omega] at hR5; exact hR5
            | bad d r =>
              rw [hx] at hm
              obtain ⟨x, er, rfl, hr, hA⟩ := hm
              refine ⟨x, er, rfl, .inr ⟨d, r, ?_, hr, hA⟩⟩
              rw [← HY.out]
              exact tailsF_bad H3.out HPT.out (by rw [HJ2.out.2, HK1.out.2.1]; exact hx)
          replace hK := hK.trans hK2
          have hsz8 : W7.heap.size ≤ w8'.heap.size := hK2.size
          clear hm hK2 hR
          have c_x0 := xx.cell 0 _ rfl
          have c_x1 := xx.cell 1 _ rfl
          have c_x2 := xx.cell 2 _ rfl
          have c_x3 := xx.cell 3 _ rfl
          have m_x0 := xx.mark 0 _ rfl
          have m_x1 := xx.mark 1 _ rfl
          have m_x2 := xx.mark 2 _ rfl
          have m_x3 := xx.mark 3 _ rfl
          have l_x := xx.lt (Nat.succ_pos _)
          have c_s0 := xs.cell 0 _ rfl
          have c_s1 := xs.cell 1 _ rfl
          have c_s2 := xs.cell 2 _ rfl
          have c_s3 := xs.cell 3 _ rfl
          have m_s0 := xs.mark 0 _ rfl
          have m_s1 := xs.mark 1 _ rfl
          have m_s2 := xs.mark 2 _ rfl
          have m_s3 := xs.mark 3 _ rfl
          have l_s := xs.lt (Nat.succ_pos _)
          have hnx : w8.heap.size ≠ w5.heap.size := by omega
          have hnx2 : w5.heap.size ≠ w8.heap.size := by omega
          go_wp2_with fail
          go_at_call 16
          refine name_calls (fun W9 hW => ?_)
          replace xr : boxAt W9 w.heap.size [.int .u64 0, .int .u64 0, .int .u64 0, .int .u64 0] := by rw [hW]; exact xr.far4 (by omega) _ _ _ _
          replace xs : boxAt W9 w5.heap.size [.int .u64 (wd s 0), .int .u64 (wd s 1), .int .u64 (wd s 2), .int .u64 (wd s 3)] := by rw [hW]; exact xs.far4 (by omega) _ _ _ _
          replace hst := hst.far4 w8.heap.size (by omega) hlx (.int .u64 (wd x 0)) (.int .u64 (wd x 1)) (.int .u64 (wd x 2)) (.int .u64 (wd x 3))
          replace hK : Kp p w W9 := by rw [hW]; exact hK.put4 (by omega) _ _ _ _
          rw [← hW] at hst
          clear hW
          refine (inter_any s x W9).mono ?_; rintro e w10 ⟨rfl, hg⟩
          replace xr := xr.later hg
          replace xs := xs.later hg
          replace hst := hst.later hg (by omega)
          replace hK := hK.trans (Kp.gr hg)
          have HST := Lib.hid hst
          clear hst hg
          clear c_x0 c_x1 c_x2 c_x3 m_x0 m_x1 m_x2 m_x3 l_x
          clear c_s0 c_s1 c_s2 c_s3 m_s0 m_s1 m_s2 m_s3 l_s
          have c_s0 := xs.cell 0 _ rfl
          have c_s1 := xs.cell 1 _ rfl
          have c_s2 := xs.cell 2 _ rfl
          have c_s3 := xs.cell 3 _ rfl
          have m_s0 := xs.mark 0 _ rfl
          have m_s1 := xs.mark 1 _ rfl
          have m_s2 := xs.mark 2 _ rfl
          have m_s3 := xs.mark 3 _ rfl
          have l_s := xs.lt (Nat.succ_pos _)
          go_wp2_with fail
          go_roundw
          case rel => exact ⟨s &&& x, xr.far4 (by omega) _ _ _ _, xs.put4 _ _ _ _, hK.put4 (by omega) _ _ _ _, (HST.out.far4 w5.heap.size (by omega) (by omega) _ _ _ _).mono (by have := HJ2.out; have := HGE.out; have := HK1.out; omega) (by omega)⟩
          case measure => exact (HST.out.far4 w5.heap.size (by omega) (by omega) _ _ _ _).less HAT.out (by have := HJ2.out; omega)
        have hpt : pre [45, 45] (t.drop j) = true ∨ pre [38, 38] (t.drop j) = true := .inl hdd
        have HPT := Lib.hid hpt
        obtain ⟨j2, hj2⟩ : ∃ x, j + 2 = x := ⟨_, rfl⟩
        have hj2l : j2 ≤ t.length := by rcases hpt with h | h <;> (have := pre_len h; rw [List.length_drop] at this; simp at this; omega)
        have hwj : IntKind.i64.wrap ((j : Int) + 2) = (j2 : Int) := by rw [IntWalk.i64_in _ (by omega)]; omega
        have HJ2 := Lib.hid (show j + 2 = j2 ∧ (t.drop j).drop 2 = t.drop j2 from ⟨hj2, by rw [List.drop_drop, hj2]⟩)
        clear hpt hj2
        have HDD := Lib.hid hdd
        clear hdd h3f
        go_wp2_with fail
        go_at_call 41
        refine (begins_is p j t [93] false _ hR hj H3.out).mono ?_; rintro e w6 ⟨rfl, hg⟩
        replace xr := xr.later hg
        replace xs := xs.later hg
        replace hR := boxAt.later hR hg
        replace hK := hK.trans (Kp.gr hg)
        clear hg
        go_wp2_with fail
        go_at_call 41
        refine (begins_is p j t [45, 45] true _ hR hj HDD.out).mono ?_; rintro e w7 ⟨rfl, hg⟩
        replace xr := xr.later hg
        replace xs := xs.later hg
        replace hR := boxAt.later hR hg
        replace hK := hK.trans (Kp.gr hg)
        clear hg
        have c1 := boxAt.cell hR 1 _ rfl
        have m1 := boxAt.mark hR 1 _ rfl
        have lp8 := boxAt.lt hR (Nat.succ_pos _)
        have hl8 : w5.heap.size < w7.heap.size := xs.lt (by simp)
        go_wp2_with fail
        go_at_call 31
        refine name_calls (fun W7 hW => ?_)
        have xx : boxAt W7 w7.heap.size [.int .u64 0, .int .u64 0, .int .u64 0, .int .u64 0] := by have := boxAt.new _ _ hW; rw [size_set] at this; exact this
        replace xr : boxAt W7 w.heap.size [.int .u64 0, .int .u64 0, .int .u64 0, .int .u64 0] := by rw [hW]; exact (xr.far ⟨p, 1, none⟩ _ (by show p ≠ _; omega)).later (Gr.alloc _ _)
        replace xs : boxAt W7 w5.heap.size [.int .u64 (wd s 0), .int .u64 (wd s 1), .int .u64 (wd s 2), .int .u64 (wd s 3)] := by rw [hW]; exact (xs.far ⟨p, 1, none⟩ _ (by show p ≠ _; omega)).later (Gr.alloc _ _)
        replace hR : Rdr W7 p t j2 := by rw [hW]; exact boxAt.later (boxAt.put hR 1 _ (by simp)) (Gr.alloc _ _)
        replace hK : Kp p w W7 := by rw [hW]; exact (hK.at_p 1 _).trans (Kp.gr (Gr.alloc _ _))
        clear hW c1 m1
        have hlx : w7.heap.size < W7.heap.size := xx.lt (by simp)
        refine (IH.out o1 j2 p W7 hR hj2l (by have h1 := HNL.out; have h2 := HJ2.out; have h3 := HGE.out; rw [List.length_drop] at h1 ⊢; omega) (by have := HK1.out; omega) (hS'.out.kept hK)).mono ?_; rintro e w8' ⟨hK2, hm⟩
        replace xr := xr.kept hK2 hne (by simp)
        replace xs := xs.kept hK2 (by omega) (by simp)
        replace xx := xx.kept hK2 (by omega) (by simp)
        obtain ⟨x, er1, rfl, hst⟩ : ∃ (x : BitVec 256) (er1 : Value), e = .returned (.tuple #[.agg #[.int .u64 (wd x 0), .int .u64 (wd x 1), .int .u64 (wd x 2), .int .u64 (wd x 3)], er1]) ∧ ClsSt es ed p o j2 t X W7.heap.size (s &&& ~~~x) er1 w8' := by
          cases hx : classF o1 (t.drop j2) with
          | ok x r =>
            rw [hx] at hm
            obtain ⟨rfl, hR5⟩ := hm
            have hl := classP_len ((t.drop j2).length + 1) o1 (t.drop j2)
            rw [show classP ((t.drop j2).length + 1) o1 (t.drop j2) = classF o1 (t.drop j2) from rfl, hx] at hl
            obtain ⟨j0, hj0, hj3, rfl⟩ := hl
            rw [List.length_drop] at hj3
            have hgo := tailsF_go (o := o) (s := s) H3.out HPT.out (by rw [HJ2.out.2, HK1.out.2.1]; exact hx)
            rw [HY.out, HDD.out] at hgo
            refine ⟨x, .nilIface, rfl, .inl ⟨rfl, j2 + j0, by omega, by omega, ?_, ?_⟩⟩
            · rw [hgo, List.drop_drop]; rfl
            · rw [List.drop_drop, List.length_drop, show t.length - (t.length - (j2 + j0)) = j2 + j0 by omega] at hR5; exact hR5
          | bad d r =>
            rw [hx] at hm
            obtain ⟨x, er, rfl, hr, hA⟩ := hm
            refine ⟨x, er, rfl, .inr ⟨d, r, ?_, hr, hA⟩⟩
            rw [← HY.out]
            exact tailsF_bad H3.out HPT.out (by rw [HJ2.out.2, HK1.out.2.1]; exact hx)
        replace hK := hK.trans hK2
        have hsz8 : W7.heap.size ≤ w8'.heap.size := hK2.size
        clear hm hK2 hR
        have c_x0 := xx.cell 0 _ rfl
        have c_x1 := xx.cell 1 _ rfl
        have c_x2 := xx.cell 2 _ rfl
        have c_x3 := xx.cell 3 _ rfl
        have m_x0 := xx.mark 0 _ rfl
        have m_x1 := xx.mark 1 _ rfl
        have m_x2 := xx.mark 2 _ rfl
        have m_x3 := xx.mark 3 _ rfl
        have l_x := xx.lt (Nat.succ_pos _)
        have c_s0 := xs.cell 0 _ rfl
        have c_s1 := xs.cell 1 _ rfl
        have c_s2 := xs.cell 2 _ rfl
        have c_s3 := xs.cell 3 _ rfl
        have m_s0 := xs.mark 0 _ rfl
        have m_s1 := xs.mark 1 _ rfl
        have m_s2 := xs.mark 2 _ rfl
        have m_s3 := xs.mark 3 _ rfl
        have l_s := xs.lt (Nat.succ_pos _)
        have hnx : w7.heap.size ≠ w5.heap.size := by omega
        have hnx2 : w5.heap.size ≠ w7.heap.size := by omega
        go_wp2_with fail
        go_at_call 17
        refine name_calls (fun W9 hW => ?_)
        replace xr : boxAt W9 w.heap.size [.int .u64 0, .int .u64 0, .int .u64 0, .int .u64 0] := by rw [hW]; exact xr.far4 (by omega) _ _ _ _
        replace xs : boxAt W9 w5.heap.size [.int .u64 (wd s 0), .int .u64 (wd s 1), .int .u64 (wd s 2), .int .u64 (wd s 3)] := by rw [hW]; exact xs.far4 (by omega) _ _ _ _
        replace hst := hst.far4 w7.heap.size (by omega) hlx (.int .u64 (wd x 0)) (.int .u64 (wd x 1)) (.int .u64 (wd x 2)) (.int .u64 (wd x 3))
        replace hK : Kp p w W9 := by rw [hW]; exact hK.put4 (by omega) _ _ _ _
        rw [← hW] at hst
        clear hW
        refine (minus_any s x W9).mono ?_; rintro e w10 ⟨rfl, hg⟩
        replace xr := xr.later hg
        replace xs := xs.later hg
        replace hst := hst.later hg (by omega)
        replace hK := hK.trans (Kp.gr hg)
        have HST := Lib.hid hst
        clear hst hg
        clear c_x0 c_x1 c_x2 c_x3 m_x0 m_x1 m_x2 m_x3 l_x
        clear c_s0 c_s1 c_s2 c_s3 m_s0 m_s1 m_s2 m_s3 l_s
        have c_s0 := xs.cell 0 _ rfl
        have c_s1 := xs.cell 1 _ rfl
        have c_s2 := xs.cell 2 _ rfl
        have c_s3 := xs.cell 3 _ rfl
        have m_s0 := xs.mark 0 _ rfl
        have m_s1 := xs.mark 1 _ rfl
        have m_s2 := xs.mark 2 _ rfl
        have m_s3 := xs.mark 3 _ rfl
        have l_s := xs.lt (Nat.succ_pos _)
        go_wp2_with fail
        go_roundw
        case rel => exact ⟨s &&& ~~~x, xr.far4 (by omega) _ _ _ _, xs.put4 _ _ _ _, hK.put4 (by omega) _ _ _ _, (HST.out.far4 w5.heap.size (by omega) (by omega) _ _ _ _).mono (by have := HJ2.out; have := HGE.out; have := HK1.out; omega) (by omega)⟩
        case measure => exact (HST.out.far4 w5.heap.size (by omega) (by omega) _ _ _ _).less HAT.out (by have := HJ2.out; omega)
      · obtain ⟨ty, y, rfl⟩ := hr.iface
        obtain ⟨q, hA⟩ := hA
        have HR := Lib.hid hr
        have HXB := Lib.hid hXb
        have c1 := boxAt.cell hA 1 _ rfl
        have m1 := boxAt.mark hA 1 _ rfl
        have lp6 := boxAt.lt hA (Nat.succ_pos _)
        clear hr hXb
        have c_s0 := xs.cell 0 _ rfl
        have c_s1 := xs.cell 1 _ rfl
        have c_s2 := xs.cell 2 _ rfl
        have c_s3 := xs.cell 3 _ rfl
        have m_s0 := xs.mark 0 _ rfl
        have m_s1 := xs.mark 1 _ rfl
        have m_s2 := xs.mark 2 _ rfl
        have m_s3 := xs.mark 3 _ rfl
        have l_s := xs.lt (Nat.succ_pos _)
        have c_r0 := xr.cell 0 _ rfl
        have c_r1 := xr.cell 1 _ rfl
        have c_r2 := xr.cell 2 _ rfl
        have c_r3 := xr.cell 3 _ rfl
        have m_r0 := xr.mark 0 _ rfl
        have m_r1 := xr.mark 1 _ rfl
        have m_r2 := xr.mark 2 _ rfl
        have m_r3 := xr.mark 3 _ rfl
        have l_r := xr.lt (Nat.succ_pos _)
        go_wp2
        refine name_end (fun W9 hW => ?_)
        have xr9 : boxAt W9 w.heap.size [.int .u64 (wd s 0), .int .u64 (wd s 1), .int .u64 (wd s 2), .int .u64 (wd s 3)] := by rw [hW]; exact (xr.far ⟨p, 1, none⟩ _ (by show p ≠ _; omega)).put4 _ _ _ _
        have hK9 : Kp p w W9 := by rw [hW]; exact (hK.at_p 1 _).put4 (Nat.le_refl _) _ _ _ _
        have c_q0 := xr9.cell 0 _ rfl
        have c_q1 := xr9.cell 1 _ rfl
        have c_q2 := xr9.cell 2 _ rfl
        have c_q3 := xr9.cell 3 _ rfl
        have m_q0 := xr9.mark 0 _ rfl
        have m_q1 := xr9.mark 1 _ rfl
        have m_q2 := xr9.mark 2 _ rfl
        have m_q3 := xr9.mark 3 _ rfl
        have l_q := xr9.lt (Nat.succ_pos _)
        refine bodyPost_ret (v := .tuple #[.agg #[.int .u64 (wd s 0), .int .u64 (wd s 1), .int .u64 (wd s 2), .int .u64 (wd s 3)], .iface ty y]) (by simp [results, Tryd.results31, go_sem, c_q0, c_q1, c_q2, c_q3]) rfl ?_
        rw [HXB.out]
        refine RdEnd.bad' hK9 (Refused.mono (B := w.heap.size + 1) ?_ (by omega)) ?_
        · rw [hW]; exact (HR.out.kept ((Kp.refl p wr).at_p 1 _) (by omega)).put4 _ (by omega) _ _ _ _
        · rw [hW]; exact Any.far4 ⟨_, boxAt.put hA 1 _ (by simp)⟩ hne _ _ _ _
      
end Go.Proofs.YtihjmeoklbmnmaaDoor
