/- class: item. No condition but a length's bound. Printed by gen_item.py. -/
import Derived.Test.YtihjmeoklbmnmaaDoorPGd
namespace Go.Proofs.YtihjmeoklbmnmaaDoor
open Go Go.RowKit

theorem begins_is (p k : Nat) (t s : List UInt8) (b : Bool) (w : World) (h : Rdr w p t k) (hk : k ≤ t.length) (hb : pre s (t.drop k) = b) : Calls Tryd.prog 41 #[.pointer (some ⟨p, 0, none⟩), .string (st s)] w fun e w' => e = .returned (.bool b) ∧ Gr w w' := by
  subst hb; exact begins_any p k t s w h hk

theorem RdEnd.ok' {es ed : Value} {p : Nat} {t r : List UInt8} {w w' : World} {s : BitVec 256} (hK : Kp p w w') (hR : Rdr w' p t (t.length - r.length)) : RdEnd es ed p t w (.ok s r) (.returned (.tuple #[.agg #[.int .u64 (wd s 0), .int .u64 (wd s 1), .int .u64 (wd s 2), .int .u64 (wd s 3)], .nilIface])) w' := ⟨hK, rfl, hR⟩
theorem RdEnd.bad' {es ed er : Value} {p : Nat} {t r : List UInt8} {w w' : World} {s : BitVec 256} {d : Bool} (hK : Kp p w w') (hR : Refused w' w.heap.size (refE es ed d) er ((t.length - r.length : Nat) : Int)) (hA : Any w' p t) :
    RdEnd es ed p t w (.bad d r) (.returned (.tuple #[.agg #[.int .u64 (wd s 0), .int .u64 (wd s 1), .int .u64 (wd s 2), .int .u64 (wd s 3)], er])) w' := ⟨hK, s, er, rfl, hR, hA⟩
theorem itemP_name {l : List UInt8} (h : pre [91, 58] l = true) : itemP l = nameP l := by unfold itemP; rw [if_pos h]
theorem itemP_none {l : List UInt8} (h : pre [91, 58] l = false) (hc : charP l = none) : itemP l = .bad false l := by unfold itemP; rw [if_neg (by rw [h]; decide), hc]
theorem itemP_one {l r : List UInt8} {lo : UInt8} (h : pre [91, 58] l = false) (hc : charP l = some (lo, r)) (h2 : (pre [45] r && !pre [45, 45] r) = false) : itemP l = .ok (ofList [lo]) r := by
  unfold itemP; rw [if_neg (by rw [h]; decide), hc]; dsimp only; rw [if_neg (by rw [h2]; decide)]
theorem itemP_none2 {l r : List UInt8} {lo : UInt8} (h : pre [91, 58] l = false) (hc : charP l = some (lo, r)) (h2 : (pre [45] r && !pre [45, 45] r) = true) (h3 : charP (r.drop 1) = none) : itemP l = .bad false (r.drop 1) := by
  unfold itemP; rw [if_neg (by rw [h]; decide), hc]; dsimp only; rw [if_pos h2, h3]
theorem itemP_two {l r q : List UInt8} {lo hi : UInt8} (h : pre [91, 58] l = false) (hc : charP l = some (lo, r)) (h2 : (pre [45] r && !pre [45, 45] r) = true) (h3 : charP (r.drop 1) = some (hi, q)) :
    itemP l = if hi.toNat < lo.toNat then .bad false (r.drop 1) else .ok (rangeSet lo.toNat hi.toNat) q := by
  unfold itemP; rw [if_neg (by rw [h]; decide), hc]; dsimp only; rw [if_pos h2, h3]

set_option maxRecDepth 100000 in
set_option maxHeartbeats 8000000 in
theorem item_any (p k : Nat) (t : List UInt8) (es ed : Value) (w : World) (h : Rdr w p t k) (hk : k ≤ t.length) (hT : (t.length : Int) ≤ 4294967280) (hS : Sy w p es ed) :
    Calls Tryd.prog 54 #[.pointer (some ⟨p, 0, none⟩)] w (RdEnd es ed p t w (itemP (t.drop k))) := by
  have hS' := Lib.hid hS
  have H0 := Lib.hid h
  have lp := boxAt.lt h (Nat.succ_pos _)
  have hne : w.heap.size ≠ p := by omega
  clear hS h
  obtain ⟨X, hX⟩ : ∃ X, itemP (t.drop k) = X := ⟨_, rfl⟩
  rw [hX]
  by_cases hn : pre [91, 58] (t.drop k) = true
  · rw [itemP_name hn] at hX
    have HX := Lib.hid hX
    clear hX
    have hk2 : k + 2 ≤ t.length := by have := pre_len hn; rw [List.length_drop] at this; simp at this; omega
    have HK2 := Lib.hid hk2
    have HN := Lib.hid hn
    clear hk2 hn
    go_enter Tryd.func54, Tryd.ntmps54
    go_wp2_with fail
    go_at_call 41
    refine name_calls (fun W hW => ?_)
    have xr : boxAt W w.heap.size [.int .u64 0, .int .u64 0, .int .u64 0, .int .u64 0] := boxAt.new _ _ hW
    have hgW : Gr w W := by rw [hW]; exact Gr.alloc _ _
    have hR : Rdr W p t k := boxAt.later H0.out hgW
    have hK : Kp p w W := Kp.gr hgW
    clear hW hgW
    refine (begins_is p k t [91, 58] true _ hR hk HN.out).mono ?_; rintro e w1 ⟨rfl, hg⟩
    replace xr := xr.later hg
    replace hR := boxAt.later hR hg
    replace hK := hK.trans (Kp.gr hg)
    clear hg
    go_wp2_with fail
    go_at_call 66
    have H1 : Hid (w.heap.size < w1.heap.size) := xr.lt (by simp)
    refine (name_any p k t es ed w1 hR HK2.out hT (hS'.out.kept hK)).mono ?_; rintro e w2 ⟨hK2, hm⟩
    replace xr := xr.kept hK2 hne (by simp)
    clear hR
    rw [HX.out] at hm
    clear HX
    cases X with
    | ok s r =>
      obtain ⟨rfl, hR⟩ := hm
      have HR := Lib.hid hR
      clear hR
      have c_r0 := xr.cell 0 _ rfl
      have c_r1 := xr.cell 1 _ rfl
      have c_r2 := xr.cell 2 _ rfl
      have c_r3 := xr.cell 3 _ rfl
      have m_r0 := xr.mark 0 _ rfl
      have m_r1 := xr.mark 1 _ rfl
      have m_r2 := xr.mark 2 _ rfl
      have m_r3 := xr.mark 3 _ rfl
      have l_r := xr.lt (Nat.succ_pos _)
      go_wp2
      refine bodyPost_ret (v := .tuple #[.agg #[.int .u64 (wd s 0), .int .u64 (wd s 1), .int .u64 (wd s 2), .int .u64 (wd s 3)], .nilIface]) (by simp [results, Tryd.results54, go_sem, c_r0, c_r1, c_r2, c_r3]) rfl ?_
      exact RdEnd.ok' ((hK.trans hK2).put4 (Nat.le_refl _) _ _ _ _) (HR.out.far4 hne _ _ _ _)
    | bad d r =>
      obtain ⟨s, er, rfl, hr, hA⟩ := hm
      obtain ⟨ty, y, rfl⟩ := hr.iface
      have HR := Lib.hid hr
      clear hr
      have c_r0 := xr.cell 0 _ rfl
      have c_r1 := xr.cell 1 _ rfl
      have c_r2 := xr.cell 2 _ rfl
      have c_r3 := xr.cell 3 _ rfl
      have m_r0 := xr.mark 0 _ rfl
      have m_r1 := xr.mark 1 _ rfl
      have m_r2 := xr.mark 2 _ rfl
      have m_r3 := xr.mark 3 _ rfl
      have l_r := xr.lt (Nat.succ_pos _)
      go_wp2
      refine bodyPost_ret (v := .tuple #[.agg #[.int .u64 (wd s 0), .int .u64 (wd s 1), .int .u64 (wd s 2), .int .u64 (wd s 3)], .iface ty y]) (by simp [results, Tryd.results54, go_sem, c_r0, c_r1, c_r2, c_r3]) rfl ?_
      refine RdEnd.bad' ((hK.trans hK2).put4 (Nat.le_refl _) _ _ _ _) ?_ (hA.far4 hne _ _ _ _)
      refine Refused.mono (B := w1.heap.size) ?_ hK.size
      exact HR.out.put4 _ H1.out _ _ _ _
  have hn0 : pre [91, 58] (t.drop k) = false := by simpa using hn
  have HN := Lib.hid hn0
  clear hn hn0
  go_enter Tryd.func54, Tryd.ntmps54
  go_wp2_with fail
  go_at_call 41
  refine name_calls (fun W hW => ?_)
  have xr : boxAt W w.heap.size [.int .u64 0, .int .u64 0, .int .u64 0, .int .u64 0] := boxAt.new _ _ hW
  have hgW : Gr w W := by rw [hW]; exact Gr.alloc _ _
  have hR : Rdr W p t k := boxAt.later H0.out hgW
  have hK : Kp p w W := Kp.gr hgW
  clear hW hgW
  refine (begins_is p k t [91, 58] false _ hR hk HN.out).mono ?_; rintro e w1 ⟨rfl, hg⟩
  replace xr := xr.later hg
  replace hR := boxAt.later hR hg
  replace hK := hK.trans (Kp.gr hg)
  clear hg
  go_wp2_with fail
  go_at_call 67
  have H1 : Hid (w.heap.size < w1.heap.size) := xr.lt (by simp)
  refine (char_any p k t es ed w1 hR hT (hS'.out.kept hK)).mono ?_; rintro e w2 ⟨hK2, hm⟩
  replace xr := xr.kept hK2 hne (by simp)
  clear hR
  cases hx : charP (t.drop k) with
  | none =>
    rw [hx] at hm
    rw [itemP_none HN.out hx] at hX
    have HX := Lib.hid hX
    obtain ⟨er, rfl, hr, hA⟩ := hm
    obtain ⟨ty, y, rfl⟩ := hr.iface
    have HR := Lib.hid hr
    clear hr hx hX
    replace hK2 := Lib.hid hK2
    go_wp2_with fail
    go_at_call 19
    refine name_calls (fun W8 hW => ?_)
    have hsl : Sl W8 (.slice (some ⟨w2.heap.size, 0, none⟩) 1 1) 1 1 (([0] : List UInt8).map vB) := by rw [hW]; exact sl_alloc w2 (([0] : List UInt8).map vB) 5 1 1 rfl (by unfold maxLen; omega)
    have hg : Gr w2 W8 := by rw [hW]; exact Gr.alloc _ _
    replace xr := xr.later hg
    clear hW
    refine (of_is [0] (ofList [0]) _ W8 hsl rfl).mono ?_; rintro e w3 ⟨rfl, hg3⟩
    replace xr := xr.later hg3
    have hr3 := HR.out.kept (Kp.gr (p := p) (hg.trans hg3)) (by have := hK.size; have := lp; omega)
    have HR3 := Lib.hid hr3
    clear hr3 hsl
    have c_r0 := xr.cell 0 _ rfl
    have c_r1 := xr.cell 1 _ rfl
    have c_r2 := xr.cell 2 _ rfl
    have c_r3 := xr.cell 3 _ rfl
    have m_r0 := xr.mark 0 _ rfl
    have m_r1 := xr.mark 1 _ rfl
    have m_r2 := xr.mark 2 _ rfl
    have m_r3 := xr.mark 3 _ rfl
    have l_r := xr.lt (Nat.succ_pos _)
    go_wp2
    refine bodyPost_ret (v := .tuple #[.agg #[.int .u64 (wd ((ofList [0])) 0), .int .u64 (wd ((ofList [0])) 1), .int .u64 (wd ((ofList [0])) 2), .int .u64 (wd ((ofList [0])) 3)], .iface ty y]) (by simp [results, Tryd.results54, go_sem, c_r0, c_r1, c_r2, c_r3]) rfl ?_
    refine RdEnd.bad (j := k) HX.out.symm hk ((hK.trans (hK2.out.trans (Kp.gr (hg.trans hg3)))).put4 (Nat.le_refl _) _ _ _ _) ?_ ((hA.later (hg.trans hg3)).far4 hne _ _ _ _)
    refine Refused.mono (B := w1.heap.size) ?_ hK.size
    exact HR3.out.put4 _ H1.out _ _ _ _
  | some x =>
    obtain ⟨lo, r⟩ := x
    rw [hx] at hm
    obtain ⟨rfl, hR⟩ := hm
    obtain ⟨j0, hj1, hj2, rfl⟩ := charP_len hx
    rw [List.drop_drop] at hR
    rw [List.length_drop] at hj2
    obtain ⟨j, hj⟩ : ∃ j, k + j0 = j := ⟨_, rfl⟩
    rw [hj] at hR
    have hjl : j ≤ t.length := by omega
    rw [List.length_drop, show t.length - (t.length - j) = j by omega] at hR
    replace hK := hK.trans hK2
    rw [List.drop_drop, hj] at hx
    clear hj1 hj2 hj hK2
    by_cases hd : pre [45] (t.drop j) = true
    · by_cases hdd : pre [45, 45] (t.drop j) = true
      · rw [itemP_one HN.out hx (by rw [hd, hdd]; rfl)] at hX
        have HX := Lib.hid hX
        have HD := Lib.hid hd
        have HDD := Lib.hid hdd
        clear hd hdd hx hX
        go_wp2_with fail
        go_at_call 41
        refine (begins_is p j t [45] true _ hR hjl HD.out).mono ?_; rintro e w3 ⟨rfl, hg⟩
        replace xr := xr.later hg
        replace hR := boxAt.later hR hg
        replace hK := hK.trans (Kp.gr hg)
        clear hg
        go_wp2_with fail
        go_at_call 41
        refine (begins_is p j t [45, 45] true _ hR hjl HDD.out).mono ?_; rintro e w4 ⟨rfl, hg⟩
        replace xr := xr.later hg
        replace hR := boxAt.later hR hg
        replace hK := hK.trans (Kp.gr hg)
        clear hg
        go_wp2_with fail
        go_at_call 19
        refine name_calls (fun W8 hW => ?_)
        have hsl : Sl W8 (.slice (some ⟨w4.heap.size, 0, none⟩) 1 1) 1 1 (([lo] : List UInt8).map vB) := by rw [hW]; exact sl_alloc w4 (([lo] : List UInt8).map vB) 5 1 1 rfl (by unfold maxLen; omega)
        have hg : Gr w4 W8 := by rw [hW]; exact Gr.alloc _ _
        replace xr := xr.later hg
        replace hR := boxAt.later hR hg
        replace hK := hK.trans (Kp.gr hg)
        clear hg
        clear hW
        refine (of_is [lo] (ofList [lo]) _ W8 hsl rfl).mono ?_; rintro e w5 ⟨rfl, hg⟩
        replace xr := xr.later hg
        replace hR := boxAt.later hR hg
        replace hK := hK.trans (Kp.gr hg)
        clear hg
        have c_r0 := xr.cell 0 _ rfl
        have c_r1 := xr.cell 1 _ rfl
        have c_r2 := xr.cell 2 _ rfl
        have c_r3 := xr.cell 3 _ rfl
        have m_r0 := xr.mark 0 _ rfl
        have m_r1 := xr.mark 1 _ rfl
        have m_r2 := xr.mark 2 _ rfl
        have m_r3 := xr.mark 3 _ rfl
        have l_r := xr.lt (Nat.succ_pos _)
        go_wp2
        refine bodyPost_ret (v := .tuple #[.agg #[.int .u64 (wd ((ofList [lo])) 0), .int .u64 (wd ((ofList [lo])) 1), .int .u64 (wd ((ofList [lo])) 2), .int .u64 (wd ((ofList [lo])) 3)], .nilIface]) (by simp [results, Tryd.results54, go_sem, c_r0, c_r1, c_r2, c_r3]) rfl ?_
        exact RdEnd.ok HX.out.symm hjl (hK.put4 (Nat.le_refl _) _ _ _ _) (hR.far4 hne _ _ _ _)
      · have hdd0 : pre [45, 45] (t.drop j) = false := by simpa using hdd
        have hdash : (pre [45] (t.drop j) && !pre [45, 45] (t.drop j)) = true := by rw [hd, hdd0]; rfl
        have hj1 : j + 1 ≤ t.length := by have := pre_len hd; rw [List.length_drop] at this; simp at this; omega
        obtain ⟨j1, hj1'⟩ : ∃ x, j + 1 = x := ⟨_, rfl⟩
        have hdj : (t.drop j).drop 1 = t.drop j1 := by rw [List.drop_drop, hj1']
        rw [hj1'] at hj1
        have hw1 : IntKind.i64.wrap ((j : Int) + 1) = (j1 : Int) := by rw [IntWalk.i64_in _ (by omega)]; omega
        have HD := Lib.hid hd
        have HDD := Lib.hid hdd0
        have HH := Lib.hid (And.intro hx (And.intro hdash hdj))
        have HX := Lib.hid hX
        clear hd hdd hdd0 hj1' hx hdash hdj hX
        go_wp2_with fail
        go_at_call 41
        refine (begins_is p j t [45] true _ hR hjl HD.out).mono ?_; rintro e w3 ⟨rfl, hg⟩
        replace xr := xr.later hg
        replace hR := boxAt.later hR hg
        replace hK := hK.trans (Kp.gr hg)
        clear hg
        go_wp2_with fail
        go_at_call 41
        refine (begins_is p j t [45, 45] false _ hR hjl HDD.out).mono ?_; rintro e w4 ⟨rfl, hg⟩
        replace xr := xr.later hg
        replace hR := boxAt.later hR hg
        replace hK := hK.trans (Kp.gr hg)
        clear hg
        have c1 := boxAt.cell hR 1 _ rfl
        have m1 := boxAt.mark hR 1 _ rfl
        have lp4 := boxAt.lt hR (Nat.succ_pos _)
        go_wp2_with fail
        go_at_call 67
        refine name_calls (fun W5 hW => ?_)
        replace xr : boxAt W5 w.heap.size [.int .u64 0, .int .u64 0, .int .u64 0, .int .u64 0] := by rw [hW]; exact xr.far ⟨p, 1, none⟩ _ (by show p ≠ _; omega)
        replace hR : Rdr W5 p t j1 := by rw [hW]; exact boxAt.put hR 1 _ (by simp)
        replace hK : Kp p w W5 := by rw [hW]; exact hK.at_p 1 _
        clear hW c1 m1 lp4
        have H5 : Hid (w.heap.size < W5.heap.size) := xr.lt (by simp)
        refine (char_any p j1 t es ed W5 hR hT (hS'.out.kept hK)).mono ?_; rintro e w6 ⟨hK2, hm⟩
        replace xr := xr.kept hK2 hne (by simp)
        clear hR
        cases hy : charP (t.drop j1) with
        | none =>
          rw [hy] at hm
          have HX2 : Hid (X = .bad false (t.drop j1)) := by
            refine Lib.hid ?_
            rw [← HX.out, itemP_none2 HN.out HH.out.1 HH.out.2.1 (by rw [HH.out.2.2]; exact hy), HH.out.2.2]
          obtain ⟨er, rfl, hr, hA⟩ := hm
          obtain ⟨ty, y, rfl⟩ := hr.iface
          have HR := Lib.hid hr
          clear hr hy
          go_wp2_with fail
          go_at_call 68
          refine (range_any lo.toNat 0 w6 lo.toNat_lt (by decide)).mono ?_; rintro e w7 ⟨rfl, hg⟩
          replace xr := xr.later hg
          have c_r0 := xr.cell 0 _ rfl
          have c_r1 := xr.cell 1 _ rfl
          have c_r2 := xr.cell 2 _ rfl
          have c_r3 := xr.cell 3 _ rfl
          have m_r0 := xr.mark 0 _ rfl
          have m_r1 := xr.mark 1 _ rfl
          have m_r2 := xr.mark 2 _ rfl
          have m_r3 := xr.mark 3 _ rfl
          have l_r := xr.lt (Nat.succ_pos _)
          go_wp2
          refine bodyPost_ret (v := .tuple #[.agg #[.int .u64 (wd ((rangeSet lo.toNat 0)) 0), .int .u64 (wd ((rangeSet lo.toNat 0)) 1), .int .u64 (wd ((rangeSet lo.toNat 0)) 2), .int .u64 (wd ((rangeSet lo.toNat 0)) 3)], .iface ty y]) (by simp [results, Tryd.results54, go_sem, c_r0, c_r1, c_r2, c_r3]) rfl ?_
          refine RdEnd.bad (j := j1) HX2.out hj1 ((hK.trans (hK2.trans (Kp.gr hg))).put4 (Nat.le_refl _) _ _ _ _) ?_ ((hA.later hg).far4 hne _ _ _ _)
          refine Refused.mono (B := W5.heap.size) ?_ hK.size
          exact (HR.out.kept (Kp.gr (p := p) hg) (by have := H5.out; omega)).put4 _ H5.out _ _ _ _
        | some z =>
          obtain ⟨hi, q⟩ := z
          rw [hy] at hm
          obtain ⟨rfl, hR⟩ := hm
          obtain ⟨q0, hq1, hq2, rfl⟩ := charP_len hy
          rw [List.drop_drop] at hR
          rw [List.length_drop] at hq2
          obtain ⟨q, hq⟩ : ∃ q, j1 + q0 = q := ⟨_, rfl⟩
          rw [hq] at hR
          have hql : q ≤ t.length := by omega
          rw [List.length_drop, show t.length - (t.length - q) = q by omega] at hR
          replace hK := hK.trans hK2
          have l1 := lo.toNat_lt
          have l2 := hi.toNat_lt
          have hX2 : X = if hi.toNat < lo.toNat then .bad false (t.drop j1) else .ok (rangeSet lo.toNat hi.toNat) (t.drop q) := by
            rw [← HX.out, itemP_two HN.out HH.out.1 HH.out.2.1 (by rw [HH.out.2.2]; exact hy), HH.out.2.2, List.drop_drop, hq]
          clear hy hq1 hq2 hq hK2
          by_cases hlt : hi.toNat < lo.toNat
          · rw [if_pos hlt] at hX2
            have HX2 := Lib.hid hX2
            clear hX2
            have lp6 : p < w6.heap.size := by have := hK.size; omega
            have H6 : Hid (w.heap.size < w6.heap.size) := xr.lt (by simp)
            go_wp2_with fail
            go_at_call 33
            refine (syntax_any _ p es ed w6 (hS'.out.kept hK) lp6).mono ?_; rintro e w7 ⟨er, rfl, hr, hg⟩
            obtain ⟨ty, y, rfl⟩ := hr.iface
            have HR := Lib.hid hr
            replace xr := xr.later hg
            clear hr
            go_wp2_with fail
            go_at_call 68
            refine (range_any lo.toNat hi.toNat w7 l1 l2).mono ?_; rintro e w8 ⟨rfl, hg8⟩
            replace xr := xr.later hg8
            have c_r0 := xr.cell 0 _ rfl
            have c_r1 := xr.cell 1 _ rfl
            have c_r2 := xr.cell 2 _ rfl
            have c_r3 := xr.cell 3 _ rfl
            have m_r0 := xr.mark 0 _ rfl
            have m_r1 := xr.mark 1 _ rfl
            have m_r2 := xr.mark 2 _ rfl
            have m_r3 := xr.mark 3 _ rfl
            have l_r := xr.lt (Nat.succ_pos _)
            go_wp2
            refine bodyPost_ret (v := .tuple #[.agg #[.int .u64 (wd ((rangeSet lo.toNat hi.toNat)) 0), .int .u64 (wd ((rangeSet lo.toNat hi.toNat)) 1), .int .u64 (wd ((rangeSet lo.toNat hi.toNat)) 2), .int .u64 (wd ((rangeSet lo.toNat hi.toNat)) 3)], .iface ty y]) (by simp [results, Tryd.results54, go_sem, c_r0, c_r1, c_r2, c_r3]) rfl ?_
            refine RdEnd.bad (j := j1) HX2.out hj1 ((hK.trans (Kp.gr (hg.trans hg8))).put4 (Nat.le_refl _) _ _ _ _) ?_ (Any.far4 ⟨_, boxAt.later hR (hg.trans hg8)⟩ hne _ _ _ _)
            refine Refused.mono (B := w6.heap.size) ?_ hK.size
            exact (HR.out.kept (Kp.gr (p := p) hg8) lp6).put4 _ H6.out _ _ _ _
          · rw [if_neg hlt] at hX2
            have HX2 := Lib.hid hX2
            clear hX2
            go_wp2_with fail
            go_at_call 68
            refine (range_any lo.toNat hi.toNat w6 l1 l2).mono ?_; rintro e w7 ⟨rfl, hg⟩
            replace xr := xr.later hg
            have c_r0 := xr.cell 0 _ rfl
            have c_r1 := xr.cell 1 _ rfl
            have c_r2 := xr.cell 2 _ rfl
            have c_r3 := xr.cell 3 _ rfl
            have m_r0 := xr.mark 0 _ rfl
            have m_r1 := xr.mark 1 _ rfl
            have m_r2 := xr.mark 2 _ rfl
            have m_r3 := xr.mark 3 _ rfl
            have l_r := xr.lt (Nat.succ_pos _)
            go_wp2
            refine bodyPost_ret (v := .tuple #[.agg #[.int .u64 (wd ((rangeSet lo.toNat hi.toNat)) 0), .int .u64 (wd ((rangeSet lo.toNat hi.toNat)) 1), .int .u64 (wd ((rangeSet lo.toNat hi.toNat)) 2), .int .u64 (wd ((rangeSet lo.toNat hi.toNat)) 3)], .nilIface]) (by simp [results, Tryd.results54, go_sem, c_r0, c_r1, c_r2, c_r3]) rfl ?_
            exact RdEnd.ok HX2.out hql ((hK.trans (Kp.gr hg)).put4 (Nat.le_refl _) _ _ _ _) (boxAt.far4 (boxAt.later hR hg) hne _ _ _ _)
    · have hd0 : pre [45] (t.drop j) = false := by simpa using hd
      rw [itemP_one HN.out hx (by rw [hd0]; rfl)] at hX
      have HX := Lib.hid hX
      have HD := Lib.hid hd0
      clear hd hd0 hx hX
      go_wp2_with fail
      go_at_call 41
      refine (begins_is p j t [45] false _ hR hjl HD.out).mono ?_; rintro e w3 ⟨rfl, hg⟩
      replace xr := xr.later hg
      replace hR := boxAt.later hR hg
      replace hK := hK.trans (Kp.gr hg)
      clear hg
      go_wp2_with fail
      go_at_call 19
      refine name_calls (fun W8 hW => ?_)
      have hsl : Sl W8 (.slice (some ⟨w3.heap.size, 0, none⟩) 1 1) 1 1 (([lo] : List UInt8).map vB) := by rw [hW]; exact sl_alloc w3 (([lo] : List UInt8).map vB) 5 1 1 rfl (by unfold maxLen; omega)
      have hg : Gr w3 W8 := by rw [hW]; exact Gr.alloc _ _
      replace xr := xr.later hg
      replace hR := boxAt.later hR hg
      replace hK := hK.trans (Kp.gr hg)
      clear hg
      clear hW
      refine (of_is [lo] (ofList [lo]) _ W8 hsl rfl).mono ?_; rintro e w5 ⟨rfl, hg⟩
      replace xr := xr.later hg
      replace hR := boxAt.later hR hg
      replace hK := hK.trans (Kp.gr hg)
      clear hg
      have c_r0 := xr.cell 0 _ rfl
      have c_r1 := xr.cell 1 _ rfl
      have c_r2 := xr.cell 2 _ rfl
      have c_r3 := xr.cell 3 _ rfl
      have m_r0 := xr.mark 0 _ rfl
      have m_r1 := xr.mark 1 _ rfl
      have m_r2 := xr.mark 2 _ rfl
      have m_r3 := xr.mark 3 _ rfl
      have l_r := xr.lt (Nat.succ_pos _)
      go_wp2
      refine bodyPost_ret (v := .tuple #[.agg #[.int .u64 (wd ((ofList [lo])) 0), .int .u64 (wd ((ofList [lo])) 1), .int .u64 (wd ((ofList [lo])) 2), .int .u64 (wd ((ofList [lo])) 3)], .nilIface]) (by simp [results, Tryd.results54, go_sem, c_r0, c_r1, c_r2, c_r3]) rfl ?_
      exact RdEnd.ok HX.out.symm hjl (hK.put4 (Nat.le_refl _) _ _ _ _) (hR.far4 hne _ _ _ _)

end Go.Proofs.YtihjmeoklbmnmaaDoor
