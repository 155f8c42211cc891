/- class: name. No condition but a length's bound. -/
import Derived.Test.YtihjmeoklbmnmaaDoorNamed
import Derived.RegionTactic
namespace Go.Proofs.YtihjmeoklbmnmaaDoor
open Go Go.RowKit

/-- How a reading ends. -/
def refE (es ed : Value) (d : Bool) : Value := if d then ed else es
def RdEnd (es ed : Value) (p : Nat) (t : List UInt8) (w : World) (x : Rd) (e : Ending) (w' : World) : Prop :=
  Kp p w w' ∧ match x with
    | .ok s r => e = .returned (.tuple #[.agg #[.int .u64 (wd s 0), .int .u64 (wd s 1), .int .u64 (wd s 2), .int .u64 (wd s 3)], .nilIface]) ∧ Rdr w' p t (t.length - r.length)
    | .bad d r => ∃ (s : BitVec 256) (er : Value), e = .returned (.tuple #[.agg #[.int .u64 (wd s 0), .int .u64 (wd s 1), .int .u64 (wd s 2), .int .u64 (wd s 3)], er]) ∧ Refused w' w.heap.size (refE es ed d) er ((t.length - r.length : Nat) : Int) ∧ Any w' p t
theorem RdEnd.ok {es ed : Value} {p j : Nat} {t : List UInt8} {w w' : World} {s : BitVec 256} {x : Rd} (he : x = .ok s (t.drop j)) (hj : j ≤ t.length) (hK : Kp p w w') (hR : Rdr w' p t j) :
    RdEnd es ed p t w x (.returned (.tuple #[.agg #[.int .u64 (wd s 0), .int .u64 (wd s 1), .int .u64 (wd s 2), .int .u64 (wd s 3)], .nilIface])) w' := by
  subst he
  refine ⟨hK, rfl, ?_⟩
  rw [List.length_drop, show t.length - (t.length - j) = j by omega]; exact hR
theorem RdEnd.bad {es ed er : Value} {p j : Nat} {t : List UInt8} {w w' : World} {s : BitVec 256} {x : Rd} {d : Bool} (he : x = .bad d (t.drop j)) (hj : j ≤ t.length) (hK : Kp p w w') (hR : Refused w' w.heap.size (refE es ed d) er (j : Int)) (hA : Any w' p t) :
    RdEnd es ed p t w x (.returned (.tuple #[.agg #[.int .u64 (wd s 0), .int .u64 (wd s 1), .int .u64 (wd s 2), .int .u64 (wd s 3)], er])) w' := by
  subst he
  refine ⟨hK, s, er, rfl, ?_, hA⟩
  rw [List.length_drop, show t.length - (t.length - j) = j by omega]; exact hR

/-! ### strings.Cut at ':]' -/

theorem cut_index : ∀ l : List UInt8, (∀ b, cutAt l = some b → Lib.index l [58, 93] = (b.length : Int) ∧ l.take b.length = b) ∧ (cutAt l = none → Lib.index l [58, 93] = -1)
  | [] => ⟨fun b h => (by cases h), fun _ => rfl⟩
  | c :: l => by
    obtain ⟨h1, h2⟩ := cut_index l
    rw [cutAt_cons]
    unfold Lib.index
    by_cases h : pre [58, 93] (c :: l) = true
    · rw [if_pos h]
      unfold pre at h
      rw [if_pos h]
      exact ⟨fun b hb => by injection hb with hb; subst hb; exact ⟨rfl, rfl⟩, fun hb => (by cases hb)⟩
    · rw [if_neg h]
      unfold pre at h
      rw [if_neg h]
      cases hc : cutAt l with
      | none =>
        refine ⟨fun b hb => (by cases hb), fun _ => ?_⟩
        rw [h2 hc]; rfl
      | some b' =>
        obtain ⟨h3, h4⟩ := h1 b' hc
        refine ⟨fun b hb => ?_, fun hb => (by cases hb)⟩
        injection hb with hb
        subst hb
        rw [h3]
        have : ((b'.length : Int) == -1) = false := by rw [beq_eq_false_iff_ne]; omega
        rw [this]
        refine ⟨by simp, ?_⟩
        rw [List.length_cons, List.take_succ_cons, h4]
theorem cut_some (l b : List UInt8) (m : Int) (w : World) (h : cutAt l = some b) (hl : l.length < 4294967281) (hm : w.cell? ⟨17, 0, none⟩ = some (.int .i64 m)) :
    Calls Tryd.prog 73 #[.string (st l), .string { data := #[58, 93] }] w fun e w' => (∃ r, e = .returned (.tuple #[.string (st b), .string (st r), .bool true])) ∧ Gr w w' := by
  obtain ⟨h1, h2⟩ := (cut_index l).1 b h
  refine (Tryd.strings_Cut (st l) { data := #[58, 93] } m w (by rw [st_size]; exact hl) hm).mono ?_
  rintro e w' ⟨rfl, n, rfl⟩
  refine ⟨⟨l.drop (b.length + 2), ?_⟩, Gr.drewN _ n⟩
  rw [st_data, show ({ data := #[58, 93] } : ByteArray).data.toList = [58, 93] from rfl]
  unfold Lib.cut
  rw [h1, if_pos (by omega), Int.toNat_natCast, h2]
  rfl
theorem cut_none (l : List UInt8) (m : Int) (w : World) (h : cutAt l = none) (hl : l.length < 4294967281) (hm : w.cell? ⟨17, 0, none⟩ = some (.int .i64 m)) :
    Calls Tryd.prog 73 #[.string (st l), .string { data := #[58, 93] }] w fun e w' => (∃ r, e = .returned (.tuple #[.string (st l), .string (st r), .bool false])) ∧ Gr w w' := by
  have h1 := (cut_index l).2 h
  refine (Tryd.strings_Cut (st l) { data := #[58, 93] } m w (by rw [st_size]; exact hl) hm).mono ?_
  rintro e w' ⟨rfl, n, rfl⟩
  refine ⟨⟨[], ?_⟩, Gr.drewN _ n⟩
  rw [st_data, show ({ data := #[58, 93] } : ByteArray).data.toList = [58, 93] from rfl]
  unfold Lib.cut
  rw [h1, if_neg (by omega)]
  rfl

theorem name_end {P : Program} {f : Func} {R : Ending → World → Prop} {x : Exit} {a : Act} {w0 : World} (h : ∀ W, W = w0 → bodyPost P f R x a W) : bodyPost P f R x a w0 := h _ rfl
set_option maxRecDepth 100000 in
set_option maxHeartbeats 8000000 in
theorem name_any (p k : Nat) (t : List UInt8) (es ed : Value) (w : World) (h : Rdr w p t k) (hk : k + 2 ≤ t.length) (hT : (t.length : Int) ≤ 4294967280) (hS : Sy w p es ed) :
    Calls Tryd.prog 66 #[.pointer (some ⟨p, 0, none⟩)] w (RdEnd es ed p t w (nameP (t.drop k))) := by
  obtain ⟨m, hm⟩ := hS.max
  obtain ⟨k2, hk2⟩ : ∃ x, k + 2 = x := ⟨_, rfl⟩
  have hw2 : IntKind.i64.wrap ((k : Int) + 2) = (k2 : Int) := by rw [IntWalk.i64_in _ (by omega)]; omega
  have hsl := fun w' => run_from (P := Tryd.prog) w' 9 t k2 .i64 Tryd.underlying9 (by omega)
  obtain ⟨l, hl⟩ : ∃ l, t.drop k2 = l := ⟨_, rfl⟩
  have hll : l.length < 4294967281 := by rw [← hl, List.length_drop]; omega
  rw [hl] at hsl
  have hS' := Lib.hid hS
  have HM := Lib.hid hm
  have H0 := Lib.hid h
  have HK := Lib.hid (show k + 2 = k2 ∧ k2 ≤ t.length ∧ t.drop k2 = l ∧ l.length < 4294967281 from ⟨hk2, by omega, hl, hll⟩)
  have hnp : nameP (t.drop k) = (match cutAt l with
      | none => .bad false (t.drop k)
      | some b => match namedS b with
        | none => .bad false (t.drop k)
        | some s => .ok s ((t.drop k).drop (b.length + 4))) := by
    unfold nameP
    rw [List.drop_drop, hk2, hl]
    cases cutAt l with
    | none => rfl
    | some b => cases namedS b <;> rfl
  have c0 := boxAt.cell h 0 _ rfl
  have c1 := boxAt.cell h 1 _ rfl
  have lp := boxAt.lt h (Nat.succ_pos _)
  clear hS hm h hk hk2 hl hll
  cases hcut : cutAt l with
  | none =>
    rw [hcut] at hnp
    have HC := Lib.hid hcut
    have HN := Lib.hid hnp
    clear hcut hnp
    go_enter Tryd.func66, Tryd.ntmps66
    go_wp2_with fail
    refine name_world (fun W hW => ?_)
    have xr : boxAt W w.heap.size [.int .u64 0, .int .u64 0, .int .u64 0, .int .u64 0] := boxAt.new _ _ hW
    have hgW : Gr w W := by rw [hW]; exact Gr.alloc _ _
    have d0 := hgW.cell c0
    have d1 := hgW.cell c1
    have lW : p < W.heap.size := by have := hgW.size; omega
    have HM2 := Lib.hid (hgW.cell HM.out)
    clear hW c0 c1
    refine wp_region_G (.take 0 (.take 1 (.take 2 (.take 3 (.take 4 (.take 5 (.take 6 (.take 7 (.take 8 (.take 9 (.run 10 false (.take 11 (.take 12 (.take 13 (.take 14 (.run 15 false (.run 16 false (.run 17 true .nil)))))))))))))))))) (by kernel_rfl) (by kernel_rfl) ?_
    simp only [pickOps, nthOp]
    intro wq hG
    repeat (first | (refine wpG_skip_take ?_ ?_; (focus rfl); try simp only [Act.put, List.setIfInBounds_toArray, List.set_cons_zero, List.set_cons_succ]) | (refine wpG_skip_run ?_ ?_; (focus rfl); try simp only [Act.put, List.setIfInBounds_toArray, List.set_cons_zero, List.set_cons_succ]) | (refine wpG_take ?_ ?_; (focus rfl); apply Exists.intro; refine ⟨fun w' hw' => ?_, ?_⟩; (focus (have hc := Gr.cells hw'; go_simp; (try rfl); done)); try simp only [Act.put, List.setIfInBounds_toArray, List.set_cons_zero, List.set_cons_succ]) | (refine wpG_run ?_ (fun K hK => ?_); (focus rfl); go_simp; (first | (go_at_call 73; (with_reducible refine (cut_none l m _ HC.out HK.out.2.2.2 (hG.cell HM2.out)).mono ?_); rintro e w' ⟨⟨r, rfl⟩, hb⟩) | (have hb := Gr.refl w')); (try dsimp only); replace hG := hG.trans hb; refine hK.out _ _ hG ?_; clear hK K hb; try simp only [Act.put, List.setIfInBounds_toArray, List.set_cons_zero, List.set_cons_succ]))
    refine wpG_last ?_ (fun K hK => ?_); (focus rfl)
    have hc := hG.cells
    have hm := hG.marks
    go_simp
    refine hK.out _ _ ?_
    try simp only [Act.put, List.setIfInBounds_toArray, List.set_cons_zero, List.set_cons_succ]
    clear hK K hc hm
    refine wpG_done ?_
    obtain ⟨w3, hw3⟩ : ∃ x, x = w' := ⟨_, rfl⟩
    rw [← hw3] at hG ⊢
    clear hw3
    have hg3 := hgW.trans hG
    have xr3 := xr.later hG
    have hR3 : Rdr w3 p t k := boxAt.later H0.out hg3
    clear hG
    go_wp2_with fail
    go_at_call 74
    refine (named_all l w3).mono ?_; rintro e w4 ⟨hm4, hg4⟩
    obtain ⟨s, q, rfl⟩ : ∃ (s : BitVec 256) (q : Bool), e = .returned (.tuple #[.agg #[.int .u64 (wd s 0), .int .u64 (wd s 1), .int .u64 (wd s 2), .int .u64 (wd s 3)], .bool q]) := by
      cases hq : namedS l with
      | none => rw [hq] at hm4; exact ⟨_, _, hm4⟩
      | some s => rw [hq] at hm4; exact ⟨_, _, hm4⟩
    clear hm4
    go_wp2_with fail
    refine name_world (fun W5 hW5 => ?_)
    have xs : boxAt W5 w4.heap.size [.int .u64 (wd s 0), .int .u64 (wd s 1), .int .u64 (wd s 2), .int .u64 (wd s 3)] := boxAt.new _ _ hW5
    have hg5 : Gr w4 W5 := by rw [hW5]; exact Gr.alloc _ _
    have hgw5 := (hg3.trans hg4).trans hg5
    have xr5 := (xr3.later hg4).later hg5
    have hR5 : Rdr W5 p t k := boxAt.later H0.out hgw5
    have HS5 : Hid (∀ W6, Gr W5 W6 → Sy W6 p es ed ∧ p < W6.heap.size) := fun W6 h6 => ⟨hS'.out.kept (Kp.gr (hgw5.trans h6)), by have := (hgw5.trans h6).size; omega⟩
    clear hW5
    have c1 := boxAt.cell hR5 1 _ rfl
    have lp5 := boxAt.lt hR5 (Nat.succ_pos _)
    have c_s0 := xs.cell 0 _ rfl
    have c_s1 := xs.cell 1 _ rfl
    have c_s2 := xs.cell 2 _ rfl
    have c_s3 := xs.cell 3 _ rfl
    have m_s0 := xs.mark 0 _ rfl
    have m_s1 := xs.mark 1 _ rfl
    have m_s2 := xs.mark 2 _ rfl
    have m_s3 := xs.mark 3 _ rfl
    have l_s := xs.lt (Nat.succ_pos _)
    have c_r0 := xr5.cell 0 _ rfl
    have c_r1 := xr5.cell 1 _ rfl
    have c_r2 := xr5.cell 2 _ rfl
    have c_r3 := xr5.cell 3 _ rfl
    have m_r0 := xr5.mark 0 _ rfl
    have m_r1 := xr5.mark 1 _ rfl
    have m_r2 := xr5.mark 2 _ rfl
    have m_r3 := xr5.mark 3 _ rfl
    have l_r := xr5.lt (Nat.succ_pos _)
    go_region_with (go_at_call 33; (with_reducible refine (syntax_any _ p es ed _ (HS5.out _ (Gr.drew _)).1 (HS5.out _ (Gr.drew _)).2).mono ?_); rintro e w2 ⟨er, rfl, hr, hg2⟩; have hc := ((Gr.drew W5).trans hg2).cells; have hm := ((Gr.drew W5).trans hg2).marks)
    all_goals
      go_wp2
      refine bodyPost_ret (v := .tuple #[.agg #[.int .u64 (wd s 0), .int .u64 (wd s 1), .int .u64 (wd s 2), .int .u64 (wd s 3)], er]) (by simp [results, Tryd.results66, go_sem, hc, l_r, c_r0, c_r1, c_r2, c_r3]) rfl ?_
      refine RdEnd.bad HN.out (by have := HK.out; omega) (((Kp.gr hgw5).trans (Kp.gr ((Gr.drew W5).trans hg2))).put4 (Nat.le_refl _) _ _ _ _) ?_ (Any.far4 ⟨_, boxAt.later hR5 ((Gr.drew W5).trans hg2)⟩ (by omega) _ _ _ _)
      refine Refused.mono (B := W5.heap.size) ?_ (hgw5.size)
      exact Refused.put4 hr _ l_r _ _ _ _
  | some b =>
    rw [hcut] at hnp
    dsimp only at hnp
    have HC := Lib.hid hcut
    obtain ⟨nb, hnb⟩ : ∃ x, b.length = x := ⟨_, rfl⟩
    have hszb : (st b).size = nb := by rw [st_size, hnb]
    have hcl := cutAt_len hcut
    obtain ⟨n4, hn4⟩ : ∃ x, nb + 4 = x := ⟨_, rfl⟩
    obtain ⟨k5, hk5⟩ : ∃ x, k + n4 = x := ⟨_, rfl⟩
    have hkk := HK.out
    have hll : l.length = t.length - k2 := by rw [← hkk.2.2.1, List.length_drop]
    have hw4 : IntKind.i64.wrap ((nb : Int) + 4) = (n4 : Int) := by rw [IntWalk.i64_in _ (by omega)]; omega
    have hw5 : IntKind.i64.wrap ((k : Int) + (n4 : Int)) = (k5 : Int) := by rw [IntWalk.i64_in _ (by omega)]; omega
    have HK5 := Lib.hid (show k5 ≤ t.length ∧ (t.drop k).drop (b.length + 4) = t.drop k5 from ⟨by omega, by rw [List.drop_drop, hnb, show k + (nb + 4) = k5 by omega]⟩)
    clear hcut hnb hcl hn4 hk5 hkk hll
    cases hns : namedS b with
    | none =>
      rw [hns] at hnp
      dsimp only at hnp
      have HN := Lib.hid hnp
      have HNS := Lib.hid hns
      clear hnp hns
      go_enter Tryd.func66, Tryd.ntmps66
      go_wp2_with fail
      refine name_world (fun W hW => ?_)
      have xr : boxAt W w.heap.size [.int .u64 0, .int .u64 0, .int .u64 0, .int .u64 0] := boxAt.new _ _ hW
      have hgW : Gr w W := by rw [hW]; exact Gr.alloc _ _
      have d0 := hgW.cell c0
      have d1 := hgW.cell c1
      have lW : p < W.heap.size := by have := hgW.size; omega
      have HM2 := Lib.hid (hgW.cell HM.out)
      clear hW c0 c1
      refine wp_region_G (.take 0 (.take 1 (.take 2 (.take 3 (.take 4 (.take 5 (.take 6 (.take 7 (.take 8 (.take 9 (.run 10 false (.take 11 (.take 12 (.take 13 (.take 14 (.run 15 false (.run 16 false (.run 17 true .nil)))))))))))))))))) (by kernel_rfl) (by kernel_rfl) ?_
      simp only [pickOps, nthOp]
      intro wq hG
      repeat (first | (refine wpG_skip_take ?_ ?_; (focus rfl); try simp only [Act.put, List.setIfInBounds_toArray, List.set_cons_zero, List.set_cons_succ]) | (refine wpG_skip_run ?_ ?_; (focus rfl); try simp only [Act.put, List.setIfInBounds_toArray, List.set_cons_zero, List.set_cons_succ]) | (refine wpG_take ?_ ?_; (focus rfl); apply Exists.intro; refine ⟨fun w' hw' => ?_, ?_⟩; (focus (have hc := Gr.cells hw'; go_simp; (try rfl); done)); try simp only [Act.put, List.setIfInBounds_toArray, List.set_cons_zero, List.set_cons_succ]) | (refine wpG_run ?_ (fun K hK => ?_); (focus rfl); go_simp; (first | (go_at_call 73; (with_reducible refine (cut_some l b m _ HC.out HK.out.2.2.2 (hG.cell HM2.out)).mono ?_); rintro e w' ⟨⟨r, rfl⟩, hb⟩) | (have hb := Gr.refl w')); (try dsimp only); replace hG := hG.trans hb; refine hK.out _ _ hG ?_; clear hK K hb; try simp only [Act.put, List.setIfInBounds_toArray, List.set_cons_zero, List.set_cons_succ]))
      refine wpG_last ?_ (fun K hK => ?_); (focus rfl)
      have hc := hG.cells
      have hm := hG.marks
      go_simp
      refine hK.out _ _ ?_
      try simp only [Act.put, List.setIfInBounds_toArray, List.set_cons_zero, List.set_cons_succ]
      clear hK K hc hm
      refine wpG_done ?_
      obtain ⟨w3, hw3⟩ : ∃ x, x = w' := ⟨_, rfl⟩
      rw [← hw3] at hG ⊢
      clear hw3
      have hg3 := hgW.trans hG
      have xr3 := xr.later hG
      have hR3 : Rdr w3 p t k := boxAt.later H0.out hg3
      clear hG
      go_wp2_with fail
      go_at_call 74
      have hna := named_all b w3
      rw [HNS.out] at hna
      refine hna.mono ?_; clear hna; rintro e w4 ⟨rfl, hg4⟩
      obtain ⟨s, hs0⟩ : ∃ s, emptyS = s := ⟨_, rfl⟩
      rw [hs0]
      clear hs0
      go_wp2_with fail
      refine name_world (fun W5 hW5 => ?_)
      have xs : boxAt W5 w4.heap.size [.int .u64 (wd s 0), .int .u64 (wd s 1), .int .u64 (wd s 2), .int .u64 (wd s 3)] := boxAt.new _ _ hW5
      have hg5 : Gr w4 W5 := by rw [hW5]; exact Gr.alloc _ _
      have hgw5 := (hg3.trans hg4).trans hg5
      have xr5 := (xr3.later hg4).later hg5
      have hR5 : Rdr W5 p t k := boxAt.later H0.out hgw5
      have HS5 : Hid (∀ W6, Gr W5 W6 → Sy W6 p es ed ∧ p < W6.heap.size) := fun W6 h6 => ⟨hS'.out.kept (Kp.gr (hgw5.trans h6)), by have := (hgw5.trans h6).size; omega⟩
      clear hW5
      have c1 := boxAt.cell hR5 1 _ rfl
      have lp5 := boxAt.lt hR5 (Nat.succ_pos _)
      have c_s0 := xs.cell 0 _ rfl
      have c_s1 := xs.cell 1 _ rfl
      have c_s2 := xs.cell 2 _ rfl
      have c_s3 := xs.cell 3 _ rfl
      have m_s0 := xs.mark 0 _ rfl
      have m_s1 := xs.mark 1 _ rfl
      have m_s2 := xs.mark 2 _ rfl
      have m_s3 := xs.mark 3 _ rfl
      have l_s := xs.lt (Nat.succ_pos _)
      have c_r0 := xr5.cell 0 _ rfl
      have c_r1 := xr5.cell 1 _ rfl
      have c_r2 := xr5.cell 2 _ rfl
      have c_r3 := xr5.cell 3 _ rfl
      have m_r0 := xr5.mark 0 _ rfl
      have m_r1 := xr5.mark 1 _ rfl
      have m_r2 := xr5.mark 2 _ rfl
      have m_r3 := xr5.mark 3 _ rfl
      have l_r := xr5.lt (Nat.succ_pos _)
      go_region_with (go_at_call 33; (with_reducible refine (syntax_any _ p es ed _ (HS5.out _ (Gr.drew _)).1 (HS5.out _ (Gr.drew _)).2).mono ?_); rintro e w2 ⟨er, rfl, hr, hg2⟩; have hc := ((Gr.drew W5).trans hg2).cells; have hm := ((Gr.drew W5).trans hg2).marks)
      all_goals
        go_wp2
        refine bodyPost_ret (v := .tuple #[.agg #[.int .u64 (wd s 0), .int .u64 (wd s 1), .int .u64 (wd s 2), .int .u64 (wd s 3)], er]) (by simp [results, Tryd.results66, go_sem, hc, l_r, c_r0, c_r1, c_r2, c_r3]) rfl ?_
        refine RdEnd.bad HN.out (by have := HK.out; omega) (((Kp.gr hgw5).trans (Kp.gr ((Gr.drew W5).trans hg2))).put4 (Nat.le_refl _) _ _ _ _) ?_ (Any.far4 ⟨_, boxAt.later hR5 ((Gr.drew W5).trans hg2)⟩ (by omega) _ _ _ _)
        refine Refused.mono (B := W5.heap.size) ?_ (hgw5.size)
        exact Refused.put4 hr _ l_r _ _ _ _
    | some s =>
      rw [hns] at hnp
      dsimp only at hnp
      have HN := Lib.hid hnp
      have HNS := Lib.hid hns
      clear hnp hns
      go_enter Tryd.func66, Tryd.ntmps66
      go_wp2_with fail
      refine name_world (fun W hW => ?_)
      have xr : boxAt W w.heap.size [.int .u64 0, .int .u64 0, .int .u64 0, .int .u64 0] := boxAt.new _ _ hW
      have hgW : Gr w W := by rw [hW]; exact Gr.alloc _ _
      have d0 := hgW.cell c0
      have d1 := hgW.cell c1
      have lW : p < W.heap.size := by have := hgW.size; omega
      have HM2 := Lib.hid (hgW.cell HM.out)
      clear hW c0 c1
      refine wp_region_G (.take 0 (.take 1 (.take 2 (.take 3 (.take 4 (.take 5 (.take 6 (.take 7 (.take 8 (.take 9 (.run 10 false (.take 11 (.take 12 (.take 13 (.take 14 (.run 15 false (.run 16 false (.run 17 true .nil)))))))))))))))))) (by kernel_rfl) (by kernel_rfl) ?_
      simp only [pickOps, nthOp]
      intro wq hG
      repeat (first | (refine wpG_skip_take ?_ ?_; (focus rfl); try simp only [Act.put, List.setIfInBounds_toArray, List.set_cons_zero, List.set_cons_succ]) | (refine wpG_skip_run ?_ ?_; (focus rfl); try simp only [Act.put, List.setIfInBounds_toArray, List.set_cons_zero, List.set_cons_succ]) | (refine wpG_take ?_ ?_; (focus rfl); apply Exists.intro; refine ⟨fun w' hw' => ?_, ?_⟩; (focus (have hc := Gr.cells hw'; go_simp; (try rfl); done)); try simp only [Act.put, List.setIfInBounds_toArray, List.set_cons_zero, List.set_cons_succ]) | (refine wpG_run ?_ (fun K hK => ?_); (focus rfl); go_simp; (first | (go_at_call 73; (with_reducible refine (cut_some l b m _ HC.out HK.out.2.2.2 (hG.cell HM2.out)).mono ?_); rintro e w' ⟨⟨r, rfl⟩, hb⟩) | (have hb := Gr.refl w')); (try dsimp only); replace hG := hG.trans hb; refine hK.out _ _ hG ?_; clear hK K hb; try simp only [Act.put, List.setIfInBounds_toArray, List.set_cons_zero, List.set_cons_succ]))
      refine wpG_last ?_ (fun K hK => ?_); (focus rfl)
      have hc := hG.cells
      have hm := hG.marks
      go_simp
      refine hK.out _ _ ?_
      try simp only [Act.put, List.setIfInBounds_toArray, List.set_cons_zero, List.set_cons_succ]
      clear hK K hc hm
      refine wpG_done ?_
      obtain ⟨w3, hw3⟩ : ∃ x, x = w' := ⟨_, rfl⟩
      rw [← hw3] at hG ⊢
      clear hw3
      have hg3 := hgW.trans hG
      have xr3 := xr.later hG
      have hR3 : Rdr w3 p t k := boxAt.later H0.out hg3
      clear hG
      go_wp2_with fail
      go_at_call 74
      have hna := named_all b w3
      rw [HNS.out] at hna
      refine hna.mono ?_; clear hna; rintro e w4 ⟨rfl, hg4⟩
      have hg4w := hg3.trans hg4
      have xr4 := xr3.later hg4
      have hR4 : Rdr w4 p t k := boxAt.later hR3 hg4
      have HR4 := Lib.hid hR4
      have HX4 := Lib.hid xr4
      have c1 := boxAt.cell hR4 1 _ rfl
      have m1 := boxAt.mark hR4 1 _ rfl
      have lp4 := boxAt.lt hR4 (Nat.succ_pos _)
      have c_r0 := xr4.cell 0 _ rfl
      have c_r1 := xr4.cell 1 _ rfl
      have c_r2 := xr4.cell 2 _ rfl
      have c_r3 := xr4.cell 3 _ rfl
      have m_r0 := xr4.mark 0 _ rfl
      have m_r1 := xr4.mark 1 _ rfl
      have m_r2 := xr4.mark 2 _ rfl
      have m_r3 := xr4.mark 3 _ rfl
      have l_r := xr4.lt (Nat.succ_pos _)
      clear xr4 hR4 hR3 xr3 xr
      go_wp2
      refine name_end (fun W6 hW6 => ?_)
      have xr6 : boxAt W6 w.heap.size [.int .u64 (wd s 0), .int .u64 (wd s 1), .int .u64 (wd s 2), .int .u64 (wd s 3)] := by
        rw [hW6]; exact boxAt.later ((HX4.out.far ⟨p, 1, none⟩ _ (by show p ≠ _; omega)).put4 _ _ _ _) (Gr.alloc _ _)
      clear c_r0 c_r1 c_r2 c_r3 m_r0 m_r1 m_r2 m_r3 l_r
      have c_r0 := xr6.cell 0 _ rfl
      have c_r1 := xr6.cell 1 _ rfl
      have c_r2 := xr6.cell 2 _ rfl
      have c_r3 := xr6.cell 3 _ rfl
      have m_r0 := xr6.mark 0 _ rfl
      have m_r1 := xr6.mark 1 _ rfl
      have m_r2 := xr6.mark 2 _ rfl
      have m_r3 := xr6.mark 3 _ rfl
      have l_r := xr6.lt (Nat.succ_pos _)
      refine bodyPost_ret (v := .tuple #[.agg #[.int .u64 (wd s 0), .int .u64 (wd s 1), .int .u64 (wd s 2), .int .u64 (wd s 3)], .nilIface]) (by simp [results, Tryd.results66, go_sem, c_r0, c_r1, c_r2, c_r3]) rfl ?_
      rw [hW6]
      refine RdEnd.ok (by rw [HN.out, HK5.out.2]) HK5.out.1 ((((Kp.gr hg4w).at_p 1 _).put4 (Nat.le_refl _) _ _ _ _).trans (Kp.gr (Gr.alloc _ _))) ?_
      exact boxAt.later ((boxAt.put HR4.out 1 _ (by simp)).far4 (by omega) _ _ _ _) (Gr.alloc _ _)

end Go.Proofs.YtihjmeoklbmnmaaDoor
