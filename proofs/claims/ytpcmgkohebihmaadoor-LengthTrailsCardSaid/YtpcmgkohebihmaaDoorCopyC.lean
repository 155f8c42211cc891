/- CopyCores of bolterref0. No condition. -/
import Derived.Test.YtpcmgkohebihmaaDoorCopyE
import Derived.Test.YtpcmgkohebihmaaDoorEqCo
namespace Go.Proofs.YtpcmgkohebihmaaDoor
open Go Go.RowKit

def CoOwn (S : Nat → Prop) (w : World) (x : Co) (cs : List Value) : Prop := ∃ ds es, cs = ds ++ .bool x.has :: es ∧ ExOwn S w x.head ds ∧ ExOwn S w x.trail es
theorem keeps_co : Keeps CoOwn := fun _ _ _ _ _ _ ⟨ds, es, e, h1, h2⟩ hb hS => ⟨ds, es, e, h1.keep hb hS, h2.keep hb hS⟩
theorem CoOwn.coIn {S : Nat → Prop} {w : World} {x : Co} {cs : List Value} (h : CoOwn S w x cs) : CoIn w x cs := by
  obtain ⟨ds, es, rfl, h1, h2⟩ := h
  obtain ⟨e, b, f⟩ := x
  exact .mk e b f ds es h1.exIn h2.exIn
theorem info_co : (Tryd.prog.info? 52).map (fun i => (i.zero, i.size, i.bytes)) = some (some (.agg #[.int .i64 0, .int .i64 0, .int .u64 0, .int .u64 0, .int .u64 0, .int .u64 0, .string ⟨#[]⟩, .int .i64 0, .int .i64 0, .slice none 0 0, .bool false, .int .i64 0, .int .i64 0, .int .u64 0, .int .u64 0, .int .u64 0, .int .u64 0, .string ⟨#[]⟩, .int .i64 0, .int .i64 0, .slice none 0 0]), 21, 216) := by kernel_rfl
theorem co_ones (op pos : Int) (s : BitVec 256) (text : ByteArray) (mn mx : Int) (p : Option Addr) (n c : Nat) (hb : Bool) (op2 pos2 : Int) (s2 : BitVec 256) (text2 : ByteArray) (mn2 mx2 : Int) (p2 : Option Addr) (n2 c2 : Nat) :
    ∀ u ∈ (exCells op pos s text mn mx (.slice p n c) ++ .bool hb :: exCells op2 pos2 s2 text2 mn2 mx2 (.slice p2 n2 c2)), u.oneCell' = true := fun u hu => by
  rcases List.mem_append.1 hu with h | h
  · exact ex_ones _ _ _ _ _ _ _ _ _ u h
  · rcases List.mem_cons.1 h with rfl | h
    · rfl
    · exact ex_ones _ _ _ _ _ _ _ _ _ u h

set_option maxRecDepth 100000 in
set_option maxHeartbeats 4000000 in
theorem copyCores_any (l : List (Co × List Value)) (v : Value) (w : World) (hs : Sl w v 21 l.length (l.flatMap (·.2))) (hl : ∀ p ∈ l, CoIn w p.1 p.2) (hb : l.length * 216 ≤ 140737488351232) :
    Calls Tryd.prog 15 #[v] w fun e' w' => ∃ (p : Option Addr) (c : Nat) (ls : List (Co × List Value)), e' = .returned (.slice p l.length c) ∧ Sl w' (.slice p l.length c) 21 ls.length (ls.flatMap (·.2)) ∧ ls.map (·.1) = l.map (·.1) ∧ (∀ p ∈ ls, CoIn w' p.1 p.2) ∧ Gr w w' := by
  obtain ⟨pv, cv, rfl⟩ := hs.len
  have HS := Lib.hid hs
  have HA := Lib.hid hl
  have HB := Lib.hid hb
  obtain ⟨n, hn⟩ : ∃ n, l.length = n := ⟨_, rfl⟩
  have hb1 : n ≤ 140737488351232 := by omega
  rw [hn]
  have HN := Lib.hid hn
  clear hs hl hn hb
  obtain ⟨i0, hi, hz0, hz1, hz2⟩ := info_parts info_co
  go_enter Tryd.func15, Tryd.ntmps15
  go_wp2_with fail
  go_loopw [3, 4] (fun v i wr => ∃ (j : Nat) (ls : List (Co × List Value)), j ≤ n ∧ i = .int .i64 (j : Int) ∧ Gr w wr ∧ (∃ p m c, v = .slice p m c) ∧ Hid (Grows CoOwn 52 21 w.heap.size wr v j ls ∧ ls.map (·.1) = (l.take j).map (·.1))) (fun _ i _ => n - (intOf i).toNat)
  case atStart => exact ⟨0, [], by omega, rfl, Gr.refl _, ⟨_, _, _, rfl⟩, Lib.hid ⟨Grows.nil _ _ _ _, rfl⟩⟩
  case round =>
    obtain ⟨j, ls, hj, rfl, hg, ⟨vp, vn, vc, rfl⟩, HL⟩ := hrel
    by_cases hlt : j < n
    · obtain ⟨b, off, cap, op, pos, s, text, mn, mx, p, m, c, op2, pos2, s2, text2, mn2, mx2, p2, n2, c2, e, hb, f, hv, hbW, ha, he, hf, hat⟩ := cores_at HS.out HA.out j (by have := HN.out; omega)
      simp only [Value.slice.injEq, true_and] at hv
      obtain ⟨rfl, rfl⟩ := hv
      obtain ⟨hbr, hcell⟩ := hat w (Gr.refl _)
      unfold exCells at hcell
      have d0 := hcell 0 _ (by omega) rfl
      have d1 := hcell 1 _ (by omega) rfl
      have d2 := hcell 2 _ (by omega) rfl
      have d3 := hcell 3 _ (by omega) rfl
      have d4 := hcell 4 _ (by omega) rfl
      have d5 := hcell 5 _ (by omega) rfl
      have d6 := hcell 6 _ (by omega) rfl
      have d7 := hcell 7 _ (by omega) rfl
      have d8 := hcell 8 _ (by omega) rfl
      have d9 := hcell 9 _ (by omega) rfl
      have d10 := hcell 10 _ (by omega) rfl
      have d11 := hcell 11 _ (by omega) rfl
      have d12 := hcell 12 _ (by omega) rfl
      have d13 := hcell 13 _ (by omega) rfl
      have d14 := hcell 14 _ (by omega) rfl
      have d15 := hcell 15 _ (by omega) rfl
      have d16 := hcell 16 _ (by omega) rfl
      have d17 := hcell 17 _ (by omega) rfl
      have d18 := hcell 18 _ (by omega) rfl
      have d19 := hcell 19 _ (by omega) rfl
      have d20 := hcell 20 _ (by omega) rfl
      simp only [Nat.add_zero] at d0
      have hjI : (j : Int) < (n : Int) := by omega
      have hjN : j < n := hlt
      have HLT := Lib.hid hlt
      have HTK := Lib.hid (show (l.take (j + 1)).map (·.1) = (l.take j).map (·.1) ++ [⟨e, hb, f⟩] by
        obtain ⟨g1, g2⟩ := List.getElem?_eq_some_iff.1 ha
        rw [List.take_succ_eq_append_getElem g1, g2, List.map_append]; rfl)
      have HC := Lib.hid (fun (cur : World) (h : Gr w cur) => copyExpr_any _ e (Nat.le_refl _) _ cur (he.later h))
      have HC2 := Lib.hid (fun (cur : World) (h : Gr w cur) => copyExpr_any _ f (Nat.le_refl _) _ cur (hf.later h))
      unfold exCells at HC HC2
      clear hcell hat ha he hf hbW hlt hj
      go_wp2_with fail
      refine wp_region_S (Gr w) (.take 0 (.take 1 (.take 2 (.take 3 (.take 4 (.take 5 (.take 7 (.take 8 (.take 9 (.take 10 (.take 11 (.take 12 (.take 13 (.take 14 (.take 15 (.take 16 (.run 6 false (.run 17 false (.take 18 (.run 19 false (.run 20 false (.run 21 true .nil)))))))))))))))))))))) (hg.trans (Gr.drew _)) (by kernel_rfl) (by kernel_rfl) ?_
      simp only [pickOps, nthOp]
      intro wr7 hN hG
      repeat (first | (refine wpG_skip_take ?_ ?_; (focus rfl); try simp only [Act.put, List.setIfInBounds_toArray, List.set_cons_zero, List.set_cons_succ]) | (refine wpG_skip_run ?_ ?_; (focus rfl); try simp only [Act.put, List.setIfInBounds_toArray, List.set_cons_zero, List.set_cons_succ]) | (refine wpG_take ?_ ?_; (focus rfl); apply Exists.intro; refine ⟨fun w' hw' => ?_, ?_⟩; (focus (have hc := Gr.cells hw'; go_simp; (try rfl); done)); try simp only [Act.put, List.setIfInBounds_toArray, List.set_cons_zero, List.set_cons_succ]))
      refine wpG_run ?_ (fun K hK => ?_); (focus rfl)
      go_simp
      go_at_call 11
      (with_reducible refine (HC.out _ hG).mono ?_); rintro e' w7 ⟨ds, rfl, ho, hb1⟩
      obtain ⟨op3, pos3, s3, text3, mn3, mx3, p3, n3, c3, rfl⟩ := ho.form
      have HO := Lib.hid ho
      clear ho
      unfold exCells
      replace hG := hG.trans hb1
      have HB1 := Lib.hid hb1
      try dsimp only
      refine hK.out _ _ hG ?_
      clear hK K hb1
      try simp only [Act.put, List.setIfInBounds_toArray, List.set_cons_zero, List.set_cons_succ]
      refine wpG_run ?_ (fun K hK => ?_); (focus rfl)
      go_simp
      go_at_call 11
      (with_reducible refine (HC2.out _ hG).mono ?_); rintro e' w8 ⟨ds, rfl, ho, hb1⟩
      obtain ⟨op4, pos4, s4, text4, mn4, mx4, p4, n4, c4, rfl⟩ := ho.form
      have HO2 := Lib.hid ho
      clear ho
      unfold exCells
      replace hG := hG.trans hb1
      have HB2 := Lib.hid hb1
      try dsimp only
      refine hK.out _ _ hG ?_
      clear hK K hb1
      try simp only [Act.put, List.setIfInBounds_toArray, List.set_cons_zero, List.set_cons_succ]
      clear d0 d1 d2 d3 d4 d5 d6 d7 d8 d9 d10 d11 d12 d13 d14 d15 d16 d17 d18 d19 d20 hbr
      repeat (first | (refine wpG_skip_take ?_ ?_; (focus rfl); try simp only [Act.put, List.setIfInBounds_toArray, List.set_cons_zero, List.set_cons_succ]) | (refine wpG_skip_run ?_ ?_; (focus rfl); try simp only [Act.put, List.setIfInBounds_toArray, List.set_cons_zero, List.set_cons_succ]) | (refine wpG_take ?_ ?_; (focus rfl); apply Exists.intro; refine ⟨fun w' hw' => ?_, ?_⟩; (focus (have hc := Gr.cells hw'; go_simp; (try rfl); done)); try simp only [Act.put, List.setIfInBounds_toArray, List.set_cons_zero, List.set_cons_succ]))
      refine wpG_run ?_ (fun K hK => ?_); (focus rfl)
      go_simp
      refine name_K (fun W8 hW8 => ?_)
      have h78 : Gr w8 W8 := by rw [hW8]; exact Gr.alloc _ _
      have hc8 : ∀ (j : Nat) (u : Value), ([.int .i64 op3, .int .i64 pos3, .int .u64 (wd s3 0), .int .u64 (wd s3 1), .int .u64 (wd s3 2), .int .u64 (wd s3 3), .string text3, .int .i64 mn3, .int .i64 mx3, .slice p3 n3 c3, .bool hb, .int .i64 op4, .int .i64 pos4, .int .u64 (wd s4 0), .int .u64 (wd s4 1), .int .u64 (wd s4 2), .int .u64 (wd s4 3), .string text4, .int .i64 mn4, .int .i64 mx4, .slice p4 n4 c4] : List Value)[j]? = some u → W8.cell? ((⟨w8.heap.size, 0, none⟩ : Addr).add j) = some u := by rw [hW8]; exact new_cells _ _ _
      clear hW8
      refine hK.out _ _ (hG.trans h78) ?_
      clear hK K
      try simp only [Act.put, List.setIfInBounds_toArray, List.set_cons_zero, List.set_cons_succ]
      refine wpG_run rfl (fun K hK => ?_)
      have hNW := (hN.trans HB1.out).trans HB2.out
      refine wp_append_own_at _ (.tmp 11) (.tmp 30) 50 rfl w.heap.size 52 i0 _ 21 216 Tryd.underlying50 hi hz0 hz1 hz2 rfl (by decide) (.slice vp vn vc) j (ls.flatMap (·.2)) rfl (owns_later HL.out.1.2.1 (hNW.trans h78)) ⟨w8.heap.size, 0, none⟩ 1 1 [.int .i64 op3, .int .i64 pos3, .int .u64 (wd s3 0), .int .u64 (wd s3 1), .int .u64 (wd s3 2), .int .u64 (wd s3 3), .string text3, .int .i64 mn3, .int .i64 mx3, .slice p3 n3 c3, .bool hb, .int .i64 op4, .int .i64 pos4, .int .u64 (wd s4 0), .int .u64 (wd s4 1), .int .u64 (wd s4 2), .int .u64 (wd s4 3), .string text4, .int .i64 mn4, .int .i64 mx4, .slice p4 n4 c4] rfl rfl hc8 ?c1 ?c2 ?c3 ?c4 ?_
      case c1 => exact co_ones _ _ _ _ _ _ _ _ _ _ _ _ _ _ _ _ _ _ _
      case c2 => unfold maxLen; have := HLT.out; omega
      case c3 => have := HLT.out; have := HB.out; have := HN.out; omega
      case c4 => have := hg.size; have := hNW.size; have := h78.size; omega
      intro v9 W9 hown9 hgrow9 _ hat9
      have hne : ∀ g, (Value.slice vp vn vc).ownBlock = some g → w.heap.size ≤ g := fun g hg => (World.ownsRow.lt HL.out.1.2.1 g hg).1
      replace hG : Gr w W9 := Gr.grown (hG.trans h78) hgrow9 hne
      have HL9 := Lib.hid (Grows.push keeps_co (a := ⟨e, hb, f⟩) (ds := [.int .i64 op3, .int .i64 pos3, .int .u64 (wd s3 0), .int .u64 (wd s3 1), .int .u64 (wd s3 2), .int .u64 (wd s3 3), .string text3, .int .i64 mn3, .int .i64 mx3, .slice p3 n3 c3, .bool hb, .int .i64 op4, .int .i64 pos4, .int .u64 (wd s4 0), .int .u64 (wd s4 1), .int .u64 (wd s4 2), .int .u64 (wd s4 3), .string text4, .int .i64 mn4, .int .i64 mx4, .slice p4 n4 c4]) HL.out.1 hNW hg.size ⟨_, _, rfl, HO.out.keep (fun b hb => Below.block HB2.out b hb.2) (fun b hb => ⟨by have := hN.size; have := hb.1; omega, by have := HB2.out.size; have := hb.2; omega⟩), HO2.out.keep (fun _ _ => rfl) (fun b hb => ⟨by have := hN.size; have := HB1.out.size; have := hb.1; omega, hb.2⟩)⟩ rfl h78 hown9 hgrow9 hat9)
      obtain ⟨gl, capl, rfl, _⟩ := owns_block hown9 (by omega)
      clear hne hown9 hgrow9 hat9 hc8 hN h78 hNW
      refine hK.out _ _ hG ?_
      clear hK K
      try simp only [Act.put, List.setIfInBounds_toArray, List.set_cons_zero, List.set_cons_succ]
      refine wpG_last ?_ (fun K hK => ?_); (focus rfl)
      go_simp
      refine hK.out _ _ ?_
      try simp only [Act.put, List.setIfInBounds_toArray, List.set_cons_zero, List.set_cons_succ]
      clear hK K
      refine wpG_done ?_
      go_wp2_with fail
      go_roundw
      case rel =>
        refine ⟨j + 1, _, by have := HLT.out; omega, by go_num, hG, ⟨_, _, _, rfl⟩, Lib.hid ⟨HL9.out, ?_⟩⟩
        rw [List.map_append, HL.out.2, HTK.out]; rfl
      case measure => have := HLT.out; simp [intOf]; omega
    · have hjE : j = n := by omega
      clear hlt hj
      subst hjE
      obtain ⟨⟨hl1, hown, hl3⟩, hl4⟩ := HL.out
      have hs := Sl.of_owns hown
      have hvn : vn = j := by obtain ⟨p9, c9, hvn⟩ := hs.len; injection hvn
      have HR := Lib.hid (show Sl wr (.slice vp j vc) 21 ls.length (ls.flatMap (·.2)) ∧ ls.map (·.1) = l.map (·.1) ∧ ∀ p ∈ ls, CoIn wr p.1 p.2 from ⟨by rw [hl1, ← hvn]; rw [← hvn] at hs; exact hs, by rw [hl4, ← HN.out, List.take_length], fun p hp => (hl3 p hp).2.coIn⟩)
      subst hvn
      clear hl1 hown hl3 hl4 hs HL
      go_wp2_with fail
      go_ret
      exact ⟨vp, vc, rfl, ls, HR.out.1, HR.out.2.1, fun a b h => HR.out.2.2 (a, b) h, hg⟩

end Go.Proofs.YtpcmgkohebihmaaDoor
