/- bolterref3: Text. No condition. -/
import Derived.Test.YtihjmeoklbmnmaaDoorHex
import Derived.Test.YtihjmeoklbmnmaaDoorRefE
import Derived.Test.YtihjmeoklbmnmaaDoorText
namespace Go.Proofs.YtihjmeoklbmnmaaDoor
open Go Go.RowKit

set_option maxRecDepth 100000 in
set_option maxHeartbeats 4000000 in
theorem refText_any (s : BitVec 256) (w : World) : Calls Tryd.prog 9 #[.agg #[.int .u64 (wd s 0), .int .u64 (wd s 1), .int .u64 (wd s 2), .int .u64 (wd s 3)]] w fun e w' => ∃ r, Runs r (bytesOf s) ∧ e = .returned (.string (st (textL r))) ∧ Gr w w' := by
  go_enter Tryd.func9, Tryd.ntmps9
  go_wp2_with fail
  go_at_call 23
  refine (r1spans s _).mono ?_; rintro e w1 ⟨vs, r, rfl, hR, hs, hb, hnil⟩
  have hgw : Gr w w1 := (Gr.alloc _ _).trans hb
  have hrl : r.length ≤ 256 := Nat.le_trans hR.len (bytesTo_len s 256)
  have HR := Lib.hid hR
  obtain ⟨p0, c0, rfl⟩ := (Sl.of_owns hs).len
  have HS := Lib.hid hs
  clear hR hs hb hnil
  have hrI : (r.length : Int) ≤ 256 := by omega
  go_wp2_with fail
  go_loopw [3, 5] (fun b i wr => ∃ k : Nat, k ≤ r.length ∧ i = .int .i64 k ∧ b = .string (st (91 :: bodyL (r.take k))) ∧ Gr w1 wr) (fun _ i _ => r.length - (intOf i).toNat)
  case atStart => exact ⟨0, by omega, rfl, rfl, Gr.refl _⟩
  case round =>
    obtain ⟨k, hk, rfl, rfl, hg⟩ := hrel
    by_cases hlt : k < r.length
    · obtain ⟨g, cap, he, _, hgl, _⟩ := owns_block HS.out (by omega)
      simp only [Value.slice.injEq] at he
      obtain ⟨rfl, _, rfl⟩ := he
      obtain ⟨⟨a, b⟩, hp⟩ : ∃ x, r[k]? = some x := ⟨_, List.getElem?_eq_getElem hlt⟩
      obtain ⟨d1, d2⟩ := span_cell HS.out k _ hp
      have c1 := hg.cell d1
      have c2 := hg.cell d2
      have hgr : g < wr.heap.size := by have := hg.size; omega
      have hle : a.toNat ≤ b.toNat := (HR.out.mem _ (List.mem_of_getElem? hp)).1
      have ha := a.toNat_lt
      have hb := b.toNat_lt
      obtain ⟨acc, hacc⟩ : ∃ acc, 91 :: bodyL (r.take k) = acc := ⟨_, rfl⟩
      rw [hacc]
      have hal : acc.length ≤ 3000 := by
        rw [← hacc]
        have := bodyL_len (r.take k)
        rw [List.length_take] at this
        simp only [List.length_cons]; omega
      have hnext : 91 :: bodyL (r.take (k + 1)) = acc ++ spanL (a, b) := by
        rw [← hacc, List.take_add_one, hp]
        simp only [Option.toList_some, bodyL_snoc, List.cons_append]
      have hkI : (k : Int) < (r.length : Int) := by omega
      unfold vB at c1 c2 d1 d2
      simp only at c1 c2 d1 d2
      have ex : IntKind.i64.wrap (a.toNat : Int) = (a.toNat : Int) := IntWalk.i64_in _ (by omega)
      have ey : IntKind.i64.wrap (b.toNat : Int) = (b.toNat : Int) := IntWalk.i64_in _ (by omega)
      have ez : IntKind.i64.wrap ((a.toNat : Int) + 1) = (a.toNat : Int) + 1 := IntWalk.i64_in _ (by omega)
      have l1 := wr_len a 33 marksT
      have l2 := wr_len b 33 marksT
      have e1 := cats (P := Tryd.prog) acc (wrT a) (by unfold wrT; omega)
      have e2 := cat_is (P := Tryd.prog) (st (acc ++ wrT a)) { data := #[45] } (st (acc ++ wrT a ++ [45])) _ [45] rfl rfl rfl (by rw [List.length_append]; unfold wrT; simp; omega)
      have e3 := cats (P := Tryd.prog) (acc ++ wrT a ++ [45]) (wrT b) (by rw [List.length_append, List.length_append]; unfold wrT; simp; omega)
      have e4 := cats (P := Tryd.prog) (acc ++ wrT a) (wrT b) (by rw [List.length_append]; unfold wrT; omega)
      obtain ⟨x3, hx3⟩ : ∃ x, acc ++ wrT a ++ [45] ++ wrT b = x := ⟨_, rfl⟩
      rw [hx3] at e3
      obtain ⟨x2, hx2⟩ : ∃ x, acc ++ wrT a ++ [45] = x := ⟨_, rfl⟩
      rw [hx2] at e2 e3 hx3
      obtain ⟨x4, hx4⟩ : ∃ x, acc ++ wrT a ++ wrT b = x := ⟨_, rfl⟩
      rw [hx4] at e4
      obtain ⟨x1, hx1⟩ : ∃ x, acc ++ wrT a = x := ⟨_, rfl⟩
      rw [hx1] at e1 e2 e4 hx2 hx4
      have HX := Lib.hid (show acc ++ wrT a = x1 ∧ acc ++ (wrT a ++ ([45] ++ wrT b)) = x3 ∧ acc ++ (wrT a ++ wrT b) = x4 from ⟨hx1, by rw [← hx3, ← hx2, ← hx1]; simp, by rw [← hx4, ← hx1, List.append_assoc]⟩)
      clear hx1 hx2 hx3 hx4
      have HN := Lib.hid hnext
      have HLT := Lib.hid hlt
      have h3 : a.toNat + 1 < b.toNat ∨ a.toNat + 1 = b.toNat ∨ a.toNat = b.toNat := by omega
      have H3 := Lib.hid h3
      clear h3 hal hnext hacc hlt l1 l2 hp hrl
      go_wp2_with (go_at_call 24; (with_reducible refine (byte_any _ _).mono ?_); rintro e w2 ⟨rfl, hq⟩)
      have hg2 := hg.trans hq
      have f1 := hq.cell c1
      have f2 := hq.cell c2
      have hgr2 : g < w2.heap.size := by have := hq.size; omega
      rcases H3.out with h3 | h3 | h3
      · have h4 : (a.toNat : Int) + 1 < (b.toNat : Int) := by omega
        have h5 : (a.toNat : Int) < (b.toNat : Int) := by omega
        have h6 : a.toNat < b.toNat := by omega
        have hsp : spanL (a, b) = wrT a ++ ([45] ++ wrT b) := by unfold spanL; simp only; rw [if_pos h3, if_pos h6]
        have HSP := Lib.hid hsp
        clear hsp h3 hle ha hb
        refine wp_region_G (.take 0 (.take 1 (.take 2 (.take 3 (.take 4 (.take 5 (.take 6 (.take 7 (.take 8 (.take 9 (.take 10 (.take 11 (.take 12 (.take 13 .nil)))))))))))))) (by kernel_rfl) (by kernel_rfl) ?_
        simp only [pickOps, nthOp]
        intro wq hG
        repeat (first | (refine wpG_skip_take ?_ ?_; (focus rfl); try simp only [Act.put, List.setIfInBounds_toArray, List.set_cons_zero, List.set_cons_succ]) | (refine wpG_skip_run ?_ ?_; (focus rfl); try simp only [Act.put, List.setIfInBounds_toArray, List.set_cons_zero, List.set_cons_succ]) | (refine wpG_take ?_ ?_; (focus rfl); apply Exists.intro; refine ⟨fun w' hw' => ?_, ?_⟩; (focus (have hc := Gr.cells hw'; go_simp; (try rfl); done)); try simp only [Act.put, List.setIfInBounds_toArray, List.set_cons_zero, List.set_cons_succ]))
        refine wpG_done ?_
        have hg4 := hg2.trans hG
        have f3 := hG.cell f1
        have f4 := hG.cell f2
        have hgr4 : g < wq.heap.size := by have := hG.size; omega
        clear hG
        go_wp2_with fail
        refine wp_region_G (.take 0 (.take 1 (.take 2 (.take 3 (.take 4 (.take 5 (.take 6 (.take 7 (.take 8 (.take 9 (.take 10 .nil))))))))))) (by kernel_rfl) (by kernel_rfl) ?_
        simp only [pickOps, nthOp]
        intro wq hG
        repeat (first | (refine wpG_skip_take ?_ ?_; (focus rfl); try simp only [Act.put, List.setIfInBounds_toArray, List.set_cons_zero, List.set_cons_succ]) | (refine wpG_skip_run ?_ ?_; (focus rfl); try simp only [Act.put, List.setIfInBounds_toArray, List.set_cons_zero, List.set_cons_succ]) | (refine wpG_take ?_ ?_; (focus rfl); apply Exists.intro; refine ⟨fun w' hw' => ?_, ?_⟩; (focus (have hc := Gr.cells hw'; go_simp; (try rfl); done)); try simp only [Act.put, List.setIfInBounds_toArray, List.set_cons_zero, List.set_cons_succ]))
        refine wpG_done ?_
        have hg5 := hg4.trans hG
        have f5 := hG.cell f3
        have f6 := hG.cell f4
        have hgr5 : g < wq.heap.size := by have := hG.size; omega
        clear hG
        go_wp2_with (go_at_call 24; (with_reducible refine (byte_any _ _).mono ?_); rintro e w6 ⟨rfl, hq6⟩)
        go_roundw
        case rel => exact ⟨k + 1, by have := HLT.out; omega, by go_num, by rw [HN.out, HSP.out, HX.out.2.1], hg5.trans hq6⟩
        case measure => have := HLT.out; simp [intOf]; omega
      · have h4 : ¬ (a.toNat : Int) + 1 < (b.toNat : Int) := by omega
        have h5 : (a.toNat : Int) < (b.toNat : Int) := by omega
        have h6 : a.toNat < b.toNat := by omega
        have hsp : spanL (a, b) = wrT a ++ wrT b := by unfold spanL; simp only; rw [if_neg (by omega), if_pos h6]; rfl
        have HSP := Lib.hid hsp
        clear hsp h3 hle ha hb
        refine wp_region_G (.take 0 (.take 1 (.take 2 (.take 3 (.take 4 (.take 5 (.take 6 (.take 7 (.take 8 (.take 9 (.take 10 (.take 11 (.take 12 (.take 13 .nil)))))))))))))) (by kernel_rfl) (by kernel_rfl) ?_
        simp only [pickOps, nthOp]
        intro wq hG
        repeat (first | (refine wpG_skip_take ?_ ?_; (focus rfl); try simp only [Act.put, List.setIfInBounds_toArray, List.set_cons_zero, List.set_cons_succ]) | (refine wpG_skip_run ?_ ?_; (focus rfl); try simp only [Act.put, List.setIfInBounds_toArray, List.set_cons_zero, List.set_cons_succ]) | (refine wpG_take ?_ ?_; (focus rfl); apply Exists.intro; refine ⟨fun w' hw' => ?_, ?_⟩; (focus (have hc := Gr.cells hw'; go_simp; (try rfl); done)); try simp only [Act.put, List.setIfInBounds_toArray, List.set_cons_zero, List.set_cons_succ]))
        refine wpG_done ?_
        have hg4 := hg2.trans hG
        have f3 := hG.cell f1
        have f4 := hG.cell f2
        have hgr4 : g < wq.heap.size := by have := hG.size; omega
        clear hG
        go_wp2_with fail
        refine wp_region_G (.take 0 (.take 1 (.take 2 (.take 3 (.take 4 (.take 5 (.take 6 (.take 7 (.take 8 (.take 9 (.take 10 .nil))))))))))) (by kernel_rfl) (by kernel_rfl) ?_
        simp only [pickOps, nthOp]
        intro wq hG
        repeat (first | (refine wpG_skip_take ?_ ?_; (focus rfl); try simp only [Act.put, List.setIfInBounds_toArray, List.set_cons_zero, List.set_cons_succ]) | (refine wpG_skip_run ?_ ?_; (focus rfl); try simp only [Act.put, List.setIfInBounds_toArray, List.set_cons_zero, List.set_cons_succ]) | (refine wpG_take ?_ ?_; (focus rfl); apply Exists.intro; refine ⟨fun w' hw' => ?_, ?_⟩; (focus (have hc := Gr.cells hw'; go_simp; (try rfl); done)); try simp only [Act.put, List.setIfInBounds_toArray, List.set_cons_zero, List.set_cons_succ]))
        refine wpG_done ?_
        have hg5 := hg4.trans hG
        have f5 := hG.cell f3
        have f6 := hG.cell f4
        have hgr5 : g < wq.heap.size := by have := hG.size; omega
        clear hG
        go_wp2_with (go_at_call 24; (with_reducible refine (byte_any _ _).mono ?_); rintro e w6 ⟨rfl, hq6⟩)
        go_roundw
        case rel => exact ⟨k + 1, by have := HLT.out; omega, by go_num, by rw [HN.out, HSP.out, HX.out.2.2], hg5.trans hq6⟩
        case measure => have := HLT.out; simp [intOf]; omega
      · obtain rfl : a = b := UInt8.toNat_inj.1 h3
        have hsp : spanL (a, a) = wrT a := by unfold spanL; simp
        have HSP := Lib.hid hsp
        have h4 : ¬ (a.toNat : Int) + 1 < (a.toNat : Int) := by omega
        clear hsp h3 hle ha hb
        refine wp_region_G (.take 0 (.take 1 (.take 2 (.take 3 (.take 4 (.take 5 (.take 6 (.take 7 (.take 8 (.take 9 (.take 10 (.take 11 (.take 12 (.take 13 .nil)))))))))))))) (by kernel_rfl) (by kernel_rfl) ?_
        simp only [pickOps, nthOp]
        intro wq hG
        repeat (first | (refine wpG_skip_take ?_ ?_; (focus rfl); try simp only [Act.put, List.setIfInBounds_toArray, List.set_cons_zero, List.set_cons_succ]) | (refine wpG_skip_run ?_ ?_; (focus rfl); try simp only [Act.put, List.setIfInBounds_toArray, List.set_cons_zero, List.set_cons_succ]) | (refine wpG_take ?_ ?_; (focus rfl); apply Exists.intro; refine ⟨fun w' hw' => ?_, ?_⟩; (focus (have hc := Gr.cells hw'; go_simp; (try rfl); done)); try simp only [Act.put, List.setIfInBounds_toArray, List.set_cons_zero, List.set_cons_succ]))
        refine wpG_done ?_
        have hg4 := hg2.trans hG
        have f3 := hG.cell f1
        have f4 := hG.cell f2
        have hgr4 : g < wq.heap.size := by have := hG.size; omega
        clear hG
        go_wp2_with fail
        refine wp_region_G (.take 0 (.take 1 (.take 2 (.take 3 (.take 4 (.take 5 (.take 6 (.take 7 (.take 8 (.take 9 (.take 10 .nil))))))))))) (by kernel_rfl) (by kernel_rfl) ?_
        simp only [pickOps, nthOp]
        intro wq hG
        repeat (first | (refine wpG_skip_take ?_ ?_; (focus rfl); try simp only [Act.put, List.setIfInBounds_toArray, List.set_cons_zero, List.set_cons_succ]) | (refine wpG_skip_run ?_ ?_; (focus rfl); try simp only [Act.put, List.setIfInBounds_toArray, List.set_cons_zero, List.set_cons_succ]) | (refine wpG_take ?_ ?_; (focus rfl); apply Exists.intro; refine ⟨fun w' hw' => ?_, ?_⟩; (focus (have hc := Gr.cells hw'; go_simp; (try rfl); done)); try simp only [Act.put, List.setIfInBounds_toArray, List.set_cons_zero, List.set_cons_succ]))
        refine wpG_done ?_
        have hg5 := hg4.trans hG
        have f5 := hG.cell f3
        have f6 := hG.cell f4
        have hgr5 : g < wq.heap.size := by have := hG.size; omega
        clear hG
        go_wp2_with fail
        go_roundw
        case rel => exact ⟨k + 1, by have := HLT.out; omega, by go_num, by rw [HN.out, HSP.out, HX.out.1], hg5⟩
        case measure => have := HLT.out; simp [intOf]; omega
    · have hkr : k = r.length := by omega
      have hfull : 91 :: bodyL (r.take k) = 91 :: bodyL r := by rw [hkr, List.take_length]
      rw [hfull]
      have hl := bodyL_len r
      have e1 := cat_is (P := Tryd.prog) (st (91 :: bodyL r)) { data := #[93] } (st (textL r)) (91 :: bodyL r) [93] rfl rfl rfl (by rw [List.length_cons, List.length_cons, List.length_nil]; omega)
      clear hfull hl hlt hk
      subst hkr
      go_wp2_with fail
      go_ret
      exact ⟨r, HR.out, rfl, hgw.trans hg⟩

theorem slice_one {P : Program} (w : World) (t : TypeId) (l : List UInt8) (k : Nat) (c : UInt8) (ht : P.underlying t = some .string) (hc : l[k]? = some c) :
    (Instr.slice t (.string (st l)) (some (.int .i64 (k : Int))) (some (.int .i64 ((k : Int) + 1))) none).run P w = .ok (.string (st [c])) w := by
  obtain ⟨hl, rfl⟩ := List.getElem?_eq_some_iff.1 hc
  have h := run_slice_string (P := P) w t (st l) .i64 .i64 (k : Int) ((k : Int) + 1) ht (by omega) (by omega) (by rw [st_size]; omega)
  rw [show ((k : Int) + 1).toNat = k + 1 by omega, Int.toNat_natCast, st_extract, show k + 1 - k = 1 by omega] at h
  rw [h]
  congr 3
  rw [List.drop_eq_getElem_cons hl]; rfl

theorem wrQ_10 (c : UInt8) (h : c.toNat = 10) : wrQ c = [92, 110] := by rw [show c = 10 from (u8_eq c 10 (by omega)).2 h]; rfl
theorem wrQ_9 (c : UInt8) (h : c.toNat = 9) : wrQ c = [92, 116] := by rw [show c = 9 from (u8_eq c 9 (by omega)).2 h]; rfl
theorem wrQ_13 (c : UInt8) (h : c.toNat = 13) : wrQ c = [92, 114] := by rw [show c = 13 from (u8_eq c 13 (by omega)).2 h]; rfl
theorem wrQ_rest (c : UInt8) (h10 : ¬ c.toNat = 10) (h9 : ¬ c.toNat = 9) (h13 : ¬ c.toNat = 13) : wrQ c = if c.toNat < 32 ∨ 126 < c.toNat then [92, 120, hexD (c.toNat / 16), hexD (c.toNat % 16)] else if c.toNat = 34 ∨ c.toNat = 92 then [92, c] else [c] := by
  have eq : ∀ k, k < 256 → ¬ c.toNat = k → ¬ c = UInt8.ofNat k := fun k hk h e => h ((u8_eq c k hk).1 e)
  unfold wrQ wr
  rw [if_neg (show ¬ c = 10 from eq 10 (by omega) h10), if_neg (show ¬ c = 9 from eq 9 (by omega) h9), if_neg (show ¬ c = 13 from eq 13 (by omega) h13)]
  have hm : c ∈ marksQ ↔ (c.toNat = 34 ∨ c.toNat = 92) := by
    simp only [marksQ, List.mem_cons, List.not_mem_nil, or_false]
    rw [← u8_eq c 34 (by omega), ← u8_eq c 92 (by omega)]; rfl
  simp only [hm]
set_option maxRecDepth 100000 in
set_option maxHeartbeats 8000000 in
theorem refQuote_any (l : List UInt8) (w : World) (hl : (l.length : Int) ≤ 1000000) : Calls Tryd.prog 11 #[.string (st l)] w fun e w' => e = .returned (.string (st (quoteL l))) ∧ Gr w w' := by
  have hsz := st_size l
  go_enter Tryd.func11, Tryd.ntmps11
  go_wp2_with fail
  go_loopw [3, 4] (fun b i wr => ∃ k : Nat, k ≤ l.length ∧ i = .int .i64 k ∧ b = .string (st (34 :: (l.take k).flatMap wrQ)) ∧ Gr w wr) (fun _ i _ => l.length - (intOf i).toNat)
  case atStart => exact ⟨0, by omega, rfl, rfl, Gr.refl _⟩
  case round =>
    obtain ⟨k, hk, rfl, rfl, hg⟩ := hrel
    by_cases hlt : k < l.length
    · obtain ⟨c, hc⟩ : ∃ x, l[k]? = some x := ⟨_, List.getElem?_eq_getElem hlt⟩
      have hix := fun w' => run_at (P := Tryd.prog) w' 9 l k c .i64 Tryd.underlying9 hc
      have hsl := fun w' => slice_one (P := Tryd.prog) w' 9 l k c Tryd.underlying9 hc
      have hkI : (k : Int) < (l.length : Int) := by omega
      have hwk : IntKind.i64.wrap ((k : Int) + 1) = (k : Int) + 1 := IntWalk.i64_in _ (by omega)
      have hn := wrQs_snoc l k c hc
      obtain ⟨acc, hacc⟩ : ∃ x, 34 :: (l.take k).flatMap wrQ = x := ⟨_, rfl⟩
      have hal : acc.length ≤ 5000000 := by
        have h1 := wrQs_len (l.take k)
        rw [List.length_take] at h1
        rw [← hacc, List.length_cons]; omega
      have hn2 : 34 :: (l.take (k + 1)).flatMap wrQ = acc ++ wrQ c := by rw [hn, ← hacc]; rfl
      rw [hacc]
      have HN := Lib.hid hn2
      have HLT := Lib.hid hlt
      have hc256 := c.toNat_lt
      have eq : ∀ k, k < 256 → ¬ c.toNat = k → ¬ c = UInt8.ofNat k := fun k hk h e => h ((u8_eq c k hk).1 e)
      have e1 := cats (P := Tryd.prog) acc (wrQ c) (by have := wr_len c 32 marksQ; unfold wrQ; omega)
      obtain ⟨y, hy⟩ : ∃ y, acc ++ wrQ c = y := ⟨_, rfl⟩
      have HY := Lib.hid hy
      rw [hy] at e1
      clear hn hn2 hacc hc hlt
      have fin : ∀ w2, Gr wr w2 → ∃ k' : Nat, k' ≤ l.length ∧ Value.int .i64 ((k : Int) + 1) = .int .i64 (k' : Int) ∧ Value.string (st y) = .string (st (34 :: (l.take k').flatMap wrQ)) ∧ Gr w w2 := fun w2 h2 =>
        ⟨k + 1, by have := HLT.out; omega, by simp, by rw [HN.out, HY.out], hg.trans h2⟩
      have FIN := Lib.hid fin
      clear fin
      by_cases h10 : c.toNat = 10
      · have he := wrQ_10 c h10
        rw [he] at e1
        rw [h10] at hix
        clear he hal eq hc256
        go_wp2_with (go_at_call 28; (with_reducible refine (plain_10 _).mono ?_); rintro e w2 ⟨rfl, hq⟩)
        go_roundw
        case rel => exact FIN.out _ hq
        case measure => have := HLT.out; simp [intOf]; omega
      by_cases h9 : c.toNat = 9
      · have he := wrQ_9 c h9
        rw [he] at e1
        rw [h9] at hix
        clear he hal eq hc256
        go_wp2_with (go_at_call 28; (with_reducible refine (plain_9 _).mono ?_); rintro e w2 ⟨rfl, hq⟩)
        go_roundw
        case rel => exact FIN.out _ hq
        case measure => have := HLT.out; simp [intOf]; omega
      by_cases h13 : c.toNat = 13
      · have he := wrQ_13 c h13
        rw [he] at e1
        rw [h13] at hix
        clear he hal eq hc256
        go_wp2_with (go_at_call 28; (with_reducible refine (plain_13 _).mono ?_); rintro e w2 ⟨rfl, hq⟩)
        go_roundw
        case rel => exact FIN.out _ hq
        case measure => have := HLT.out; simp [intOf]; omega
      have he := wrQ_rest c h10 h9 h13
      rw [he] at e1 hy
      have e10 : ((c.toNat : Int) == 10) = false := by simp; omega
      have e9 : ((c.toNat : Int) == 9) = false := by simp; omega
      have e13 : ((c.toNat : Int) == 13) = false := by simp; omega
      have hp := Lib.hid (fun w' => plain_no c.toNat w' e10 e9 e13)
      clear e10 e9 e13 he h10 h9 h13 eq
      by_cases hh : c.toNat < 32 ∨ 126 < c.toNat
      · rw [if_pos hh] at e1
        have f1 : ((c.toNat : Int) == 34) = false := by simp; omega
        have f2 : ((c.toNat : Int) == 92) = false := by simp; omega
        have f3 : ¬ 32 ≤ (c.toNat : Int) ∨ ¬ (c.toNat : Int) ≤ 126 := by omega
        have hx := Lib.hid (fun w' => hex_any c.toNat (c.toNat / 16) (c.toNat % 16) w' (by omega) (by omega) (by omega))
        clear hh hal hc256 hy
        go_wp2_with (first | (go_at_call 28; (with_reducible refine (hp.out _).mono ?_); rintro e w2 ⟨rfl, hq⟩) | (go_at_call 29; (with_reducible refine (hx.out _).mono ?_); rintro e w3 ⟨rfl, hq3⟩))
        all_goals go_roundw
        all_goals first | exact FIN.out _ (hq.trans hq3) | (have := HLT.out; simp [intOf]; omega)
      · rw [if_neg hh] at e1 hy
        by_cases hm : c.toNat = 34 ∨ c.toNat = 92
        · rw [if_pos hm] at e1 hy
          have g1 := cat_is (P := Tryd.prog) (st acc) { data := #[92] } (st (acc ++ [92])) acc [92] rfl rfl rfl (by simp; omega)
          have g2 := cat_is (P := Tryd.prog) (st (acc ++ [92])) (st [c]) (st y) (acc ++ [92]) [c] rfl rfl (by rw [← hy]; simp) (by simp; omega)
          obtain ⟨z, hz⟩ : ∃ z, acc ++ [92] = z := ⟨_, rfl⟩
          rw [hz] at g1 g2
          clear hh hal hc256 hy hz e1
          rcases hm with hm | hm
          · rw [hm] at hix
            have hp0 : ∀ w' : World, Calls Tryd.prog 28 #[.int .u8 34] w' fun e w'' => e = .returned (.tuple #[.string { data := #[] }, .bool false]) ∧ Gr w' w'' := fun w' => plain_no 34 w' (by decide) (by decide) (by decide)
            have HP := Lib.hid hp0
            clear hp hp0
            go_wp2_with (go_at_call 28; (with_reducible refine (HP.out _).mono ?_); rintro e w2 ⟨rfl, hq⟩)
            go_roundw
            case rel => exact FIN.out _ hq
            case measure => have := HLT.out; simp [intOf]; omega
          · rw [hm] at hix
            have hp0 : ∀ w' : World, Calls Tryd.prog 28 #[.int .u8 92] w' fun e w'' => e = .returned (.tuple #[.string { data := #[] }, .bool false]) ∧ Gr w' w'' := fun w' => plain_no 92 w' (by decide) (by decide) (by decide)
            have HP := Lib.hid hp0
            clear hp hp0
            go_wp2_with (go_at_call 28; (with_reducible refine (HP.out _).mono ?_); rintro e w2 ⟨rfl, hq⟩)
            go_roundw
            case rel => exact FIN.out _ hq
            case measure => have := HLT.out; simp [intOf]; omega
        · rw [if_neg hm] at e1
          have f1 : ((c.toNat : Int) == 34) = false := by simp; omega
          have f2 : ((c.toNat : Int) == 92) = false := by simp; omega
          have f3 : 32 ≤ (c.toNat : Int) := by omega
          have f4 : (c.toNat : Int) ≤ 126 := by omega
          clear hh hal hc256 hy hm
          go_wp2_with (go_at_call 28; (with_reducible refine (hp.out _).mono ?_); rintro e w2 ⟨rfl, hq⟩)
          go_roundw
          case rel => exact FIN.out _ hq
          case measure => have := HLT.out; simp [intOf]; omega
    · have hkr : k = l.length := by omega
      rw [hkr, List.take_length]
      have h1 := wrQs_len l
      have e1 := cat_is (P := Tryd.prog) (st (34 :: l.flatMap wrQ)) { data := #[34] } (st (quoteL l)) (34 :: l.flatMap wrQ) [34] rfl rfl rfl (by rw [List.length_cons, List.length_cons, List.length_nil]; omega)
      clear h1 hlt hk
      subst hkr
      go_wp2_with fail
      go_ret
      exact ⟨rfl, hg⟩

end Go.Proofs.YtihjmeoklbmnmaaDoor
