/- OfSpans. No condition. -/
import Derived.Test.YtihjmeoklbmnmaaDoorOf
namespace Go.Proofs.YtihjmeoklbmnmaaDoor
open Go Go.RowKit

abbrev Sp := UInt8 × UInt8
def spCells (p : Sp) : List Value := [vB p.1, vB p.2]
def spsCells (l : List Sp) : List Value := l.flatMap spCells
theorem spCells_len (p : Sp) : (spCells p).length = 2 := rfl

/-- All bytes of these spans. -/
def ofSpans : List Sp → BitVec 256
  | [] => emptyS
  | p :: l => rangeSet p.1.toNat p.2.toNat ||| ofSpans l
theorem or_emptyS (s : BitVec 256) : s ||| emptyS = s := by unfold emptyS; simp
theorem emptyS_or (s : BitVec 256) : emptyS ||| s = s := by unfold emptyS; simp
theorem ofSpans_append : ∀ (l m : List Sp), ofSpans (l ++ m) = ofSpans l ||| ofSpans m
  | [], m => by simp [ofSpans, emptyS_or]
  | p :: l, m => by simp only [List.cons_append, ofSpans, ofSpans_append l m, BitVec.or_assoc]
theorem ofSpans_take (l : List Sp) (k : Nat) (h : k < l.length) : ofSpans (l.take (k + 1)) = ofSpans (l.take k) ||| rangeSet l[k].1.toNat l[k].2.toNat := by
  rw [List.take_succ_eq_append_getElem h, ofSpans_append]; simp only [ofSpans, or_emptyS]

set_option maxRecDepth 100000 in
set_option maxHeartbeats 1000000 in
theorem ofSpans_some (l : List Sp) (b off cap : Nat) (w : World) (hn : l.length ≤ 9223372036854775807) (hb : l.length ≠ 0 → b < w.heap.size)
    (hc : ∀ (k : Nat) (x : Sp), l[k]? = some x → w.cell? ⟨b, off + k * 2, none⟩ = some (vB x.1) ∧ w.cell? ⟨b, off + k * 2 + 1, none⟩ = some (vB x.2)) :
    Calls Tryd.prog 76 #[.slice (some ⟨b, off, none⟩) l.length cap] w fun e w' => e = .returned (.agg #[.int .u64 (wd (ofSpans l) 0), .int .u64 (wd (ofSpans l) 1), .int .u64 (wd (ofSpans l) 2), .int .u64 (wd (ofSpans l) 3)]) ∧ Gr w w' := by
  go_enter Tryd.func76, Tryd.ntmps76
  go_wp2
  go_loopw [8] (fun i wr => ∃ (k : Nat) (S : BitVec 256), k ≤ l.length ∧ S = ofSpans (l.take k) ∧ i = .int .i64 k ∧ w.heap.size + 2 ≤ wr.heap.size ∧ Gr w wr ∧ boxAt wr (w.heap.size) [.int .u64 0, .int .u64 0, .int .u64 0, .int .u64 0] ∧ boxAt wr (w.heap.size + 1) [.int .u64 (wd S 0), .int .u64 (wd S 1), .int .u64 (wd S 2), .int .u64 (wd S 3)]) (fun i _ => l.length - (intOf i).toNat)
  case atStart =>
    refine ⟨0, emptyS, by omega, rfl, rfl, by simp, ((Below.refl _ _).alloc (Nat.le_refl _) _).alloc (by simp) _, ?_, ?_⟩
    · exact boxAt.later (boxAt.new _ _ rfl) (Gr.alloc _ _)
    · simp only [wd_zero]
      have := boxAt.new (w := w.alloc (.cells #[.int .u64 0, .int .u64 0, .int .u64 0, .int .u64 0] 29)) [.int .u64 0, .int .u64 0, .int .u64 0, .int .u64 0] 29 rfl
      simpa using this
  case round =>
    obtain ⟨k, S, hk, hS, rfl, hz, hg, hr, hs⟩ := hrel
    have HS := Lib.hid hS
    clear hS
    by_cases hlt : k < l.length
    · have hcell := hc k l[k] (List.getElem?_eq_getElem hlt)
      have hbl : b < w.heap.size := hb (by omega)
      have fin : S ||| rangeSet l[k].1.toNat l[k].2.toNat = ofSpans (l.take (k + 1)) := by rw [HS.out, ofSpans_take l k hlt]
      have c1 := (hg.cell hcell.1)
      have c2 := (hg.cell hcell.2)
      clear hcell
      have hx := l[k].1.toNat_lt
      have hy := l[k].2.toNat_lt
      unfold vB at c1 c2
      obtain ⟨x, ex⟩ : ∃ x : Nat, x = l[k].1.toNat := ⟨_, rfl⟩
      obtain ⟨y, ey⟩ : ∃ x : Nat, x = l[k].2.toNat := ⟨_, rfl⟩
      rw [← ex] at c1 fin hx
      rw [← ey] at c2 fin hy
      clear ex ey hc
      go_wp2
      refine name_world (fun W hW => ?_)
      have hxb : boxAt W wr.heap.size [.int .u8 x, .int .u8 y] := by
        subst hW
        intro j u hj
        match j, hj with
        | 0, hj => simp at hj; subst hj; constructor <;> go_simp
        | 1, hj => simp at hj; subst hj; constructor <;> go_simp
      have hgW : Gr wr W := by subst hW; exact Gr.alloc _ _
      have hz1 : w.heap.size + 1 < W.heap.size := by subst hW; simp; omega
      have hz2 : wr.heap.size < W.heap.size := by subst hW; simp
      clear hW
      have hsW := hs.later hgW
      have c_s0 := hsW.cell 0 _ rfl
      have c_s1 := hsW.cell 1 _ rfl
      have c_s2 := hsW.cell 2 _ rfl
      have c_s3 := hsW.cell 3 _ rfl
      have m_s0 := hsW.mark 0 _ rfl
      have m_s1 := hsW.mark 1 _ rfl
      have m_s2 := hsW.mark 2 _ rfl
      have m_s3 := hsW.mark 3 _ rfl
      have l_s := hsW.lt (Nat.succ_pos _)
      have c_x0 := hxb.cell 0 _ rfl
      have c_x1 := hxb.cell 1 _ rfl
      have m_x0 := hxb.mark 0 _ rfl
      have m_x1 := hxb.mark 1 _ rfl
      have l_x := hxb.lt (Nat.succ_pos _)
      clear hsW hxb
      have HF := Lib.hid fin
      clear fin c1 c2 hb
      refine wp_region_G (.take 0 (.take 1 (.take 2 (.take 3 (.take 4 (.run 5 false (.run 6 false (.run 7 true .nil)))))))) (by kernel_rfl) (by kernel_rfl) ?_
      simp only [pickOps, nthOp]
      intro wq hG
      repeat (first | (refine wpG_skip_take ?_ ?_; (focus rfl); try simp only [Act.put, List.setIfInBounds_toArray, List.set_cons_zero, List.set_cons_succ]) | (refine wpG_skip_run ?_ ?_; (focus rfl); try simp only [Act.put, List.setIfInBounds_toArray, List.set_cons_zero, List.set_cons_succ]) | (refine wpG_take ?_ ?_; (focus rfl); apply Exists.intro; refine ⟨fun w' hw' => ?_, ?_⟩; (focus (have hc := Gr.cells hw'; go_simp; (try rfl); done)); try simp only [Act.put, List.setIfInBounds_toArray, List.set_cons_zero, List.set_cons_succ]) | (refine wpG_run ?_ (fun K hK => ?_); (focus rfl); go_simp; (first | (go_at_call 68; refine (range_any x y _ (by omega) (by omega)).mono ?_; rintro e w' ⟨rfl, hb⟩) | (go_at_call 15; refine (union_any _ _ _).mono ?_; rintro e w' ⟨rfl, hb⟩)); (try dsimp only); replace hG := hG.trans hb; refine hK.out _ _ hG ?_; clear hK K hb; try simp only [Act.put, List.setIfInBounds_toArray, List.set_cons_zero, List.set_cons_succ]))
      rename_i w2
      refine wpG_last ?_ (fun K hK => ?_); (focus rfl)
      have hc := hG.cells
      have hm := hG.marks
      go_simp
      refine hK.out _ _ ?_
      try simp only [Act.put, List.setIfInBounds_toArray, List.set_cons_zero, List.set_cons_succ]
      clear hK K hc hm
      refine wpG_done ?_
      go_wp2
      go_roundw
      case rel =>
        refine ⟨k + 1, S ||| rangeSet x y, by omega, HF.out, by go_num, ?_, ?_, ?_, ?_⟩
        · rw [size_put4]; have := hG.size; omega
        · exact Below.put4 ((hg.trans hgW).trans hG) (by omega) _ _ _ _
        · exact ((hr.later hgW).later hG).far4 (by omega) _ _ _ _
        · exact ((hs.later hgW).later hG).put4 _ _ _ _
      case measure => simp [intOf]; omega
    · obtain rfl : k = l.length := by omega
      obtain rfl : S = ofSpans l := by rw [HS.out, List.take_length]
      clear HS
      have c_s0 := hs.cell 0 _ rfl
      have c_s1 := hs.cell 1 _ rfl
      have c_s2 := hs.cell 2 _ rfl
      have c_s3 := hs.cell 3 _ rfl
      have m_s0 := hs.mark 0 _ rfl
      have m_s1 := hs.mark 1 _ rfl
      have m_s2 := hs.mark 2 _ rfl
      have m_s3 := hs.mark 3 _ rfl
      have l_s := hs.lt (Nat.succ_pos _)
      have c_r0 := hr.cell 0 _ rfl
      have c_r1 := hr.cell 1 _ rfl
      have c_r2 := hr.cell 2 _ rfl
      have c_r3 := hr.cell 3 _ rfl
      have m_r0 := hr.mark 0 _ rfl
      have m_r1 := hr.mark 1 _ rfl
      have m_r2 := hr.mark 2 _ rfl
      have m_r3 := hr.mark 3 _ rfl
      have l_r := hr.lt (Nat.succ_pos _)
      go_wp2
      refine bodyPost_ret (v := .agg #[.int .u64 (wd (ofSpans l) 0), .int .u64 (wd (ofSpans l) 1), .int .u64 (wd (ofSpans l) 2), .int .u64 (wd (ofSpans l) 3)]) (by simp [results, Tryd.results76, go_sem, c_r0, c_r1, c_r2, c_r3]) rfl ⟨rfl, ?_⟩
      exact Below.put4 hg (by omega) _ _ _ _

theorem spsCells_get (l : List Sp) (k : Nat) (x : Sp) (h : l[k]? = some x) : (spsCells l)[k * 2]? = some (vB x.1) ∧ (spsCells l)[k * 2 + 1]? = some (vB x.2) := by
  have h0 := flatMap_get spCells 2 spCells_len l k 0 x h (by omega)
  have h1 := flatMap_get spCells 2 spCells_len l k 1 x h (by omega)
  exact ⟨h0, h1⟩
set_option maxRecDepth 100000 in
theorem ofSpans_any (l : List Sp) (v : Value) (w : World) (h : Sl w v 2 l.length (spsCells l)) :
    Calls Tryd.prog 76 #[v] w fun e w' => e = .returned (.agg #[.int .u64 (wd (ofSpans l) 0), .int .u64 (wd (ofSpans l) 1), .int .u64 (wd (ofSpans l) 2), .int .u64 (wd (ofSpans l) 3)]) ∧ Gr w w' := by
  obtain ⟨_, hn, h⟩ := h
  unfold maxLen at hn
  rcases h with ⟨⟨p0, c0, rfl⟩, h0⟩ | ⟨b, off, cap, rfl, hb, hc⟩
  · obtain rfl := List.eq_nil_of_length_eq_zero h0
    go_enter Tryd.func76, Tryd.ntmps76
    go_wp2
    refine wp_loop_rounds 1 ?_
    rw [rounds_succ]
    go_wp2
    refine bodyPost_ret (v := .agg #[.int .u64 (wd (ofSpans []) 0), .int .u64 (wd (ofSpans []) 1), .int .u64 (wd (ofSpans []) 2), .int .u64 (wd (ofSpans []) 3)]) (by simp [results, Tryd.results76, go_sem, ofSpans, wd_zero]) rfl ⟨rfl, ?_⟩
    exact ((Below.refl _ _).alloc (Nat.le_refl _) _).alloc (by simp) _
  · exact ofSpans_some l b off cap w hn hb (fun k x hx => by
      have := spsCells_get l k x hx
      exact ⟨hc _ _ this.1, by rw [Nat.add_assoc]; exact hc _ _ this.2⟩)

end Go.Proofs.YtihjmeoklbmnmaaDoor
