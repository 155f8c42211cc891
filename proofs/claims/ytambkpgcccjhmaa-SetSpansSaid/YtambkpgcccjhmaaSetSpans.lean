/- SetSpans of bolterlaw1, walked: it answers true. No condition. -/
import Derived.Test.YtambkpgcccjhmaaSetBytes
namespace Go.Proofs.Ytambkpgcccjhmaa
open Go Go.RowKit

/-- The middle of a span; a span and its halves. -/
def midB (p : Sp) : UInt8 := UInt8.ofNat ((p.1.toNat + p.2.toNat) / 2)
def segs (p : Sp) : List Sp := if p.1.toNat < p.2.toNat then [p, (p.1, midB p), (midB p, p.2)] else [p]
theorem midB_nat (p : Sp) : (midB p).toNat = (p.1.toNat + p.2.toNat) / 2 := by
  have h1 := p.1.toNat_lt
  have h2 := p.2.toNat_lt
  exact UInt8.toNat_ofNat_of_lt' (by show _ < 256; omega)
theorem ofSpans_segs (p : Sp) : ofSpans (segs p) = rangeSet p.1.toNat p.2.toNat := by
  unfold segs
  split
  · rename_i h
    simp only [ofSpans, or_emptyS]
    refine set_ext _ _ fun j hj => ?_
    simp only [BitVec.getLsbD_or, getLsbD_rangeSet, midB_nat]
    rw [Bool.eq_iff_iff]; simp [hj]; omega
  · simp only [ofSpans, or_emptyS]
theorem ofSpans_flat : ∀ r : List Sp, ofSpans (r.flatMap segs) = ofSpans r
  | [] => rfl
  | p :: r => by rw [List.flatMap_cons, ofSpans_append, ofSpans_segs, ofSpans_flat r]; rfl
theorem ofSpans_reverse : ∀ l : List Sp, ofSpans l.reverse = ofSpans l
  | [] => rfl
  | p :: l => by rw [List.reverse_cons, ofSpans_append, ofSpans_reverse l]; simp only [ofSpans, or_emptyS, emptyS_or]; exact BitVec.or_comm ..
theorem flat_take (r : List Sp) (j : Nat) (h : j < r.length) : (r.take (j + 1)).flatMap segs = (r.take j).flatMap segs ++ segs r[j] := by
  rw [List.take_succ_eq_append_getElem h, List.flatMap_append]; simp
theorem flat_len (r : List Sp) : (r.flatMap segs).length ≤ 3 * r.length := by
  induction r with
  | nil => simp
  | cons p r ih => rw [List.flatMap_cons, List.length_append, List.length_cons]; have : (segs p).length ≤ 3 := by unfold segs; split <;> simp
                   omega
theorem spsCells_append (a b : List Sp) : spsCells (a ++ b) = spsCells a ++ spsCells b := List.flatMap_append ..
theorem spsCells_len (l : List Sp) : (spsCells l).length = l.length * 2 := flatMap_len spCells 2 spCells_len l

theorem ofSpans_at (l : List Sp) (S : BitVec 256) (v : Value) (w : World) (h : Sl w v 2 l.length (spsCells l)) (e : ofSpans l = S) :
    Calls Try.prog 14 #[v] w fun e w' => e = .returned (.agg #[.int .u64 (wd S 0), .int .u64 (wd S 1), .int .u64 (wd S 2), .int .u64 (wd S 3)]) ∧ Gr w w' := by
  subst e; exact ofSpans_any l v w h

theorem owns_later {w w' : World} {B e n k : Nat} {v : Value} {xs : List Value} (h : w.ownsRow B e k v n xs) (hG : Gr w w') : w'.ownsRow B e k v n xs := by
  obtain ⟨h1, h2⟩ := h
  refine ⟨h1, h2.imp id ?_⟩
  rintro ⟨g, cap, cur, hv, hb, hh, r⟩
  refine ⟨g, cap, cur, hv, hb, ?_, r⟩
  have hlt : g < w.heap.size := (Array.getElem?_eq_some_iff.1 hh).1
  rw [Below.block hG g hlt]; exact hh
/-- An owned row, while another block is written. -/
theorem owns_heap {w w' : World} {B e n k : Nat} {v : Value} {xs : List Value} (h : w.ownsRow B e k v n xs) (hb : ∀ g, v.ownBlock = some g → w'.heap[g]? = w.heap[g]?) : w'.ownsRow B e k v n xs := by
  obtain ⟨h1, h2⟩ := h
  refine ⟨h1, h2.imp id ?_⟩
  rintro ⟨g, cap, cur, hv, hb', hh, r⟩
  exact ⟨g, cap, cur, hv, hb', by rw [hb g (by rw [hv]; rfl)]; exact hh, r⟩

theorem new2_cells (w : World) (a b : Value) (e : TypeId) : ∀ (j : Nat) (u : Value), [a, b][j]? = some u → (w.alloc (.cells #[a, b] e)).cell? ((⟨w.heap.size, 0, none⟩ : Addr).add j) = some u := fun j u hj => by
  have := (boxAt.new (w := w) [a, b] e rfl).cell j u hj
  rw [show (⟨w.heap.size, 0, none⟩ : Addr).add j = ⟨w.heap.size, j, none⟩ by
    unfold Addr.add
    by_cases h : j = 0
    · subst h; rfl
    · rw [if_neg h]; simp]
  exact this
theorem new_cells (w : World) (vs : List Value) (e : TypeId) : ∀ (j : Nat) (u : Value), vs[j]? = some u → (w.alloc (.cells vs.toArray e)).cell? ((⟨w.heap.size, 0, none⟩ : Addr).add j) = some u := fun j u hj => by
  have := (boxAt.new (w := w) vs e rfl).cell j u hj
  rw [show (⟨w.heap.size, 0, none⟩ : Addr).add j = ⟨w.heap.size, j, none⟩ by
    unfold Addr.add
    by_cases h : j = 0
    · subst h; rfl
    · rw [if_neg h]; simp]
  exact this
theorem four_one (x y z t : Int) : ∀ u ∈ [Value.int .u8 x, .int .u8 y, .int .u8 z, .int .u8 t], u.oneCell' = true := fun u hu => by
  simp at hu; rcases hu with rfl | rfl | rfl | rfl <;> rfl
theorem two_one (x y : Int) : ∀ u ∈ [Value.int .u8 x, .int .u8 y], u.oneCell' = true := fun u hu => by
  simp at hu; rcases hu with rfl | rfl <;> rfl

theorem info_span : (Try.prog.info? 37).map (fun i => (i.zero, i.size, i.bytes)) = some (some (.agg #[.int .u8 0, .int .u8 0]), 2, 2) := by kernel_rfl

set_option maxHeartbeats 400000 in
theorem setSpans_long (p : Option Addr) (n c : Nat) (w : World) (hn : 300 < n) (hm : n ≤ 9223372036854775807) : Calls Try.prog 4 #[.slice p n c] w fun e w' => e = .returned (.bool true) ∧ Gr w w' := by
  have hI : (300 : Int) < (n : Int) := by omega
  clear hn
  go_enter Try.func4, Try.ntmps4
  go_wp2_with (go_at_call 13; (with_reducible refine (wakes_any _).mono ?_); rintro e w5 ⟨rfl, hb⟩)
  go_ret
  exact ⟨rfl, hb⟩

set_option maxRecDepth 100000 in
set_option maxHeartbeats 4000000 in
theorem setSpans_some (l : List Sp) (b off cap : Nat) (w : World) (hn : l.length ≤ 300) (hsl : Sl w (.slice (some ⟨b, off, none⟩) l.length cap) 2 l.length (spsCells l)) (hb : l.length ≠ 0 → b < w.heap.size)
    (hc : ∀ (k : Nat) (x : Sp), l[k]? = some x → w.cell? ⟨b, off + k * 2, none⟩ = some (vB x.1) ∧ w.cell? ⟨b, off + k * 2 + 1, none⟩ = some (vB x.2)) :
    Calls Try.prog 4 #[.slice (some ⟨b, off, none⟩) l.length cap] w fun e w' => e = .returned (.bool true) ∧ Gr w w' := by
  obtain ⟨i0, hi, hz0, hz1, hz2⟩ := info_parts info_span
  have hI : (l.length : Int) ≤ 300 := by omega
  go_enter Try.func4, Try.ntmps4
  go_wp2_with fail
  go_at_call 14
  refine (ofSpans_any l _ _ hsl).mono ?_; rintro e w1 ⟨rfl, hgw⟩
  obtain ⟨S, hS⟩ : ∃ S, ofSpans l = S := ⟨_, rfl⟩
  rw [hS]
  have HS := Lib.hid hS
  clear hS hsl
  go_wp2_with fail
  go_loopw [4, 6] (fun v i wr => ∃ (q : Int) (j : Nat) (A : BitVec 256), j ≤ l.length ∧ Hid (q = (l.length : Int) - 1 - (j : Int)) ∧ -1 ≤ q ∧ q ≤ 300 ∧ i = .int .i64 q ∧ Gr w wr ∧ Hid (A = ofSpans (l.reverse.take j)) ∧
    boxAt wr w1.heap.size [.int .u64 (wd S 0), .int .u64 (wd S 1), .int .u64 (wd S 2), .int .u64 (wd S 3)] ∧ boxAt wr (w1.heap.size + 1) [.int .u64 (wd A 0), .int .u64 (wd A 1), .int .u64 (wd A 2), .int .u64 (wd A 3)] ∧
    wr.ownsRow (w1.heap.size + 2) 37 2 v ((l.reverse.take j).flatMap segs).length (spsCells ((l.reverse.take j).flatMap segs)) ∧ w1.heap.size + 2 ≤ wr.heap.size) (fun _ i _ => (intOf i + 1).toNat)
  case atStart =>
    refine ⟨(l.length : Int) - 1, 0, emptyS, by omega, Lib.hid (by omega), by omega, by omega, rfl, (hgw.trans (Gr.alloc _ _)).trans (Gr.alloc _ _), Lib.hid (by rw [List.take_zero]; rfl), ?_, ?_, World.ownsRow_nil _ _ _ _, by simp⟩
    · exact boxAt.later (boxAt.new _ _ rfl) (Gr.alloc _ _)
    · simp only [wd_zero]
      have := boxAt.new (w := w1.alloc (.cells #[.int .u64 (wd S 0), .int .u64 (wd S 1), .int .u64 (wd S 2), .int .u64 (wd S 3)] 24)) [.int .u64 0, .int .u64 0, .int .u64 0, .int .u64 0] 24 rfl
      simpa using this
  case round =>
    obtain ⟨q, j, A, hj, hq, hq1, hq2, rfl, hg, hA, xs, xa, hown, hz⟩ := hrel
    by_cases hq0 : 0 ≤ q
    · obtain ⟨i, rfl⟩ := Int.eq_ofNat_of_zero_le hq0
      have hil : i < l.length := by have := hq.out; omega
      have hjl : j < l.reverse.length := by have := hq.out; rw [List.length_reverse]; omega
      have hrj : l.reverse[j] = l[i] := by
        rw [List.getElem_reverse]; congr 1; have := hq.out; omega
      have hcell := hc i l[i] (List.getElem?_eq_getElem hil)
      have hbl : b < w.heap.size := hb (by omega)
      have c1 := hg.cell hcell.1
      have c2 := hg.cell hcell.2
      have d1 := hcell.1
      have d2 := hcell.2
      obtain ⟨P0, hP⟩ : ∃ P0, P0 = l[i] := ⟨_, rfl⟩
      rw [← hP] at c1 c2 d1 d2
      have hx := P0.1.toNat_lt
      have hy := P0.2.toNat_lt
      have HF := Lib.hid (flat_take l.reverse j hjl)
      have HA := Lib.hid (ofSpans_take l.reverse j hjl)
      rw [hrj, ← hP] at HF HA
      unfold vB at c1 c2 d1 d2
      obtain ⟨x, hX⟩ : ∃ x : Nat, P0.1.toNat = x := ⟨_, rfl⟩
      obtain ⟨y, hY⟩ : ∃ x : Nat, P0.2.toNat = x := ⟨_, rfl⟩
      rw [hX] at c1 d1 hx
      rw [hY] at c2 d2 hy
      have HLx := Lib.hid (show x < 256 by omega)
      have HLy := Lib.hid (show y < 256 by omega)
      have hxI : (x : Int) < 256 := by omega
      have hyI : (y : Int) < 256 := by omega
      have HX := Lib.hid hX
      have HY := Lib.hid hY
      clear hcell hP hrj hX hY hx hy hc hb
      have ex : IntKind.i64.wrap (x : Int) = (x : Int) := IntWalk.i64_in _ (by omega)
      have ey : IntKind.i64.wrap (y : Int) = (y : Int) := IntWalk.i64_in _ (by omega)
      have es : IntKind.i64.wrap ((x : Int) + (y : Int)) = (x : Int) + (y : Int) := IntWalk.i64_in _ (by omega)
      obtain ⟨m, hm⟩ : ∃ m : Nat, (x + y) / 2 = m := ⟨_, rfl⟩
      have hmI : (m : Int) < 256 := by omega
      have et : IntKind.i64.wrap (((x : Int) + (y : Int)).tdiv 2) = (m : Int) := by
        rw [Int.tdiv_eq_ediv_of_nonneg (by omega), IntWalk.i64_in _ (by omega)]; omega
      have em : IntKind.u8.wrap (m : Int) = (m : Int) := by rw [IntKind.wrap_u8]; omega
      have HMid := Lib.hid hm
      clear hm
      go_wp2_with fail
      have hcap0 : (0 : Int) ≤ (i : Int) := by omega
      have hlen0 : (i : Int) < (l.length : Int) := by omega
      have hbr : b < wr.heap.size := by have := hg.size; omega
      have c_a0 := xa.cell 0 _ rfl
      have c_a1 := xa.cell 1 _ rfl
      have c_a2 := xa.cell 2 _ rfl
      have c_a3 := xa.cell 3 _ rfl
      have m_a0 := xa.mark 0 _ rfl
      have m_a1 := xa.mark 1 _ rfl
      have m_a2 := xa.mark 2 _ rfl
      have m_a3 := xa.mark 3 _ rfl
      have l_a := xa.lt (Nat.succ_pos _)
      refine wp_region_G (.take 0 (.take 1 (.take 2 (.take 3 (.take 4 (.take 5 (.take 6 (.take 7 (.take 8 (.take 9 (.take 10 (.take 11 (.take 12 (.take 13 (.take 14 (.run 15 true .nil)))))))))))))))) (by kernel_rfl) (by kernel_rfl) ?_
      simp only [pickOps, nthOp]
      intro wq hG
      repeat (first | (refine wpG_skip_take ?_ ?_; (focus rfl); try simp only [Act.put, List.setIfInBounds_toArray, List.set_cons_zero, List.set_cons_succ]) | (refine wpG_skip_run ?_ ?_; (focus rfl); try simp only [Act.put, List.setIfInBounds_toArray, List.set_cons_zero, List.set_cons_succ]) | (refine wpG_take ?_ ?_; (focus rfl); apply Exists.intro; refine ⟨fun w' hw' => ?_, ?_⟩; (focus (have hc := Gr.cells hw'; go_simp; (try rfl); done)); try simp only [Act.put, List.setIfInBounds_toArray, List.set_cons_zero, List.set_cons_succ]))
      refine wpG_last ?_ (fun K hK => ?_); (focus rfl)
      have hc := hG.cells
      have hm := hG.marks
      go_simp
      refine hK.out _ _ ?_
      try simp only [Act.put, List.setIfInBounds_toArray, List.set_cons_zero, List.set_cons_succ]
      clear hK K hc hm
      refine wpG_done ?_
      clear ex ey es et em
      go_wp2
      have HG := Lib.hid (flat_len (l.reverse.take j))
      refine wp_region_B hG (.take 0 (.take 1 (.take 2 (.take 3 (.take 4 (.take 5 (.take 6 (.take 7 (.take 8 (.take 9 (.take 10 (.run 11 false (.run 12 false (.run 13 true .nil)))))))))))))) (by kernel_rfl) (by kernel_rfl) ?_
      simp only [pickOps, nthOp]
      clear hG; intro wq hG
      repeat (first | (refine wpG_skip_take ?_ ?_; (focus rfl); try simp only [Act.put, List.setIfInBounds_toArray, List.set_cons_zero, List.set_cons_succ]) | (refine wpG_skip_run ?_ ?_; (focus rfl); try simp only [Act.put, List.setIfInBounds_toArray, List.set_cons_zero, List.set_cons_succ]) | (refine wpG_take ?_ ?_; (focus rfl); apply Exists.intro; refine ⟨fun w' hw' => ?_, ?_⟩; (focus (have hc := Gr.cells hw'; go_simp; (try rfl); done)); try simp only [Act.put, List.setIfInBounds_toArray, List.set_cons_zero, List.set_cons_succ]) | (refine wpG_run ?_ (fun K hK => ?_); (focus rfl); go_simp; (first | (go_at_call 15; (with_reducible refine (range_any x y _ (HLx.out) (HLy.out)).mono ?_); rintro e w' ⟨rfl, hb⟩) | (go_at_call 6; (with_reducible refine (union_any _ _ _).mono ?_); rintro e w' ⟨rfl, hb⟩)); (try dsimp only); replace hG := hG.trans hb; refine hK.out _ _ hG ?_; clear hK K hb; try simp only [Act.put, List.setIfInBounds_toArray, List.set_cons_zero, List.set_cons_succ]))
      rename_i w2
      refine wpG_last ?_ (fun K hK => ?_); (focus rfl)
      have hc := hG.cells
      have hm := hG.marks
      go_simp
      refine hK.out _ _ ?_
      try simp only [Act.put, List.setIfInBounds_toArray, List.set_cons_zero, List.set_cons_succ]
      clear hK K hc hm
      refine wpG_done ?_
      clear c_a0 c_a1 c_a2 c_a3 m_a0 m_a1 m_a2 m_a3 l_a
      refine name_K (fun W2 hW => ?_)
      obtain ⟨A2, hA2⟩ : ∃ A2, A ||| rangeSet x y = A2 := ⟨_, rfl⟩
      rw [hA2] at hW
      have HA2 := Lib.hid hA2
      have ya : boxAt W2 (w1.heap.size + 1) [.int .u64 (wd A2 0), .int .u64 (wd A2 1), .int .u64 (wd A2 2), .int .u64 (wd A2 3)] := by rw [hW]; exact (xa.later hG).put4 _ _ _ _
      have ys : boxAt W2 w1.heap.size [.int .u64 (wd S 0), .int .u64 (wd S 1), .int .u64 (wd S 2), .int .u64 (wd S 3)] := by rw [hW]; exact (xs.later hG).far4 (by omega) _ _ _ _
      have hg2 : Gr w W2 := by rw [hW]; exact Below.put4 (hg.trans hG) (by have := hgw.size; omega) _ _ _ _
      have hzz : w1.heap.size + 2 ≤ W2.heap.size := by rw [hW, size_put4]; have := hG.size; omega
      have hown2 : W2.ownsRow (w1.heap.size + 2) 37 2 u4 ((l.reverse.take j).flatMap segs).length (spsCells ((l.reverse.take j).flatMap segs)) := by
        refine owns_heap (owns_later hown hG) (fun g hgb => ?_)
        have := (World.ownsRow.lt hown g hgb).1
        rw [hW, Below.heap_setCell _ _ _ _ (by show g ≠ w1.heap.size + 1; omega), Below.heap_setCell _ _ _ _ (by show g ≠ w1.heap.size + 1; omega), Below.heap_setCell _ _ _ _ (by show g ≠ w1.heap.size + 1; omega), Below.heap_setCell _ _ _ _ (by show g ≠ w1.heap.size + 1; omega)]
      clear hW hG hown xa xs hA2 hz hg
      have e1 := hg2.cell d1
      have e2 := hg2.cell d2
      have hb2 : b < W2.heap.size := by have := hg2.size; omega
      clear c1 c2 hbr
      have hfl : ((l.reverse.take j).flatMap segs).length ≤ 900 := by
        have h1 := HG.out
        have h2 : (l.reverse.take j).length ≤ 300 := by rw [List.length_take, List.length_reverse]; omega
        omega
      obtain ⟨nb, hnb⟩ : ∃ nb, ((l.reverse.take j).flatMap segs).length = nb := ⟨_, rfl⟩
      rw [hnb] at hown2 hfl
      have HNB := Lib.hid hnb
      clear hnb HG
      go_wp2_with (at_builtin; refine wpList_append_own _ rfl (.tmp 49) (.tmp 54) 34 rfl (w1.heap.size + 2) 37 i0 (.agg #[.int .u8 0, .int .u8 0]) 2 2 Try.underlying34 hi hz0 hz1 hz2 rfl (by decide) _ _ _ rfl (hown2.alloc _) ⟨W2.heap.size, 0, none⟩ 1 1 [.int .u8 (x : Int), .int .u8 (y : Int)] rfl rfl ?c1 ?c2 ?c3 ?c4 ?c5 ?_)
      case c1 => exact new2_cells _ _ _ _
      case c2 => exact two_one _ _
      case c3 => unfold maxLen; omega
      case c4 => omega
      case c5 => simp; omega
      intro v3 W3 hown3 hgrow _
      have hne : ∀ g, u4.ownBlock = some g → w1.heap.size + 2 ≤ g := fun g hgb => (World.ownsRow.lt hown2 g hgb).1
      have hg3 : Gr w W3 := Gr.grown (hg2.trans (Gr.alloc _ _)) hgrow (fun g hgb => by have := hne g hgb; have := hgw.size; omega)
      have za := (ya.later (Gr.alloc W2 (.cells #[.int .u8 (x : Int), .int .u8 (y : Int)] 37))).grown hgrow (by simp) (fun e => by have := hne _ e; omega)
      have zs := (ys.later (Gr.alloc W2 (.cells #[.int .u8 (x : Int), .int .u8 (y : Int)] 37))).grown hgrow (by simp) (fun e => by have := hne _ e; omega)
      have hz3 : w1.heap.size + 2 ≤ W3.heap.size := by have := hgrow.size; simp at this; omega
      clear hne hgrow hown2 ya ys hg2 hzz e1 e2 hb2
      have e1 := hg3.cell d1
      have e2 := hg3.cell d2
      have hb3 : b < W3.heap.size := by have := hg3.size; omega
      have hown3' : W3.ownsRow (w1.heap.size + 2) 37 2 v3 (nb + 1) (spsCells ((l.reverse.take j).flatMap segs ++ [P0])) := by
        rw [spsCells_append]
        have : spsCells [P0] = [.int .u8 (x : Int), .int .u8 (y : Int)] := by
          have h1 := HX.out; have h2 := HY.out
          simp only [spsCells, List.flatMap_cons, List.flatMap_nil, spCells, vB, h1, h2, List.append_nil]
        rw [this]; exact hown3
      clear hown3
      by_cases hxy : x < y
      · have HXY := Lib.hid hxy
        have hsegs : segs P0 = [P0, (P0.1, midB P0), (midB P0, P0.2)] := by unfold segs; rw [HX.out, HY.out, if_pos hxy]
        have HSG := Lib.hid hsegs
        clear hsegs
        go_wp2
        refine wp_region_G (.take 0 (.take 1 (.take 2 (.take 3 (.take 4 (.take 5 (.take 6 (.take 7 (.take 8 (.take 9 (.take 10 .nil))))))))))) (by kernel_rfl) (by kernel_rfl) ?_
        simp only [pickOps, nthOp]
        intro wq hG
        repeat (first | (refine wpG_skip_take ?_ ?_; (focus rfl); try simp only [Act.put, List.setIfInBounds_toArray, List.set_cons_zero, List.set_cons_succ]) | (refine wpG_skip_run ?_ ?_; (focus rfl); try simp only [Act.put, List.setIfInBounds_toArray, List.set_cons_zero, List.set_cons_succ]) | (refine wpG_take ?_ ?_; (focus rfl); apply Exists.intro; refine ⟨fun w' hw' => ?_, ?_⟩; (focus (have hc := Gr.cells hw'; go_simp; (try rfl); done)); try simp only [Act.put, List.setIfInBounds_toArray, List.set_cons_zero, List.set_cons_succ]))
        refine wpG_done ?_
        have hown6 := owns_later hown3' hG
        have za6 := za.later hG
        have zs6 := zs.later hG
        have hz6 : w1.heap.size + 2 ≤ wq.heap.size := by have := hG.size; omega
        have hg6 := hg3.trans hG
        clear hG hown3' za zs hz3 hg3 e1 e2 hb3
        have e1 := hg6.cell d1
        have e2 := hg6.cell d2
        have hb3 : b < wq.heap.size := by have := hg6.size; omega
        go_wp2
        refine wp_region_S (Gr w) (.take 0 (.take 1 (.take 2 (.take 3 (.take 4 (.take 5 (.take 6 (.take 7 (.take 8 (.take 9 (.take 10 (.take 11 (.take 12 (.take 13 (.take 14 (.run 15 false (.run 16 false (.run 17 true .nil)))))))))))))))))) (hg6.trans (Gr.drew _)) (by kernel_rfl) (by kernel_rfl) ?_
        simp only [pickOps, nthOp]
        intro wr7 hN hG
        repeat (first | (refine wpG_skip_take ?_ ?_; (focus rfl); try simp only [Act.put, List.setIfInBounds_toArray, List.set_cons_zero, List.set_cons_succ]) | (refine wpG_skip_run ?_ ?_; (focus rfl); try simp only [Act.put, List.setIfInBounds_toArray, List.set_cons_zero, List.set_cons_succ]) | (refine wpG_take ?_ ?_; (focus rfl); apply Exists.intro; refine ⟨fun w' hw' => ?_, ?_⟩; (focus (have hc := Gr.cells hw'; go_simp; (try rfl); done)); try simp only [Act.put, List.setIfInBounds_toArray, List.set_cons_zero, List.set_cons_succ]))
        refine wpG_run rfl (fun K hK => ?_)
        go_simp
        refine name_K (fun W8 hW8 => ?_)
        have hN8 := hN.trans (Gr.of_alloc hW8)
        have hc8 : ∀ (j : Nat) (u : Value), [Value.int .u8 (x : Int), .int .u8 (m : Int), .int .u8 (m : Int), .int .u8 (y : Int)][j]? = some u → W8.cell? ((⟨wr7.heap.size, 0, none⟩ : Addr).add j) = some u := by rw [hW8]; exact new_cells _ _ _
        refine hK.out _ _ (hg6.trans hN8) ?_
        clear hK K hW8 hG
        try simp only [Act.put, List.setIfInBounds_toArray, List.set_cons_zero, List.set_cons_succ]
        refine wpG_run rfl (fun K hK => ?_)
        refine wp_append_own _ (.tmp 67) (.tmp 82) 34 rfl (w1.heap.size + 2) 37 i0 (.agg #[.int .u8 0, .int .u8 0]) 2 2 Try.underlying34 hi hz0 hz1 hz2 rfl (by decide) v3 (nb + 1) _ rfl (owns_later hown6 hN8) ⟨wr7.heap.size, 0, none⟩ 2 2 [.int .u8 (x : Int), .int .u8 (m : Int), .int .u8 (m : Int), .int .u8 (y : Int)] rfl rfl hc8 (four_one _ _ _ _) (by unfold maxLen; omega) (by omega) (by have := hN8.size; omega) ?_
        intro v9 W9 hown9 hgrow9 _
        have hne9 : ∀ g, v3.ownBlock = some g → w1.heap.size + 2 ≤ g := fun g hgb => (World.ownsRow.lt hown6 g hgb).1
        have hn8 := hN8.size
        have hg9 : Gr w W9 := Gr.grown (hg6.trans hN8) hgrow9 (fun g hgb => by have := hne9 g hgb; have := hgw.size; omega)
        have za9 := (za6.later hN8).grown hgrow9 (by simp) (fun e => by have := hne9 _ e; omega)
        have zs9 := (zs6.later hN8).grown hgrow9 (by simp) (fun e => by have := hne9 _ e; omega)
        have hz9 : w1.heap.size + 2 ≤ W9.heap.size := by have := hgrow9.size; omega
        have hown9' : W9.ownsRow (w1.heap.size + 2) 37 2 v9 ((l.reverse.take j).flatMap segs ++ segs P0).length (spsCells ((l.reverse.take j).flatMap segs ++ segs P0)) := by
          have h1 : spsCells ((l.reverse.take j).flatMap segs ++ segs P0) = spsCells ((l.reverse.take j).flatMap segs ++ [P0]) ++ [Value.int .u8 (x : Int), .int .u8 (m : Int), .int .u8 (m : Int), .int .u8 (y : Int)] := by
            have h2 : (midB P0).toNat = m := by rw [midB_nat, HX.out, HY.out, HMid.out]
            have h3 := HX.out; have h4 := HY.out
            rw [HSG.out]
            simp only [spsCells, List.flatMap_cons, List.flatMap_append, List.flatMap_nil, spCells, vB, h2, h3, h4, List.append_nil, List.append_assoc, List.cons_append, List.nil_append]
          rw [h1, List.length_append, HNB.out, HSG.out]
          exact hown9
        refine hK.out _ _ hg9 ?_
        clear hK K hown9 hgrow9 hc8 hN8 hn8 hown6 hne9 za6 zs6 hg6 hz6 e1 e2 hb3 hN
        try simp only [Act.put, List.setIfInBounds_toArray, List.set_cons_zero, List.set_cons_succ]
        refine wpG_last ?_ (fun K hK => ?_); (focus rfl)
        go_simp
        refine hK.out _ _ ?_
        clear hK K
        try simp only [Act.put, List.setIfInBounds_toArray, List.set_cons_zero, List.set_cons_succ]
        refine wpG_done ?_
        go_wp2
        go_roundw
        case rel =>
          refine ⟨(i : Int) - 1, j + 1, A2, by have := hq.out; omega, by have := hq.out; show _ = _; omega, by omega, by omega, rfl, hg9, ?_, zs9, za9, ?_, hz9⟩
          · show A2 = _
            rw [HA.out, HX.out, HY.out, ← hA.out]; exact HA2.out.symm
          · rw [HF.out]; exact hown9'
        case measure => simp [intOf]
      · have HXY := Lib.hid hxy
        have hsegs : segs P0 = [P0] := by unfold segs; rw [HX.out, HY.out, if_neg hxy]
        go_wp2
        refine wp_region_G (.take 0 (.take 1 (.take 2 (.take 3 (.take 4 (.take 5 (.take 6 (.take 7 (.take 8 (.take 9 (.take 10 .nil))))))))))) (by kernel_rfl) (by kernel_rfl) ?_
        simp only [pickOps, nthOp]
        intro wq hG
        repeat (first | (refine wpG_skip_take ?_ ?_; (focus rfl); try simp only [Act.put, List.setIfInBounds_toArray, List.set_cons_zero, List.set_cons_succ]) | (refine wpG_skip_run ?_ ?_; (focus rfl); try simp only [Act.put, List.setIfInBounds_toArray, List.set_cons_zero, List.set_cons_succ]) | (refine wpG_take ?_ ?_; (focus rfl); apply Exists.intro; refine ⟨fun w' hw' => ?_, ?_⟩; (focus (have hc := Gr.cells hw'; go_simp; (try rfl); done)); try simp only [Act.put, List.setIfInBounds_toArray, List.set_cons_zero, List.set_cons_succ]))
        refine wpG_done ?_
        go_wp2
        go_roundw
        case rel =>
          refine ⟨(i : Int) - 1, j + 1, A2, by have := hq.out; omega, by have := hq.out; show _ = _; omega, by omega, by omega, rfl, hg3.trans hG, ?_, zs.later hG, za.later hG, ?_, ?_⟩
          · show A2 = _
            rw [HA.out, HX.out, HY.out, ← hA.out]; exact HA2.out.symm
          · rw [HF.out, hsegs, List.length_append, HNB.out]
            exact owns_later hown3' hG
          · have := hG.size; omega
        case measure => simp [intOf]
    · have hjl : j = l.length := by have := hq.out; omega
      have hqe : q = -1 := by have := hq.out; omega
      have hAS : A = S := by rw [hA.out, hjl, List.take_of_length_le (by simp), ofSpans_reverse]; exact HS.out
      have hL : ofSpans ((l.reverse.take j).flatMap segs) = S := by rw [ofSpans_flat, hjl, List.take_of_length_le (by simp), ofSpans_reverse]; exact HS.out
      subst hAS hqe
      have hsl := Sl.of_owns hown
      have HL := Lib.hid hL
      clear hA hL hc hq hown
      have k1 : (A == A) = true := by simp
      have hgW := hg
      have c_s0 := xs.cell 0 _ rfl
      have c_s1 := xs.cell 1 _ rfl
      have c_s2 := xs.cell 2 _ rfl
      have c_s3 := xs.cell 3 _ rfl
      have m_s0 := xs.mark 0 _ rfl
      have m_s1 := xs.mark 1 _ rfl
      have m_s2 := xs.mark 2 _ rfl
      have m_s3 := xs.mark 3 _ rfl
      have l_s := xs.lt (Nat.succ_pos _)
      have c_a0 := xa.cell 0 _ rfl
      have c_a1 := xa.cell 1 _ rfl
      have c_a2 := xa.cell 2 _ rfl
      have c_a3 := xa.cell 3 _ rfl
      have m_a0 := xa.mark 0 _ rfl
      have m_a1 := xa.mark 1 _ rfl
      have m_a2 := xa.mark 2 _ rfl
      have m_a3 := xa.mark 3 _ rfl
      have l_a := xa.lt (Nat.succ_pos _)
      go_wp2_with fail
      refine wp_region_G (.take 0 (.take 2 (.run 1 false (.take 3 (.take 4 (.take 5 (.take 6 (.take 7 (.take 8 (.take 9 (.run 10 false (.take 11 (.run 12 true .nil))))))))))))) (by kernel_rfl) (by kernel_rfl) ?_
      simp only [pickOps, nthOp]
      intro wq hG
      repeat (first | (refine wpG_skip_take ?_ ?_; (focus rfl); try simp only [Act.put, List.setIfInBounds_toArray, List.set_cons_zero, List.set_cons_succ]) | (refine wpG_skip_run ?_ ?_; (focus rfl); try simp only [Act.put, List.setIfInBounds_toArray, List.set_cons_zero, List.set_cons_succ]) | (refine wpG_take ?_ ?_; (focus rfl); apply Exists.intro; refine ⟨fun w' hw' => ?_, ?_⟩; (focus (have hc := Gr.cells hw'; go_simp; (try rfl); done)); try simp only [Act.put, List.setIfInBounds_toArray, List.set_cons_zero, List.set_cons_succ]) | (refine wpG_run ?_ (fun K hK => ?_); (focus rfl); go_simp; (first | (go_at_call 14; (with_reducible refine (ofSpans_at _ _ _ _ (hsl.later hG) HL.out).mono ?_); rintro e w' ⟨rfl, hb⟩) | (go_at_call 13; (with_reducible refine (wakes_any _).mono ?_); rintro e w' ⟨rfl, hb⟩)); (try dsimp only); replace hG := hG.trans hb; refine hK.out _ _ hG ?_; clear hK K hb; try simp only [Act.put, List.setIfInBounds_toArray, List.set_cons_zero, List.set_cons_succ]))
      refine wpG_last ?_ (fun K hK => ?_); (focus rfl)
      have hc := hG.cells
      have hm := hG.marks
      go_simp
      refine hK.out _ _ ?_
      try simp only [Act.put, List.setIfInBounds_toArray, List.set_cons_zero, List.set_cons_succ]
      clear hK K hc hm
      refine wpG_done ?_
      go_wp2
      go_ret
      exact ⟨rfl, hgW.trans hG⟩

set_option maxHeartbeats 4000000 in
theorem setSpans_nil (w : World) : Calls Try.prog 4 #[.slice none 0 0] w fun e w' => e = .returned (.bool true) ∧ Gr w w' := by
  go_enter Try.func4, Try.ntmps4
  go_wp2_with fail
  go_at_call 14
  refine (ofSpans_at [] emptyS _ _ (Sl.nil _ _) rfl).mono ?_; rintro e w1 ⟨rfl, hgw⟩
  go_wp2_with fail
  refine name_world (fun W hW => ?_)
  have xs : boxAt W w1.heap.size [.int .u64 (wd emptyS 0), .int .u64 (wd emptyS 1), .int .u64 (wd emptyS 2), .int .u64 (wd emptyS 3)] := by
    rw [hW]; exact boxAt.later (boxAt.new _ _ rfl) (Gr.alloc _ _)
  have xa : boxAt W (w1.heap.size + 1) [.int .u64 (wd emptyS 0), .int .u64 (wd emptyS 1), .int .u64 (wd emptyS 2), .int .u64 (wd emptyS 3)] := by
    rw [hW]
    simp only [wd_zero]
    have := boxAt.new (w := w1.alloc (.cells #[.int .u64 0, .int .u64 0, .int .u64 0, .int .u64 0] 24)) [.int .u64 0, .int .u64 0, .int .u64 0, .int .u64 0] 24 rfl
    simpa using this
  have hgW : Gr w W := by rw [hW]; exact (hgw.trans (Gr.alloc _ _)).trans (Gr.alloc _ _)
  clear hW
  refine wp_loop_rounds 1 ?_
  rw [rounds_succ]
  have c_s0 := xs.cell 0 _ rfl
  have c_s1 := xs.cell 1 _ rfl
  have c_s2 := xs.cell 2 _ rfl
  have c_s3 := xs.cell 3 _ rfl
  have m_s0 := xs.mark 0 _ rfl
  have m_s1 := xs.mark 1 _ rfl
  have m_s2 := xs.mark 2 _ rfl
  have m_s3 := xs.mark 3 _ rfl
  have l_s := xs.lt (Nat.succ_pos _)
  have c_a0 := xa.cell 0 _ rfl
  have c_a1 := xa.cell 1 _ rfl
  have c_a2 := xa.cell 2 _ rfl
  have c_a3 := xa.cell 3 _ rfl
  have m_a0 := xa.mark 0 _ rfl
  have m_a1 := xa.mark 1 _ rfl
  have m_a2 := xa.mark 2 _ rfl
  have m_a3 := xa.mark 3 _ rfl
  have l_a := xa.lt (Nat.succ_pos _)
  go_wp2_with fail
  have hsl : Sl W (.slice none 0 0) 2 0 (spsCells []) := Sl.nil _ _
  refine wp_region_G (.take 0 (.take 2 (.run 1 false (.take 3 (.take 4 (.take 5 (.take 6 (.take 7 (.take 8 (.take 9 (.run 10 false (.take 11 (.run 12 true .nil))))))))))))) (by kernel_rfl) (by kernel_rfl) ?_
  simp only [pickOps, nthOp]
  intro wq hG
  repeat (first | (refine wpG_skip_take ?_ ?_; (focus rfl); try simp only [Act.put, List.setIfInBounds_toArray, List.set_cons_zero, List.set_cons_succ]) | (refine wpG_skip_run ?_ ?_; (focus rfl); try simp only [Act.put, List.setIfInBounds_toArray, List.set_cons_zero, List.set_cons_succ]) | (refine wpG_take ?_ ?_; (focus rfl); apply Exists.intro; refine ⟨fun w' hw' => ?_, ?_⟩; (focus (have hc := Gr.cells hw'; go_simp; (try rfl); done)); try simp only [Act.put, List.setIfInBounds_toArray, List.set_cons_zero, List.set_cons_succ]) | (refine wpG_run ?_ (fun K hK => ?_); (focus rfl); go_simp; (first | (go_at_call 14; (with_reducible refine (ofSpans_at [] emptyS _ _ (Sl.nil _ _) rfl).mono ?_); rintro e w' ⟨rfl, hb⟩) | (go_at_call 13; (with_reducible refine (wakes_any _).mono ?_); rintro e w' ⟨rfl, hb⟩)); (try dsimp only); replace hG := hG.trans hb; refine hK.out _ _ hG ?_; clear hK K hb; try simp only [Act.put, List.setIfInBounds_toArray, List.set_cons_zero, List.set_cons_succ]))
  refine wpG_last ?_ (fun K hK => ?_); (focus rfl)
  have hc := hG.cells
  have hm := hG.marks
  go_simp
  refine hK.out _ _ ?_
  try simp only [Act.put, List.setIfInBounds_toArray, List.set_cons_zero, List.set_cons_succ]
  clear hK K hc hm
  refine wpG_done ?_
  go_wp2
  go_ret
  exact ⟨rfl, hgW.trans hG⟩

theorem setSpans_any (l : List Sp) (v : Value) (w : World) (h : Sl w v 2 l.length (spsCells l)) : Calls Try.prog 4 #[v] w fun e w' => e = .returned (.bool true) ∧ Gr w w' := by
  have h0 := h
  obtain ⟨_, hn, h⟩ := h
  unfold maxLen at hn
  rcases h with ⟨rfl, _⟩ | ⟨b, off, cap, rfl, hb, hc⟩
  · exact setSpans_nil w
  · by_cases h3 : l.length ≤ 300
    · exact setSpans_some l b off cap w h3 h0 hb (fun k x hx => by
        have := spsCells_get l k x hx
        exact ⟨hc _ _ this.1, by rw [Nat.add_assoc]; exact hc _ _ this.2⟩)
    · exact setSpans_long _ _ _ w (by omega) (by omega)

end Go.Proofs.Ytambkpgcccjhmaa
