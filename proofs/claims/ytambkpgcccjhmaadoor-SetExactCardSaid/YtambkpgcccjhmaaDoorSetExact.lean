/- SetExact of bolterlaw1, walked: it answers true. No condition but the table's. -/
import Derived.Test.YtambkpgcccjhmaaDoorTold
import Derived.Test.YtambkpgcccjhmaaDoorPair
import Derived.Test.YtambkpgcccjhmaaDoorAppend
namespace Go.Proofs.YtambkpgcccjhmaaDoor
open Go Go.RowKit

theorem pair_at (l : List PairV) (k : Nat) (y : PairV) (h : l[k]? = some y) (j : Nat) (u : Value) (hj : j < 10) (hu : (pairCells y)[j]? = some u) : (l.flatMap pairCells)[k * 10 + j]? = some u := by
  rw [flatMap_get pairCells 10 pairCells_len l k j y h hj]; exact hu
theorem lend_in (l : List UInt8) (v : Value) (w : World) (h : Sl w v 1 l.length (l.map vB)) (hn : l.length ≤ 140737488351232) (hz : Nily v) : Calls Tryd.prog 17 #[v] w (Lent l w) := by
  obtain ⟨_, _, ⟨⟨p, c, rfl⟩, h0⟩ | ⟨b, off, cap, rfl, hb, hc⟩⟩ := h
  · obtain rfl := List.eq_nil_of_length_eq_zero h0
    refine lend_any [] p c w hn ?_ ?_ ?_
    · intro hp; subst hp
      rcases hz with hz | ⟨a, n, c', hz⟩
      · injection hz with _ _ hz; exact ⟨rfl, hz⟩
      · cases hz
    · intro ad _ h; exact absurd rfl h
    · intro ad _ j u hj; simp at hj
  · refine lend_any l (some ⟨b, off, none⟩) cap w hn (fun h => by cases h) (fun ad had hn => ?_) (fun ad had j u hj => ?_)
    · injection had with had; subst had; exact hb hn
    · injection had with had; subst had
      rw [addr_add]; exact hc j u hj

theorem cmp_is (a b : BitVec 256) : ∃ c, IsCmp a b c := by
  by_cases h : a = b
  · exact ⟨0, .inl ⟨h, rfl⟩⟩
  · obtain ⟨k, hk⟩ := low_of_ne a b h
    exact ⟨_, cmp_of_low a b k hk⟩
theorem within_is (s t : BitVec 256) (r : Bool) (w : World) (h : (s &&& t == s) = r) : Calls Tryd.prog 32 #[.agg #[.int .u64 (wd s 0), .int .u64 (wd s 1), .int .u64 (wd s 2), .int .u64 (wd s 3)], .agg #[.int .u64 (wd t 0), .int .u64 (wd t 1), .int .u64 (wd t 2), .int .u64 (wd t 3)]] w fun e w' => e = .returned (.bool r) ∧ Gr w w' := by
  subst h; exact within_any s t w
theorem r1within_is (s t : BitVec 256) (r : Bool) (w : World) (h : (s &&& t == s) = r) : Calls Tryd.prog 33 #[.agg #[.int .u64 (wd s 0), .int .u64 (wd s 1), .int .u64 (wd s 2), .int .u64 (wd s 3)], .agg #[.int .u64 (wd t 0), .int .u64 (wd t 1), .int .u64 (wd t 2), .int .u64 (wd t 3)]] w fun e w' => e = .returned (.bool r) ∧ Gr w w' := by
  subst h; exact r1within s t w

set_option maxRecDepth 100000 in
set_option maxHeartbeats 4000000 in
theorem setExact_some (l : List PairV) (b off cap : Nat) (w : World) (hT : Tab w) (hn : l.length ≤ maxLen) (hb : l.length ≠ 0 → b < w.heap.size) (hc : ∀ (j : Nat) (u : Value), (l.flatMap pairCells)[j]? = some u → w.cell? ⟨b, off + j, none⟩ = some u)
    (hl : ∀ y ∈ l, BytesIn w y.vb ∧ SpansIn w y.vs) :
    Calls Tryd.prog 5 #[.slice (some ⟨b, off, none⟩) l.length cap] w fun e w' => e = .returned (.bool true) ∧ Gr w w' := by
  have HT := Lib.hid hT
  have HC := Lib.hid hc
  have HL := Lib.hid hl
  have HB := Lib.hid hb
  unfold maxLen at hn
  clear hT hc hl hb
  obtain ⟨i0, hi, hz0, hz1, hz2⟩ := info_parts info_span
  go_enter Tryd.func5, Tryd.ntmps5
  go_wp2_with fail
  go_loopw [3] (fun i wr => ∃ k : Nat, k ≤ l.length ∧ i = .int .i64 (k : Int) ∧ Gr w wr) (fun i _ => l.length - (intOf i).toNat)
  case atStart => exact ⟨0, by omega, rfl, Gr.refl _⟩
  case round =>
    obtain ⟨k, hk, rfl, hg⟩ := hrel
    by_cases hlt : k < l.length
    · by_cases h12 : k < 12
      · obtain ⟨y, hy⟩ : ∃ y, l[k]? = some y := ⟨_, List.getElem?_eq_getElem hlt⟩
        have hcell := fun j u (hj : j < 10) (hu : (pairCells y)[j]? = some u) => HC.out _ _ (pair_at l k y hy j u hj hu)
        have d0 := hcell 0 _ (by omega) rfl
        have d1 := hcell 1 _ (by omega) rfl
        have d2 := hcell 2 _ (by omega) rfl
        have d3 := hcell 3 _ (by omega) rfl
        have d4 := hcell 4 _ (by omega) rfl
        have d5 := hcell 5 _ (by omega) rfl
        have d6 := hcell 6 _ (by omega) rfl
        have d7 := hcell 7 _ (by omega) rfl
        have d8 := hcell 8 _ (by omega) rfl
        have d9 := hcell 9 _ (by omega) rfl
        have hbw : b < w.heap.size := HB.out (by omega)
        obtain ⟨⟨lb, hsb, hlb, hnb⟩, ⟨ls, hss, hls, hns⟩⟩ := HL.out y (List.mem_of_getElem? hy)
        have HSB := Lib.hid hsb
        have HSS := Lib.hid hss
        obtain ⟨A, B, vb, vs⟩ := y
        simp only at hsb hlb hnb hss hls hns d0 d1 d2 d3 d4 d5 d6 d7 d8 d9
        simp only [← Nat.add_assoc, Nat.add_zero] at d0 d1 d2 d3 d4 d5 d6 d7 d8 d9
        have hkI : (k : Int) < (l.length : Int) := by omega
        have h12I : (k : Int) < 12 := by omega
        have HLT := Lib.hid hlt
        have c0 := hg.cell d0
        have c1 := hg.cell d1
        have c2 := hg.cell d2
        have c3 := hg.cell d3
        have c4 := hg.cell d4
        have c5 := hg.cell d5
        have c6 := hg.cell d6
        have c7 := hg.cell d7
        have c8 := hg.cell d8
        have hbr : b < wr.heap.size := by have := hg.size; omega
        clear hk hlt h12 hcell hy
        go_wp2_with fail
        refine name_calls (fun W hW => ?_)
        obtain ⟨xa, xb, hgWr, hsz⟩ : boxAt W wr.heap.size [.int .u64 (wd A 0), .int .u64 (wd A 1), .int .u64 (wd A 2), .int .u64 (wd A 3)] ∧ boxAt W (wr.heap.size + 1) [.int .u64 (wd B 0), .int .u64 (wd B 1), .int .u64 (wd B 2), .int .u64 (wd B 3)] ∧ Gr wr W ∧ W.heap.size = wr.heap.size + 2 := by
          subst hW; exact boxes2 _ _ _ _ _
        clear hW c0 c1 c2 c3 c4 c5 c6 c7 c8 hbr
        have hgW := hg.trans hgWr
        have hwW := hgW.size
        clear hgWr hg
        go_at_call 17
        refine (lend_in lb vb W (hsb.later hgW) hlb hnb).mono ?_; rintro e w6 ⟨gx, cx, rfl, hown, hb⟩
        have hg6 := hgW.trans hb
        replace xa := xa.later hb
        replace xb := xb.later hb
        have hs6 := hb.size
        have hlx := Lib.hid (Sl.of_head (n := lb.length) hown (by simp) (by omega))
        have HO := Lib.hid hown
        clear hb hown hsb hnb
        have k1 : (ofList lb == ofList lb) = true := by simp
        go_wp2_with fail
        refine wp_region_S (Gr w) (.take 0 (.take 2 (.take 3 (.take 4 (.take 5 (.take 6 (.run 1 false (.run 7 false (.take 8 (.take 9 (.take 10 (.take 11 (.take 12 (.take 13 (.take 14 (.take 15 (.run 16 false (.take 17 (.take 18 .nil))))))))))))))))))) (hg6.trans (Gr.drew _)) (by kernel_rfl) (by kernel_rfl) ?_
        simp only [pickOps, nthOp]
        intro wr7 hN hG
        repeat (first | (refine wpG_skip_take ?_ ?_; (focus rfl); try simp only [Act.put, List.setIfInBounds_toArray, List.set_cons_zero, List.set_cons_succ]) | (refine wpG_skip_run ?_ ?_; (focus rfl); try simp only [Act.put, List.setIfInBounds_toArray, List.set_cons_zero, List.set_cons_succ]) | (refine wpG_take ?_ ?_; (focus rfl); apply Exists.intro; refine ⟨fun w' hw' => ?_, ?_⟩; (focus (have hc := Gr.cells hw'; go_simp; (try rfl); done)); try simp only [Act.put, List.setIfInBounds_toArray, List.set_cons_zero, List.set_cons_succ]) | (refine wpG_run ?_ (fun K hK => ?_); (focus rfl); go_simp; (first | (go_at_call 15; (with_reducible refine (of_is lb (ofList lb) _ _ (hlx.out.later hN) rfl).mono ?_); rintro e w' ⟨rfl, hb⟩; replace hN := hN.trans hb) | (go_at_call 18; (with_reducible refine (r1of lb _ _ (HSB.out.later hG)).mono ?_); rintro e w' ⟨rfl, hb⟩; replace hN := hN.trans hb)); (try dsimp only); replace hG := hG.trans hb; refine hK.out _ _ hG ?_; clear hK K hb; try simp only [Act.put, List.setIfInBounds_toArray, List.set_cons_zero, List.set_cons_succ]))
        refine wpG_run rfl (fun K hK => ?_)
        go_simp
        go_at_call 19
        refine (back_any lb W.heap.size gx cx _ _ hlb (owns_later HO.out hN) (HSB.out.later hG)).mono ?_
        rintro e w8 ⟨rfl, hbk⟩
        have hG8 : Gr w w8 := Below.trans hG (Below.mono hbk hwW)
        have hbk6 : Below W.heap.size w6 w8 := Below.trans (Below.mono hN hs6) hbk
        try dsimp only
        refine hK.out _ _ hG8 ?_
        clear hK K hbk hG
        replace hG := hG8
        clear hG8 hN
        try simp only [Act.put, List.setIfInBounds_toArray, List.set_cons_zero, List.set_cons_succ]
        repeat (first | (refine wpG_skip_take ?_ ?_; (focus rfl); try simp only [Act.put, List.setIfInBounds_toArray, List.set_cons_zero, List.set_cons_succ]) | (refine wpG_skip_run ?_ ?_; (focus rfl); try simp only [Act.put, List.setIfInBounds_toArray, List.set_cons_zero, List.set_cons_succ]) | (refine wpG_take ?_ ?_; (focus rfl); apply Exists.intro; refine ⟨fun w' hw' => ?_, ?_⟩; (focus (have hc := Gr.cells hw'; go_simp; (try rfl); done)); try simp only [Act.put, List.setIfInBounds_toArray, List.set_cons_zero, List.set_cons_succ]))
        refine wpG_done ?_
        replace xa := xa.below hbk6 (by omega)
        replace xb := xb.below hbk6 (by omega)
        have hsw8 := hbk6.size
        clear hbk6 k1 HO hlx hg6
        have hgw8 := hG
        clear hG
        have e9 := hgw8.cell d9
        have hbr8 : b < w8.heap.size := by have := hgw8.size; omega
        obtain ⟨ao, cs, rfl, hao, hsrc⟩ := src_of (hss.later hgw8) hns
        clear hss hns
        go_wp2_with (at_builtin; refine wpList_append_own_any rfl (.tmp 54) (.tmp 59) 34 rfl w8.heap.size 38 i0 (.agg #[.int .u8 0, .int .u8 0]) 2 2 Tryd.underlying34 hi hz0 hz1 hz2 rfl (by decide) (.slice none 0 0) 0 [] rfl (World.ownsRow_nil _ _ _ _) ao ls.length cs (spsCells ls) rfl (spsCells_length ls) hao hsrc (spsCells_one ls) ?c1 ?c2 (Nat.le_refl _) ?_)
        case c1 => unfold maxLen; omega
        case c2 => omega
        intro v7 w9 hown9 hgrow9 _
        have hb9 : Gr w8 w9 := Gr.grown (Gr.refl _) hgrow9 (fun g hg => by cases hg)
        try simp only [Nat.zero_add, List.nil_append] at hown9
        clear hgrow9 hsrc hao e9
        have hgw9 := hgw8.trans hb9
        replace xa := xa.later hb9
        replace xb := xb.later hb9
        have hs9 := hb9.size
        obtain ⟨p7, c7, rfl⟩ := (Sl.of_owns hown9).len
        have HS7 := Lib.hid (Sl.of_owns hown9)
        have HO9 := Lib.hid hown9
        have e9 := hgw9.cell d9
        have hbr9 : b < w9.heap.size := by have := hgw9.size; omega
        have k1 : (ofSpans ls == ofSpans ls) = true := by simp
        have k2 : (~~~emptyS == ~~~emptyS) = true := by simp
        clear hown9 hb9
        go_wp2_with fail
        refine wp_region_G (.take 0 (.take 2 (.take 3 (.take 4 (.take 5 (.take 6 (.run 1 false (.run 7 false (.take 8 (.take 9 (.take 10 (.take 11 (.take 12 (.take 13 (.take 14 (.take 15 (.run 16 false (.take 17 (.take 18 (.take 19 (.run 20 false (.run 21 false (.take 22 (.take 23 .nil)))))))))))))))))))))))) (by kernel_rfl) (by kernel_rfl) ?_
        simp only [pickOps, nthOp]
        intro wq hG
        repeat (first | (refine wpG_skip_take ?_ ?_; (focus rfl); try simp only [Act.put, List.setIfInBounds_toArray, List.set_cons_zero, List.set_cons_succ]) | (refine wpG_skip_run ?_ ?_; (focus rfl); try simp only [Act.put, List.setIfInBounds_toArray, List.set_cons_zero, List.set_cons_succ]) | (refine wpG_take ?_ ?_; (focus rfl); apply Exists.intro; refine ⟨fun w' hw' => ?_, ?_⟩; (focus (have hc := Gr.cells hw'; go_simp; (try rfl); done)); try simp only [Act.put, List.setIfInBounds_toArray, List.set_cons_zero, List.set_cons_succ]) | (refine wpG_run ?_ (fun K hK => ?_); (focus rfl); go_simp; (first | (go_at_call 16; (with_reducible refine (ofSpans_is ls (ofSpans ls) _ _ (HS7.out.later hG) rfl).mono ?_); rintro e w' ⟨rfl, hb⟩) | (go_at_call 20; (with_reducible refine (r1ofSpans ls _ _ (HSS.out.later (hgw9.trans hG))).mono ?_); rintro e w' ⟨rfl, hb⟩) | (go_at_call 21; (with_reducible refine (eqSp_same ls _ _ _ (HS7.out.later hG) (HSS.out.later (hgw9.trans hG))).mono ?_); rintro e w' ⟨rfl, hb⟩) | (go_at_call 7; (with_reducible refine (all_any _).mono ?_); rintro e w' ⟨rfl, hb⟩) | (go_at_call 22; (with_reducible refine (r1all _).mono ?_); rintro e w' ⟨rfl, hb⟩)); (try dsimp only); replace hG := hG.trans hb; refine hK.out _ _ hG ?_; clear hK K hb; try simp only [Act.put, List.setIfInBounds_toArray, List.set_cons_zero, List.set_cons_succ]))
        refine wpG_done ?_
        replace xa := xa.later hG
        replace xb := xb.later hG
        have hgw10 := hgw9.trans hG
        have HS10 := Lib.hid (HS7.out.later hG)
        have hs10 := hG.size
        clear hG e9 k1 k2 hbr9 hbr8
        go_wp2_with fail
        go_loopw [8] (fun i wz => ∃ q : Nat, q ≤ ls.length ∧ i = .int .i64 (q : Int) ∧ Gr w' wz) (fun i _ => ls.length - (intOf i).toNat)
        case atStart => exact ⟨0, by omega, rfl, Gr.refl _⟩
        case round =>
          obtain ⟨q, hq, rfl, hgz⟩ := hrel
          by_cases hql : q < ls.length
          · obtain ⟨p, hp⟩ : ∃ p, ls[q]? = some p := ⟨_, List.getElem?_eq_getElem hql⟩
            obtain ⟨_, _, ⟨_, h0⟩ | ⟨b7, off7, cap7, hv, hb7, hc7⟩⟩ := HS10.out
            · omega
            simp only [Value.slice.injEq, true_and] at hv
            obtain ⟨rfl, rfl⟩ := hv
            have hpc := spsCells_get ls q p hp
            have z1 := hgz.cell (hc7 _ _ hpc.1)
            have z2 := hgz.cell (hc7 _ _ hpc.2)
            rw [← Nat.add_assoc] at z2
            have hb7z : b7 < wr.heap.size := by have := hb7 (by omega); have := hgz.size; omega
            unfold vB at z1 z2
            obtain ⟨x, hx⟩ : ∃ x : Nat, p.1.toNat = x := ⟨_, rfl⟩
            obtain ⟨y, hy⟩ : ∃ x : Nat, p.2.toNat = x := ⟨_, rfl⟩
            have hx2 := p.1.toNat_lt
            have hy2 := p.2.toNat_lt
            rw [hx] at z1 hx2
            rw [hy] at z2 hy2
            have hxI : (x : Int) < 256 := by omega
            have hyI : (y : Int) < 256 := by omega
            have HXL := Lib.hid (show x < 256 by omega)
            have HYL := Lib.hid (show y < 256 by omega)
            have ex : IntKind.i64.wrap (x : Int) = (x : Int) := IntWalk.i64_in _ (by omega)
            have ey : IntKind.i64.wrap (y : Int) = (y : Int) := IntWalk.i64_in _ (by omega)
            have hqI : (q : Int) < (ls.length : Int) := by omega
            have HQL := Lib.hid hql
            have k1 : (rangeSet x y == rangeSet x y) = true := by simp
            clear hq hql hp hpc hx hy hx2 hy2 hb7 hc7
            go_wp2_with fail
            refine wp_region_G (.take 0 (.take 1 (.take 2 (.take 3 (.take 4 (.take 5 (.take 6 (.take 7 (.take 8 (.take 9 (.take 11 (.take 12 (.take 13 (.take 14 (.take 15 (.take 16 (.take 17 (.take 18 (.take 19 (.take 20 (.take 21 (.take 22 (.run 10 false (.run 23 false (.take 24 .nil))))))))))))))))))))))))) (by kernel_rfl) (by kernel_rfl) ?_
            simp only [pickOps, nthOp]
            intro wq hG
            repeat (first | (refine wpG_skip_take ?_ ?_; (focus rfl); try simp only [Act.put, List.setIfInBounds_toArray, List.set_cons_zero, List.set_cons_succ]) | (refine wpG_skip_run ?_ ?_; (focus rfl); try simp only [Act.put, List.setIfInBounds_toArray, List.set_cons_zero, List.set_cons_succ]) | (refine wpG_take ?_ ?_; (focus rfl); apply Exists.intro; refine ⟨fun w' hw' => ?_, ?_⟩; (focus (have hc := Gr.cells hw'; go_simp; (try rfl); done)); try simp only [Act.put, List.setIfInBounds_toArray, List.set_cons_zero, List.set_cons_succ]) | (refine wpG_run ?_ (fun K hK => ?_); (focus rfl); go_simp; (first | (go_at_call 23; (with_reducible refine (range_any x y _ HXL.out HYL.out).mono ?_); rintro e w' ⟨rfl, hb⟩) | (go_at_call 24; (with_reducible refine (r1range x y _ HXL.out HYL.out).mono ?_); rintro e w' ⟨rfl, hb⟩)); (try dsimp only); replace hG := hG.trans hb; refine hK.out _ _ hG ?_; clear hK K hb; try simp only [Act.put, List.setIfInBounds_toArray, List.set_cons_zero, List.set_cons_succ]))
            refine wpG_done ?_
            clear ex ey k1
            go_wp2
            go_roundw
            case rel => exact ⟨q + 1, by have := HQL.out; omega, by go_num, hgz.trans hG⟩
            case measure => have := HQL.out; simp [intOf]; omega
          · have hqE : q = ls.length := by omega
            clear hq hql
            subst hqE
            replace xa := xa.later hgz
            replace xb := xb.later hgz
            have hgw11 := hgw10.trans hgz
            clear hgz HS10 hgw10
            have k1 : (A ||| B == A ||| B) = true := by simp
            have k2 : (A &&& B == A &&& B) = true := by simp
            have k3 : (A &&& ~~~B == A &&& ~~~B) = true := by simp
            have k4 : (~~~A == ~~~A) = true := by simp
            have c_a0 := xa.cell 0 _ rfl
            have c_a1 := xa.cell 1 _ rfl
            have c_a2 := xa.cell 2 _ rfl
            have c_a3 := xa.cell 3 _ rfl
            have m_a0 := xa.mark 0 _ rfl
            have m_a1 := xa.mark 1 _ rfl
            have m_a2 := xa.mark 2 _ rfl
            have m_a3 := xa.mark 3 _ rfl
            have l_a := xa.lt (Nat.succ_pos _)
            have c_b0 := xb.cell 0 _ rfl
            have c_b1 := xb.cell 1 _ rfl
            have c_b2 := xb.cell 2 _ rfl
            have c_b3 := xb.cell 3 _ rfl
            have m_b0 := xb.mark 0 _ rfl
            have m_b1 := xb.mark 1 _ rfl
            have m_b2 := xb.mark 2 _ rfl
            have m_b3 := xb.mark 3 _ rfl
            have l_b := xb.lt (Nat.succ_pos _)
            go_wp2_with fail
            refine wp_region_G (.take 0 (.take 1 (.take 3 (.take 4 (.run 2 false (.run 5 false (.take 6 (.take 7 (.take 8 (.take 9 (.take 11 (.take 12 (.run 10 false (.run 13 false (.take 14 (.take 15 (.take 16 (.take 17 (.take 18 (.take 20 (.take 21 (.run 19 false (.run 22 false (.take 23 (.take 24 (.take 25 (.take 26 (.take 28 (.run 27 false (.run 29 false (.take 30 (.take 31 .nil)))))))))))))))))))))))))))))))) (by kernel_rfl) (by kernel_rfl) ?_
            simp only [pickOps, nthOp]
            intro wq hG
            repeat (first | (refine wpG_skip_take ?_ ?_; (focus rfl); try simp only [Act.put, List.setIfInBounds_toArray, List.set_cons_zero, List.set_cons_succ]) | (refine wpG_skip_run ?_ ?_; (focus rfl); try simp only [Act.put, List.setIfInBounds_toArray, List.set_cons_zero, List.set_cons_succ]) | (refine wpG_take ?_ ?_; (focus rfl); apply Exists.intro; refine ⟨fun w' hw' => ?_, ?_⟩; (focus (have hc := Gr.cells hw'; go_simp; (try rfl); done)); try simp only [Act.put, List.setIfInBounds_toArray, List.set_cons_zero, List.set_cons_succ]) | (refine wpG_run ?_ (fun K hK => ?_); (focus rfl); go_simp; (first | (go_at_call 8; (with_reducible refine (union_any _ _ _).mono ?_); rintro e w' ⟨rfl, hb⟩) | (go_at_call 25; (with_reducible refine (r1union _ _ _).mono ?_); rintro e w' ⟨rfl, hb⟩) | (go_at_call 26; (with_reducible refine (inter_any _ _ _).mono ?_); rintro e w' ⟨rfl, hb⟩) | (go_at_call 27; (with_reducible refine (r1inter _ _ _).mono ?_); rintro e w' ⟨rfl, hb⟩) | (go_at_call 28; (with_reducible refine (minus_any _ _ _).mono ?_); rintro e w' ⟨rfl, hb⟩) | (go_at_call 29; (with_reducible refine (r1minus _ _ _).mono ?_); rintro e w' ⟨rfl, hb⟩) | (go_at_call 30; (with_reducible refine (complement_any _ _).mono ?_); rintro e w' ⟨rfl, hb⟩) | (go_at_call 31; (with_reducible refine (r1compl _ _).mono ?_); rintro e w' ⟨rfl, hb⟩)); (try dsimp only); replace hG := hG.trans hb; refine hK.out _ _ hG ?_; clear hK K hb; try simp only [Act.put, List.setIfInBounds_toArray, List.set_cons_zero, List.set_cons_succ]))
            refine wpG_done ?_
            clear c_a0 c_a1 c_a2 c_a3 m_a0 m_a1 m_a2 m_a3 l_a
            clear c_b0 c_b1 c_b2 c_b3 m_b0 m_b1 m_b2 m_b3 l_b
            replace xa := xa.later hG
            replace xb := xb.later hG
            have hgw12 := hgw11.trans hG
            clear hG k1 k2 k3 k4 hgw11
            obtain ⟨wi, hwi⟩ : ∃ r, (A &&& B == A) = r := ⟨_, rfl⟩
            have HWI := Lib.hid hwi
            obtain ⟨cm, hcm⟩ := cmp_is A B
            have HCM := Lib.hid hcm
            have k1 : (wi == wi) = true := by simp
            have k2 : (cm == cm) = true := by simp
            clear hwi hcm
            have c_a0 := xa.cell 0 _ rfl
            have c_a1 := xa.cell 1 _ rfl
            have c_a2 := xa.cell 2 _ rfl
            have c_a3 := xa.cell 3 _ rfl
            have m_a0 := xa.mark 0 _ rfl
            have m_a1 := xa.mark 1 _ rfl
            have m_a2 := xa.mark 2 _ rfl
            have m_a3 := xa.mark 3 _ rfl
            have l_a := xa.lt (Nat.succ_pos _)
            have c_b0 := xb.cell 0 _ rfl
            have c_b1 := xb.cell 1 _ rfl
            have c_b2 := xb.cell 2 _ rfl
            have c_b3 := xb.cell 3 _ rfl
            have m_b0 := xb.mark 0 _ rfl
            have m_b1 := xb.mark 1 _ rfl
            have m_b2 := xb.mark 2 _ rfl
            have m_b3 := xb.mark 3 _ rfl
            have l_b := xb.lt (Nat.succ_pos _)
            have HT12 := Lib.hid (HT.out.later hgw12)
            go_wp2_with fail
            refine wp_region_G (.take 0 (.take 1 (.take 3 (.take 4 (.run 2 false (.run 5 false (.take 6 (.take 7 (.take 8 (.take 9 (.take 11 (.take 12 (.run 10 false (.run 13 false (.take 14 (.take 15 (.take 16 (.take 17 (.run 18 false (.take 19 (.take 20 (.take 21 (.take 22 (.run 23 false (.take 24 (.take 25 .nil)))))))))))))))))))))))))) (by kernel_rfl) (by kernel_rfl) ?_
            simp only [pickOps, nthOp]
            intro wq hG
            repeat (first | (refine wpG_skip_take ?_ ?_; (focus rfl); try simp only [Act.put, List.setIfInBounds_toArray, List.set_cons_zero, List.set_cons_succ]) | (refine wpG_skip_run ?_ ?_; (focus rfl); try simp only [Act.put, List.setIfInBounds_toArray, List.set_cons_zero, List.set_cons_succ]) | (refine wpG_take ?_ ?_; (focus rfl); apply Exists.intro; refine ⟨fun w' hw' => ?_, ?_⟩; (focus (have hc := Gr.cells hw'; go_simp; (try rfl); done)); try simp only [Act.put, List.setIfInBounds_toArray, List.set_cons_zero, List.set_cons_succ]) | (refine wpG_run ?_ (fun K hK => ?_); (focus rfl); go_simp; (first | (go_at_call 32; (with_reducible refine (within_is _ _ wi _ HWI.out).mono ?_); rintro e w' ⟨rfl, hb⟩) | (go_at_call 33; (with_reducible refine (r1within_is _ _ wi _ HWI.out).mono ?_); rintro e w' ⟨rfl, hb⟩) | (go_at_call 6; (with_reducible refine (compare_any A B cm HCM.out _ (HT12.out.later hG)).mono ?_); rintro e w' ⟨rfl, hb⟩) | (go_at_call 34; (with_reducible refine (r1compare A B cm HCM.out _).mono ?_); rintro e w' ⟨rfl, hb⟩) | (go_at_call 35; (with_reducible refine (told_any A _ (HT12.out.later hG)).mono ?_); rintro e w' ⟨rfl, hb⟩) | (go_at_call 35; (with_reducible refine (told_any B _ (HT12.out.later hG)).mono ?_); rintro e w' ⟨rfl, hb⟩)); (try dsimp only); replace hG := hG.trans hb; refine hK.out _ _ hG ?_; clear hK K hb; try simp only [Act.put, List.setIfInBounds_toArray, List.set_cons_zero, List.set_cons_succ]))
            refine wpG_done ?_
            go_wp2
            go_roundw
            case rel => exact ⟨k + 1, by have := HLT.out; omega, by go_num, hgw12.trans hG⟩
            case measure => have := HLT.out; simp [intOf]; omega
      · have h12I : ¬ (k : Int) < 12 := by omega
        have hkI : (k : Int) < (l.length : Int) := by omega
        clear hk hlt h12
        go_wp2_with fail
        go_at_call 9
        refine (wakes_any _).mono ?_; rintro e w' ⟨rfl, hb⟩
        go_wp2_with fail
        go_ret
        exact ⟨rfl, hg.trans hb⟩
    · have hkE : k = l.length := by omega
      clear hk hlt
      subst hkE
      go_wp2_with fail
      go_at_call 9
      refine (wakes_any _).mono ?_; rintro e w' ⟨rfl, hb⟩
      go_wp2_with fail
      go_ret
      exact ⟨rfl, hg.trans hb⟩

set_option maxRecDepth 100000 in
set_option maxHeartbeats 1000000 in
theorem setExact_zero (p : Option Addr) (c : Nat) (w : World) : Calls Tryd.prog 5 #[.slice p 0 c] w fun e w' => e = .returned (.bool true) ∧ Gr w w' := by
  go_enter Tryd.func5, Tryd.ntmps5
  go_wp2_with fail
  refine wp_loop_rounds 1 ?_
  rw [rounds_succ]
  go_wp2_with fail
  go_at_call 9
  refine (wakes_any _).mono ?_; rintro e w' ⟨rfl, hb⟩
  go_wp2_with fail
  go_ret
  exact ⟨rfl, hb⟩
theorem setExact_any (l : List PairV) (v : Value) (w : World) (hT : Tab w) (h : Sl w v 10 l.length (l.flatMap pairCells)) (hl : ∀ y ∈ l, BytesIn w y.vb ∧ SpansIn w y.vs) :
    Calls Tryd.prog 5 #[v] w fun e w' => e = .returned (.bool true) ∧ Gr w w' := by
  obtain ⟨_, hn, ⟨⟨p, c, rfl⟩, h0⟩ | ⟨b, off, cap, rfl, hb, hc⟩⟩ := h
  · exact setExact_zero p c w
  · exact setExact_some l b off cap w hT hn hb hc hl

end Go.Proofs.YtambkpgcccjhmaaDoor
