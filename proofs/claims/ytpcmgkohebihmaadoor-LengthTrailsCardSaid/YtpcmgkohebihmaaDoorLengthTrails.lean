/- LengthTrails of bolterlaw8: it answers true. No condition but that the errors' variables hold the errors. -/
import Derived.Test.YtpcmgkohebihmaaDoorTrailsP
import Derived.Test.YtpcmgkohebihmaaDoorSame
import Derived.Test.YtpcmgkohebihmaaDoorWakesL
import Derived.Test.YtpcmgkohebihmaaDoorSize
import Derived.Test.YtpcmgkohebihmaaDoorTrailsR
namespace Go.Proofs.YtpcmgkohebihmaaDoor
open Go Go.RowKit

/-- Two expressions. -/
def TwIn (w : World) (x : Ex × Ex) (cs : List Value) : Prop := ∃ ds es, cs = ds ++ es ∧ ExIn w x.1 ds ∧ ExIn w x.2 es
theorem TwIn.len {w : World} {x : Ex × Ex} {cs : List Value} (h : TwIn w x cs) : cs.length = 20 := by
  obtain ⟨ds, es, rfl, h1, h2⟩ := h
  simp [h1.len, h2.len]
theorem twos_at {w : World} {v : Value} {l : List ((Ex × Ex) × List Value)} (hs : Sl w v 20 l.length (l.flatMap (·.2))) (hl : ∀ p ∈ l, TwIn w p.1 p.2) (j : Nat) (hj : j < l.length) :
    ∃ b off cap op pos s text mn mx p n c op2 pos2 s2 text2 mn2 mx2 p2 n2 c2 e f, v = .slice (some ⟨b, off, none⟩) l.length cap ∧ b < w.heap.size ∧
      ExIn w e (exCells op pos s text mn mx (.slice p n c)) ∧ ExIn w f (exCells op2 pos2 s2 text2 mn2 mx2 (.slice p2 n2 c2)) ∧
      (∀ w', Gr w w' → b < w'.heap.size ∧ ∀ t u, t < 20 → (exCells op pos s text mn mx (.slice p n c) ++ exCells op2 pos2 s2 text2 mn2 mx2 (.slice p2 n2 c2))[t]? = some u → w'.cell? ⟨b, off + j * 20 + t, none⟩ = some u) := by
  obtain ⟨⟨a, ca⟩, ha⟩ : ∃ p, l[j]? = some p := ⟨_, List.getElem?_eq_getElem hj⟩
  have hmem := List.mem_of_getElem? ha
  obtain ⟨ds, es, hca, he, hf⟩ : TwIn w a ca := hl _ hmem
  obtain ⟨_, _, ⟨_, h0⟩ | ⟨b, off, cap, hv, hb, hc⟩⟩ := hs
  · omega
  have hbl := hb (by omega)
  obtain ⟨op, pos, s, text, mn, mx, p, n, c, rfl⟩ := he.form
  obtain ⟨op2, pos2, s2, text2, mn2, mx2, p2, n2, c2, rfl⟩ := hf.form
  refine ⟨b, off, cap, op, pos, s, text, mn, mx, p, n, c, op2, pos2, s2, text2, mn2, mx2, p2, n2, c2, a.1, a.2, hv, hbl, he, hf, fun w' hg => ⟨Nat.lt_of_lt_of_le hbl hg.size, fun t u ht hu => ?_⟩⟩
  have := flatMap_get_of (fun p : (Ex × Ex) × List Value => p.2) 20 l (fun p hp => (hl p hp).len) j t _ ha ht
  rw [Nat.add_assoc]
  exact hg.cell (hc _ _ (this.trans (by rw [hca]; exact hu)))
theorem bx1t {w W : World} {c0 : List Value} {e0 : TypeId} (hW : W = w.alloc (.cells c0.toArray e0)) : boxAt W w.heap.size c0 ∧ Gr w W := by
  subst hW; exact ⟨boxAt.new _ _ rfl, Gr.alloc _ _⟩
/-- The rules so far. -/
def AllIs (w wr : World) (v : Value) (n : Nat) (ls : List (Co × List Value)) (bd : Nat) : Prop :=
  ls.length = n ∧ wr.ownsRow w.heap.size 52 21 v n (ls.flatMap (·.2)) ∧ (∀ p ∈ ls, CoIn w p.1 p.2 ∧ okCo p.1 = true) ∧ BadIs (ls.map (·.1)) bd

theorem AllIs.later {w wr wr' : World} {v : Value} {n bd : Nat} {ls : List (Co × List Value)} (h : AllIs w wr v n ls bd) (hG : Gr wr wr') : AllIs w wr' v n ls bd := ⟨h.1, owns_later h.2.1 hG, h.2.2⟩

set_option maxRecDepth 100000 in
set_option maxHeartbeats 16000000 in
theorem lengthTrails_any (l : List ((Ex × Ex) × List Value)) (v : Value) (w : World) (hs : Sl w v 20 l.length (l.flatMap (·.2))) (hl : ∀ p ∈ l, TwIn w p.1 p.2) (s : Nat → Addr) (hF : FaultsIn w s) :
    Calls Tryd.prog 6 #[v] w fun e w' => e = .returned (.bool true) ∧ Gr w w' := by
  obtain ⟨pv, cv, rfl⟩ := hs.len
  have hll : l.length ≤ 9223372036854775807 := hs.2.1
  have HS := Lib.hid hs
  have HA := Lib.hid hl
  have HF := Lib.hid hF
  have HWK := Lib.hid (fun (cur : World) (h : Gr w cur) => wakes_any cur _ _ ((hF.later h).errs 15 (by omega) (by omega)) ((hF.later h).errs 10 (by omega) (by omega)))
  clear hs hl hF
  obtain ⟨i0, hi, hz0, hz1, hz2⟩ := info_parts info_co
  obtain ⟨N, hN⟩ : ∃ N, l.length = N := ⟨_, rfl⟩
  have HN := Lib.hid hN
  rw [hN] at hll ⊢
  clear hN
  go_enter Tryd.func6, Tryd.ntmps6
  go_wp2_with fail
  go_loopw [3, 4, 5] (fun v bv i wr => ∃ (j n bd : Nat) (ls : List (Co × List Value)), j ≤ N ∧ n ≤ j ∧ n ≤ 20 ∧ i = .int .i64 (j : Int) ∧ bv = .int .i64 (bd : Int) ∧ Gr w wr ∧ (∃ p c, v = .slice p n c) ∧ Hid (AllIs w wr v n ls bd)) (fun _ _ i _ => N - (intOf i).toNat)
  case atStart => exact ⟨0, 0, 0, [], by omega, by omega, by omega, rfl, rfl, Gr.refl _, ⟨_, _, rfl⟩, Lib.hid ⟨rfl, World.ownsRow_nil _ _ _ _, fun p h => (by cases h), BadIs.nil⟩⟩
  case round =>
    obtain ⟨j, n, bd, ls, hj, hnj, hn20, rfl, rfl, hg, ⟨vp, vc, rfl⟩, HALL⟩ := hrel
    have hbd : bd ≤ 20 := by have h1 := HALL.out.2.2.2.len; have h2 := HALL.out.1; rw [List.length_map] at h1; omega
    by_cases hlt : j < N
    · by_cases hfew : j < 20
      · -- ROUND
        skip
        obtain ⟨b, off, cap, op, pos, s1, text, mn, mx, p, m, c, op2, pos2, s2, text2, mn2, mx2, p2, n2, c2, e, f, hv, hbW, he, hf, hat⟩ := twos_at HS.out HA.out j (by have := HN.out; omega)
        simp only [Value.slice.injEq] at hv
        obtain ⟨rfl, _, rfl⟩ := hv
        have HAT := Lib.hid hat
        have hjI : (j : Int) < (N : Int) := by omega
        have hjF : (j : Int) < 20 := by omega
        have hjN : j < N := hlt
        have HLT := Lib.hid hlt
        have HJF := Lib.hid hfew
        have HNJ := Lib.hid hnj
        have HN20 := Lib.hid hn20
        have HE := Lib.hid he
        have HFF := Lib.hid hf
        have HZ1 := Lib.hid (fun (cur : World) (h : Gr w cur) => size_any _ e (Nat.le_refl _) _ cur 0 (he.later h) (by omega))
        have HZ2 := Lib.hid (fun (cur : World) (h : Gr w cur) => size_any _ f (Nat.le_refl _) _ cur 0 (hf.later h) (by omega))
        have HO1 := Lib.hid (fun (cur : World) (h : Gr w cur) => lenOf_any e _ cur (he.later h) _ ((HF.out.later h).errs 15 (by omega) (by omega)))
        have HO2 := Lib.hid (fun (cur : World) (h : Gr w cur) => lenOf_any f _ cur (hf.later h) _ ((HF.out.later h).errs 15 (by omega) (by omega)))
        have HCO := Lib.hid (CoIn.mk e true f _ _ he hf)
        unfold exCells at HZ1 HZ2 HO1 HO2 HCO
        dsimp only [List.cons_append, List.nil_append] at HCO
        obtain ⟨q1, hq1⟩ : ∃ q, sizeE e 0 = q := ⟨_, rfl⟩
        obtain ⟨q2, hq2⟩ : ∃ q, sizeE f 0 = q := ⟨_, rfl⟩
        rw [hq1] at HZ1
        rw [hq2] at HZ2
        obtain ⟨b1, hb1⟩ : ∃ b, isCore e = b := ⟨_, rfl⟩
        obtain ⟨b2, hb2⟩ : ∃ b, isCore f = b := ⟨_, rfl⟩
        rw [hb1] at HO1
        rw [hb2] at HO2
        have HB1 := Lib.hid hb1
        have HB2 := Lib.hid hb2
        have HCV := Lib.hid (show cutOf ⟨e, true, f⟩ = cutRes (ofE e) (ofE f) from rfl)
        have HSM := Lib.hid (fun h : isCore e = true => (of_within _ e (Nat.le_refl _)).mono (core_good h).2)
        have HSM2 := Lib.hid (fun h : isCore f = true => (of_within _ f (Nat.le_refl _)).mono (core_good h).2)
        obtain ⟨z, hz⟩ : ∃ z, ofE e = z := ⟨_, rfl⟩
        obtain ⟨y, hy⟩ : ∃ y, ofE f = y := ⟨_, rfl⟩
        rw [hz] at HO1 HCV HSM
        rw [hy] at HO2 HCV HSM2
        obtain ⟨zn, zl, zm⟩ := z
        obtain ⟨yn, yl, ym⟩ := y
        clear hat he hf hlt hfew hj hbW hq1 hq2 hb1 hb2 hz hy
        obtain ⟨hbr, hcell⟩ := HAT.out wr hg
        unfold exCells at hcell
        have d0 := hcell 0 _ (by omega) rfl
        have d1 := hcell 1 _ (by omega) rfl
        have d2 := hcell 2 _ (by omega) rfl
        have d3 := hcell 3 _ (by omega) rfl
        have d4 := hcell 4 _ (by omega) rfl
        have d5 := hcell 5 _ (by omega) rfl
        have d6 := hcell 6 _ (by omega) rfl
        have d7 := hcell 7 _ (by omega) rfl
        have d8 := hcell 8 _ (by omega) rfl
        have d9 := hcell 9 _ (by omega) rfl
        have d10 := hcell 10 _ (by omega) rfl
        have d11 := hcell 11 _ (by omega) rfl
        have d12 := hcell 12 _ (by omega) rfl
        have d13 := hcell 13 _ (by omega) rfl
        have d14 := hcell 14 _ (by omega) rfl
        have d15 := hcell 15 _ (by omega) rfl
        have d16 := hcell 16 _ (by omega) rfl
        have d17 := hcell 17 _ (by omega) rfl
        have d18 := hcell 18 _ (by omega) rfl
        have d19 := hcell 19 _ (by omega) rfl
        simp only [Nat.add_zero] at d0
        clear hcell
        go_wp2_with fail
        refine wp_region_G (.take 0 (.take 1 (.take 2 (.take 3 (.take 4 (.take 6 (.take 7 (.take 8 (.take 9 (.take 10 (.run 5 false (.run 11 false (.take 12 (.take 13 .nil)))))))))))))) (by kernel_rfl) (by kernel_rfl) ?_
        simp only [pickOps, nthOp]
        intro wq hG
        repeat (first | (refine wpG_skip_take ?_ ?_; (focus rfl); try simp only [Act.put, List.setIfInBounds_toArray, List.set_cons_zero, List.set_cons_succ]) | (refine wpG_skip_run ?_ ?_; (focus rfl); try simp only [Act.put, List.setIfInBounds_toArray, List.set_cons_zero, List.set_cons_succ]) | (refine wpG_take ?_ ?_; (focus rfl); apply Exists.intro; refine ⟨fun w' hw' => ?_, ?_⟩; (focus (have hc := Gr.cells hw'; go_simp; (try rfl); done)); try simp only [Act.put, List.setIfInBounds_toArray, List.set_cons_zero, List.set_cons_succ]) | (refine wpG_run ?_ (fun K hK => ?_); (focus rfl); go_simp; (first | (go_at_call 7; (with_reducible refine (show Calls Tryd.prog 7 #[.agg #[.int .i64 op, .int .i64 pos, .int .u64 (wd s1 0), .int .u64 (wd s1 1), .int .u64 (wd s1 2), .int .u64 (wd s1 3), .string text, .int .i64 mn, .int .i64 mx, (.slice p m c)], .int .i64 0] _ _ from HZ1.out _ (hg.trans hG)).mono ?_); rintro e' w7 ⟨rfl, hb⟩) | (go_at_call 7; (with_reducible refine (show Calls Tryd.prog 7 #[.agg #[.int .i64 op2, .int .i64 pos2, .int .u64 (wd s2 0), .int .u64 (wd s2 1), .int .u64 (wd s2 2), .int .u64 (wd s2 3), .string text2, .int .i64 mn2, .int .i64 mx2, (.slice p2 n2 c2)], .int .i64 0] _ _ from HZ2.out _ (hg.trans hG)).mono ?_); rintro e' w7 ⟨rfl, hb⟩)); (try dsimp only); replace hG := hG.trans hb; refine hK.out _ _ hG ?_; clear hK K hb; try simp only [Act.put, List.setIfInBounds_toArray, List.set_cons_zero, List.set_cons_succ]))
        rename_i w7
        refine wpG_done ?_
        clear d0 d1 d2 d3 d4 d5 d6 d7 d8 d9 d10 d11 d12 d13 d14 d15 d16 d17 d18 d19 hbr
        have HALL7 := Lib.hid (show AllIs w w7 (.slice vp n vc) n ls bd from ⟨HALL.out.1, owns_later HALL.out.2.1 hG, HALL.out.2.2⟩)
        replace hg := hg.trans hG
        clear hG
        by_cases hbig : (2000 : Int) < IntKind.i64.wrap ((q1 : Int) + (q2 : Int))
        · go_wp2_with fail
          go_roundw
          case rel => exact ⟨j + 1, n, bd, ls, by have := HLT.out; omega, by have := HNJ.out; omega, HN20.out, by go_num, rfl, hg, ⟨_, _, rfl⟩, HALL7⟩
          case measure => have := HLT.out; simp [intOf]; omega
        obtain ⟨hbr, hcell⟩ := HAT.out w7 hg
        unfold exCells at hcell
        have d0 := hcell 0 _ (by omega) rfl
        have d1 := hcell 1 _ (by omega) rfl
        have d2 := hcell 2 _ (by omega) rfl
        have d3 := hcell 3 _ (by omega) rfl
        have d4 := hcell 4 _ (by omega) rfl
        have d5 := hcell 5 _ (by omega) rfl
        have d6 := hcell 6 _ (by omega) rfl
        have d7 := hcell 7 _ (by omega) rfl
        have d8 := hcell 8 _ (by omega) rfl
        have d9 := hcell 9 _ (by omega) rfl
        have d10 := hcell 10 _ (by omega) rfl
        have d11 := hcell 11 _ (by omega) rfl
        have d12 := hcell 12 _ (by omega) rfl
        have d13 := hcell 13 _ (by omega) rfl
        have d14 := hcell 14 _ (by omega) rfl
        have d15 := hcell 15 _ (by omega) rfl
        have d16 := hcell 16 _ (by omega) rfl
        have d17 := hcell 17 _ (by omega) rfl
        have d18 := hcell 18 _ (by omega) rfl
        have d19 := hcell 19 _ (by omega) rfl
        simp only [Nat.add_zero] at d0
        clear hcell
        go_wp2_with fail
        clear hbig HZ1 HZ2
        go_at_call 9
        have hc := HO1.out w7 hg
        cases b1
        · skip
          unfold lenRes at hc
          simp only [Bool.false_eq_true, if_false] at hc
          refine hc.mono ?_; clear hc; rintro e' w8 ⟨rfl, hb1⟩
          replace hg := hg.trans hb1
          replace HALL7 := Lib.hid (HALL7.out.later hb1)
          clear hb1
          clear d0 d1 d2 d3 d4 d5 d6 d7 d8 d9 d10 d11 d12 d13 d14 d15 d16 d17 d18 d19 hbr
          obtain ⟨hbr, hcell⟩ := HAT.out w8 hg
          unfold exCells at hcell
          have d0 := hcell 0 _ (by omega) rfl
          have d1 := hcell 1 _ (by omega) rfl
          have d2 := hcell 2 _ (by omega) rfl
          have d3 := hcell 3 _ (by omega) rfl
          have d4 := hcell 4 _ (by omega) rfl
          have d5 := hcell 5 _ (by omega) rfl
          have d6 := hcell 6 _ (by omega) rfl
          have d7 := hcell 7 _ (by omega) rfl
          have d8 := hcell 8 _ (by omega) rfl
          have d9 := hcell 9 _ (by omega) rfl
          have d10 := hcell 10 _ (by omega) rfl
          have d11 := hcell 11 _ (by omega) rfl
          have d12 := hcell 12 _ (by omega) rfl
          have d13 := hcell 13 _ (by omega) rfl
          have d14 := hcell 14 _ (by omega) rfl
          have d15 := hcell 15 _ (by omega) rfl
          have d16 := hcell 16 _ (by omega) rfl
          have d17 := hcell 17 _ (by omega) rfl
          have d18 := hcell 18 _ (by omega) rfl
          have d19 := hcell 19 _ (by omega) rfl
          simp only [Nat.add_zero] at d0
          clear hcell
          have HSV := Lib.hid (HALL7.out.2.1)
          go_wp2_with fail
          go_at_call 9
          refine name_calls (fun W8 hW => ?_)
          obtain ⟨x6, hb1⟩ := bx1t hW
          clear hW
          clear d0 d1 d2 d3 d4 d5 d6 d7 d8 d9 d10 d11 d12 d13 d14 d15 d16 d17 d18 d19 hbr
          replace hg := hg.trans hb1
          replace HALL7 := Lib.hid (HALL7.out.later hb1)
          clear hb1
          have hc := HO2.out W8 hg
          cases b2
          · unfold lenRes at hc
            simp only [Bool.false_eq_true, if_false] at hc
            refine hc.mono ?_; clear hc; rintro e' w9 ⟨rfl, hb1⟩
            replace x6 := x6.later hb1
            replace hg := hg.trans hb1
            replace HALL7 := Lib.hid (HALL7.out.later hb1)
            clear hb1
            go_wp2_with fail
            go_roundw
            case rel => exact ⟨j + 1, n, bd, ls, by have := HLT.out; omega, by have := HNJ.out; omega, HN20.out, by go_num, rfl, hg.trans (Gr.alloc _ _), ⟨_, _, rfl⟩, Lib.hid (HALL7.out.later (Gr.alloc _ _))⟩
            case measure => have := HLT.out; simp [intOf]; omega
          · unfold lenRes at hc
            simp only [if_true] at hc
            refine hc.mono ?_; clear hc; rintro e' w9 ⟨rfl, hb1⟩
            replace x6 := x6.later hb1
            replace hg := hg.trans hb1
            replace HALL7 := Lib.hid (HALL7.out.later hb1)
            clear hb1
            go_wp2_with fail
            go_roundw
            case rel => exact ⟨j + 1, n, bd, ls, by have := HLT.out; omega, by have := HNJ.out; omega, HN20.out, by go_num, rfl, hg.trans (Gr.alloc _ _), ⟨_, _, rfl⟩, Lib.hid (HALL7.out.later (Gr.alloc _ _))⟩
            case measure => have := HLT.out; simp [intOf]; omega
        · skip
          unfold lenRes at hc
          simp only [if_true] at hc
          refine hc.mono ?_; clear hc; rintro e' w8 ⟨rfl, hb1⟩
          replace hg := hg.trans hb1
          replace HALL7 := Lib.hid (HALL7.out.later hb1)
          clear hb1
          clear d0 d1 d2 d3 d4 d5 d6 d7 d8 d9 d10 d11 d12 d13 d14 d15 d16 d17 d18 d19 hbr
          obtain ⟨hbr, hcell⟩ := HAT.out w8 hg
          unfold exCells at hcell
          have d0 := hcell 0 _ (by omega) rfl
          have d1 := hcell 1 _ (by omega) rfl
          have d2 := hcell 2 _ (by omega) rfl
          have d3 := hcell 3 _ (by omega) rfl
          have d4 := hcell 4 _ (by omega) rfl
          have d5 := hcell 5 _ (by omega) rfl
          have d6 := hcell 6 _ (by omega) rfl
          have d7 := hcell 7 _ (by omega) rfl
          have d8 := hcell 8 _ (by omega) rfl
          have d9 := hcell 9 _ (by omega) rfl
          have d10 := hcell 10 _ (by omega) rfl
          have d11 := hcell 11 _ (by omega) rfl
          have d12 := hcell 12 _ (by omega) rfl
          have d13 := hcell 13 _ (by omega) rfl
          have d14 := hcell 14 _ (by omega) rfl
          have d15 := hcell 15 _ (by omega) rfl
          have d16 := hcell 16 _ (by omega) rfl
          have d17 := hcell 17 _ (by omega) rfl
          have d18 := hcell 18 _ (by omega) rfl
          have d19 := hcell 19 _ (by omega) rfl
          simp only [Nat.add_zero] at d0
          clear hcell
          have HSV := Lib.hid (HALL7.out.2.1)
          go_wp2_with fail
          go_at_call 9
          refine name_calls (fun W8 hW => ?_)
          obtain ⟨x6, hb1⟩ := bx1t hW
          clear hW
          clear d0 d1 d2 d3 d4 d5 d6 d7 d8 d9 d10 d11 d12 d13 d14 d15 d16 d17 d18 d19 hbr
          replace hg := hg.trans hb1
          replace HALL7 := Lib.hid (HALL7.out.later hb1)
          clear hb1
          have hc := HO2.out W8 hg
          cases b2
          · unfold lenRes at hc
            simp only [Bool.false_eq_true, if_false] at hc
            refine hc.mono ?_; clear hc; rintro e' w9 ⟨rfl, hb1⟩
            replace x6 := x6.later hb1
            replace hg := hg.trans hb1
            replace HALL7 := Lib.hid (HALL7.out.later hb1)
            clear hb1
            go_wp2_with fail
            go_roundw
            case rel => exact ⟨j + 1, n, bd, ls, by have := HLT.out; omega, by have := HNJ.out; omega, HN20.out, by go_num, rfl, hg.trans (Gr.alloc _ _), ⟨_, _, rfl⟩, Lib.hid (HALL7.out.later (Gr.alloc _ _))⟩
            case measure => have := HLT.out; simp [intOf]; omega
          · unfold lenRes at hc
            simp only [if_true] at hc
            refine hc.mono ?_; clear hc; rintro e' w9 ⟨rfl, hb1⟩
            replace x6 := x6.later hb1
            replace hg := hg.trans hb1
            replace HALL7 := Lib.hid (HALL7.out.later hb1)
            clear hb1
            have hs89 := x6.lt (by simp)
            go_wp2_with fail
            refine name_world (fun W9 hW => ?_)
            obtain ⟨x8, hb1⟩ := bx1t hW
            clear hW
            replace x6 := x6.later hb1
            replace hg := hg.trans hb1
            replace HALL7 := Lib.hid (HALL7.out.later hb1)
            clear hb1
            obtain ⟨hbr, hcell⟩ := HAT.out w (Gr.refl _)
            unfold exCells at hcell
            have d0 := hcell 0 _ (by omega) rfl
            have d1 := hcell 1 _ (by omega) rfl
            have d2 := hcell 2 _ (by omega) rfl
            have d3 := hcell 3 _ (by omega) rfl
            have d4 := hcell 4 _ (by omega) rfl
            have d5 := hcell 5 _ (by omega) rfl
            have d6 := hcell 6 _ (by omega) rfl
            have d7 := hcell 7 _ (by omega) rfl
            have d8 := hcell 8 _ (by omega) rfl
            have d9 := hcell 9 _ (by omega) rfl
            have d10 := hcell 10 _ (by omega) rfl
            have d11 := hcell 11 _ (by omega) rfl
            have d12 := hcell 12 _ (by omega) rfl
            have d13 := hcell 13 _ (by omega) rfl
            have d14 := hcell 14 _ (by omega) rfl
            have d15 := hcell 15 _ (by omega) rfl
            have d16 := hcell 16 _ (by omega) rfl
            have d17 := hcell 17 _ (by omega) rfl
            have d18 := hcell 18 _ (by omega) rfl
            have d19 := hcell 19 _ (by omega) rfl
            simp only [Nat.add_zero] at d0
            clear hcell
            refine wp_region_S (Gr w) (.take 0 (.take 1 (.take 2 (.take 3 (.take 4 (.take 5 (.take 6 (.take 7 (.take 8 (.take 9 (.take 10 (.take 11 (.run 12 false (.run 13 false (.run 14 true .nil))))))))))))))) (hg.trans (Gr.drew _)) (by kernel_rfl) (by kernel_rfl) ?_
            simp only [pickOps, nthOp]
            intro wr7 hN hG
            repeat (first | (refine wpG_skip_take ?_ ?_; (focus rfl); try simp only [Act.put, List.setIfInBounds_toArray, List.set_cons_zero, List.set_cons_succ]) | (refine wpG_skip_run ?_ ?_; (focus rfl); try simp only [Act.put, List.setIfInBounds_toArray, List.set_cons_zero, List.set_cons_succ]) | (refine wpG_take ?_ ?_; (focus rfl); apply Exists.intro; refine ⟨fun w' hw' => ?_, ?_⟩; (focus (have hc := Gr.cells hw'; go_simp; (try rfl); done)); try simp only [Act.put, List.setIfInBounds_toArray, List.set_cons_zero, List.set_cons_succ]))
            clear d0 d1 d2 d3 d4 d5 d6 d7 d8 d9 d10 d11 d12 d13 d14 d15 d16 d17 d18 d19 hbr
            refine wpG_run ?_ (fun K hK => ?_); (focus rfl)
            go_simp
            refine name_K (fun WB hWB => ?_)
            have h78 : Gr wr7 WB := by rw [hWB]; exact Gr.alloc _ _
            have hc8 : ∀ (j : Nat) (u : Value), ([.int .i64 op, .int .i64 pos, .int .u64 (wd s1 0), .int .u64 (wd s1 1), .int .u64 (wd s1 2), .int .u64 (wd s1 3), .string text, .int .i64 mn, .int .i64 mx, .slice p m c, .bool true, .int .i64 op2, .int .i64 pos2, .int .u64 (wd s2 0), .int .u64 (wd s2 1), .int .u64 (wd s2 2), .int .u64 (wd s2 3), .string text2, .int .i64 mn2, .int .i64 mx2, .slice p2 n2 c2] : List Value)[j]? = some u → WB.cell? ((⟨wr7.heap.size, 0, none⟩ : Addr).add j) = some u := by rw [hWB]; exact new_cells _ _ _
            clear hWB
            refine hK.out _ _ (hG.trans h78) ?_
            clear hK K
            try simp only [Act.put, List.setIfInBounds_toArray, List.set_cons_zero, List.set_cons_succ]
            refine wpG_run rfl (fun K hK => ?_)
            have hN8 := hN.trans h78
            refine wp_append_own_at _ (.tmp 64) (.tmp 76) 50 rfl w.heap.size 52 i0 _ 21 216 Tryd.underlying50 hi hz0 hz1 hz2 rfl (by decide) (.slice vp n vc) n (ls.flatMap (·.2)) rfl (owns_later HALL7.out.2.1 hN8) ⟨wr7.heap.size, 0, none⟩ 1 1 [.int .i64 op, .int .i64 pos, .int .u64 (wd s1 0), .int .u64 (wd s1 1), .int .u64 (wd s1 2), .int .u64 (wd s1 3), .string text, .int .i64 mn, .int .i64 mx, .slice p m c, .bool true, .int .i64 op2, .int .i64 pos2, .int .u64 (wd s2 0), .int .u64 (wd s2 1), .int .u64 (wd s2 2), .int .u64 (wd s2 3), .string text2, .int .i64 mn2, .int .i64 mx2, .slice p2 n2 c2] rfl rfl hc8 ?c1 ?c2 ?c3 ?c4 ?_
            case c1 => exact co_ones _ _ _ _ _ _ _ _ _ _ _ _ _ _ _ _ _ _ _
            case c2 => unfold maxLen; have := HN20.out; omega
            case c3 => have := HN20.out; omega
            case c4 => have := hg.size; have := hN8.size; omega
            intro v9 WC hown9 hgrow9 _ hat9
            have hlt9 : ∀ g, (Value.slice vp n vc).ownBlock = some g → w.heap.size ≤ g ∧ g < w8.heap.size := fun g hg => World.ownsRow.lt HSV.out g hg
            replace hG : Gr w WC := Gr.grown (hG.trans h78) hgrow9 (fun g hg => (hlt9 g hg).1)
            have x6c := (x6.later hN8).grown hgrow9 (by simp) (fun e => by have := (hlt9 _ e).2; omega)
            have x8c := (x8.later hN8).grown hgrow9 (by simp) (fun e => by have := (hlt9 _ e).2; omega)
            obtain ⟨gl, capl, rfl, _⟩ := owns_block hown9 (by omega)
            have hcp := owns_capN hown9
            have hcp2 : capl ≤ 9223372036854775807 := hcp.2
            have hcp1 : n + 1 ≤ capl := hcp.1
            obtain ⟨cc, hcc1, hcc2, hcc3⟩ : ∃ cc : List Value, (∀ c, Sl WC (.slice (some ⟨gl, n * 21, none⟩) 1 c) 21 1 cc) ∧ (∀ bd', BadIs (ls.map (·.1) ++ [(⟨e, true, f⟩ : Co)]) bd' → AllIs w WC (.slice (some ⟨gl, 0, none⟩) (n + 1) capl) (n + 1) (ls ++ [((⟨e, true, f⟩ : Co), cc)]) bd') ∧ CoIn w ⟨e, true, f⟩ cc := by
              refine ⟨[.int .i64 op, .int .i64 pos, .int .u64 (wd s1 0), .int .u64 (wd s1 1), .int .u64 (wd s1 2), .int .u64 (wd s1 3), .string text, .int .i64 mn, .int .i64 mx, .slice p m c, .bool true, .int .i64 op2, .int .i64 pos2, .int .u64 (wd s2 0), .int .u64 (wd s2 1), .int .u64 (wd s2 2), .int .u64 (wd s2 3), .string text2, .int .i64 mn2, .int .i64 mx2, .slice p2 n2 c2], fun c => owns_last hown9 HALL7.out.2.1.1 rfl c, fun bd' h => ⟨by rw [List.length_append, HALL7.out.1]; rfl, by rw [List.flatMap_append]; simpa using hown9, fun px hp => ?_, by rw [List.map_append]; exact h⟩, HCO.out⟩
              rcases List.mem_append.1 hp with hp | hp
              · exact HALL7.out.2.2.1 px hp
              · rw [List.mem_singleton.1 hp]
                exact ⟨HCO.out, by unfold okCo; rw [HB1.out, HB2.out]; rfl⟩
            have HNEW := Lib.hid hcc2
            have HLS1 := Lib.hid hcc1
            have HLS3 := Lib.hid hcc3
            clear hcc1 hcc2 hcc3
            have HOK1 := Lib.hid (show okCo ⟨e, true, f⟩ = true by unfold okCo; rw [HB1.out, HB2.out]; rfl)
            have HBD := Lib.hid (HALL7.out.2.2.2)
            have HLEN := Lib.hid (show (ls.map (·.1)).length = n by rw [List.length_map]; exact HALL7.out.1)
            clear hown9 hgrow9 hat9 hc8 hN hN8 h78 x6 x8 hlt9 hs89 hcp HCO HAT HO1 HO2 HE HFF HALL7 HALL HSV
            refine hK.out _ _ hG ?_
            clear hK K
            try simp only [Act.put, List.setIfInBounds_toArray, List.set_cons_zero, List.set_cons_succ]
            refine wpG_last ?_ (fun K hK => ?_); (focus rfl)
            go_simp
            refine hK.out _ _ ?_
            try simp only [Act.put, List.setIfInBounds_toArray, List.set_cons_zero, List.set_cons_succ]
            clear hK K
            refine wpG_done ?_
            generalize Value.agg #[Value.int .i64 op, .int .i64 pos, .int .u64 (wd s1 0), .int .u64 (wd s1 1), .int .u64 (wd s1 2), .int .u64 (wd s1 3), .string text, .int .i64 mn, .int .i64 mx, .slice p m c] = va
            generalize Value.agg #[Value.int .i64 op2, .int .i64 pos2, .int .u64 (wd s2 0), .int .u64 (wd s2 1), .int .u64 (wd s2 2), .int .u64 (wd s2 3), .string text2, .int .i64 mn2, .int .i64 mx2, .slice p2 n2 c2] = vb
            generalize Value.agg #[.int .i64 op, .int .i64 pos, .int .u64 (wd s1 0), .int .u64 (wd s1 1), .int .u64 (wd s1 2), .int .u64 (wd s1 3), .string text, .int .i64 mn, .int .i64 mx, .slice p m c, .bool true, .int .i64 op2, .int .i64 pos2, .int .u64 (wd s2 0), .int .u64 (wd s2 1), .int .u64 (wd s2 2), .int .u64 (wd s2 3), .string text2, .int .i64 mn2, .int .i64 mx2, .slice p2 n2 c2] = vq
            go_step
            go_step
            refine after10 w WC n bd gl capl w8.heap.size w9.heap.size zn yn zl zm yl ym e f cc ls s HF.out hG x6c x8c (HSM.out HB1.out) (HSM2.out HB2.out) HCV.out HOK1.out HLS1.out HLS3.out HN20.out hbd hcp1 hcp2 HBD.out HLEN.out _ _ _ _ _ _ _ _ _ _ _ _ _ _ _ _ _ _ _ _ _ _ _ _ _ _ _ _ _ _ _ _ _ _ _ _ _ _ _ _ _ _ _ _ _ _ _ _ _ _ _ _ _ _ _ _ _ _ _ _ _ _ _ _ _ _ _ _ _ _ _ _ _ _ _ _ _ _ _ _ _ _ _ _ _ _ _ _ _ _ _ _ _ _ _ _ _ _ _ _ _ _ _ _ _ _ _ _ _ _ _ _ _ _ _ _ _ _ _ _ _ _ _ _ _ _ _ _ _ _ _ _ _ _ _ _ _ _ _ _ _ _ _ _ _ _ _ _ _ _ _ _ _ _ _ _ _ _ _ _ _ _ _ _ _ _ _ _ _ _ _ _ _ _ _ _ _ _ _ _ _ _ _ _ _ _ _ _ _ _ _ _ _ _ _ _ _ _ _ _ _ _ _ _ _ _ _ _ _ _ _ _ _ _ _ _ _ _ _ (fun u6 u7 u8 u9 u10 u11 u12 u13 u16 u17 u18 u19 u20 u21 u22 u23 u24 u25 u26 u27 u28 u29 u30 u31 u32 u33 u34 u35 u36 u37 u38 u39 u40 u41 u42 u43 u44 u45 u46 u47 u48 u49 u50 u51 u52 u53 u54 u55 u56 u57 u58 u59 u60 u61 u62 u63 u64 u65 u66 u67 u68 u69 u70 u71 u72 u73 u74 u75 u76 u77 u78 u79 u80 u81 u82 u83 u84 u85 u86 u87 u88 u89 u90 u91 u92 u93 u94 u95 u96 u97 u98 u99 u100 u101 u102 u103 u104 u105 u106 u107 u108 u109 u110 u111 u112 u113 u114 u115 u116 u117 u118 u119 u120 u121 u122 u123 u124 u125 u126 u127 u128 u129 u130 u131 u132 u133 u134 u135 u136 u137 u138 u139 u140 u141 u142 u143 u144 u145 u146 u147 u148 u149 u150 u151 u152 u153 u154 u155 u156 u157 u158 u159 u160 u161 u162 u163 u164 u165 u166 u167 u168 u169 u170 u171 u172 u173 u174 u175 u176 u177 u178 u179 u180 u181 u182 u183 u184 u185 u186 u187 u188 u189 u190 u191 u192 u193 u194 u195 bd' w' hbn hgw => ?_)
            have hgx := hG.trans hgw
            have HAN := Lib.hid ((HNEW.out bd' hbn).later hgw)
            clear hbn hG hgw
            go_wp2_with fail
            go_roundw
            case rel => exact ⟨j + 1, n + 1, bd', _, by have := HLT.out; omega, by have := HNJ.out; omega, by have := HNJ.out; have := HJF.out; omega, by go_num, rfl, hgx, ⟨_, _, rfl⟩, HAN⟩
            case measure => have := HLT.out; simp [intOf]; omega
      · have hjI : (j : Int) < (N : Int) := by omega
        have hjF : ¬ (j : Int) < 20 := by omega
        clear hlt hfew hj hnj
        obtain ⟨hl1, hown, hl3, hbn⟩ := HALL.out
        have hmay : mayAll (ls.map (·.1)) = true := by
          unfold mayAll
          rw [Bool.and_eq_true]
          refine ⟨by rw [List.length_map]; simp; omega, List.all_eq_true.2 fun a ha => ?_⟩
          obtain ⟨p, hp, rfl⟩ := List.mem_map.1 ha
          exact (hl3 p hp).2
        have HC := Lib.hid (cuts_any ls (.slice vp n vc) wr (by rw [hl1]; exact Sl.of_owns hown) (fun p hp => (hl3 p hp).1.later hg) _ ((HF.out.later hg).errs 15 (by omega) (by omega)) _ ((HF.out.later hg).errs 10 (by omega) (by omega)))
        have HTA := Lib.hid (fun (w' : World) (v er : Value) (h : CutsTold wr w' (ls.map (·.1)) (.iface 151 (.pointer (some (s 15)))) (.iface 151 (.pointer (some (s 10)))) v er) => told_all h hmay hbn)
        have HLL := Lib.hid (show (ls.map (·.1)).length = n by rw [List.length_map]; exact hl1)
        clear hl1 hown hl3 hbn hmay HALL
        go_wp2_with fail
        go_at_call 16
        refine HC.out.mono ?_; rintro e' w1 ⟨v1, er, rfl, htold, hb1⟩
        have hta := HTA.out w1 v1 er htold
        rw [HLL.out] at hta
        clear htold
        replace hg := hg.trans hb1
        clear hb1
        rcases hta with ⟨rfl, rfl, p1, c1, rfl⟩ | ⟨g, hpos, rfl, rfl, hbx⟩
        · go_wp2_with fail
          go_at_call 8
          refine (HWK.out _ hg).mono ?_; rintro e' w2 ⟨rfl, hb1⟩
          go_wp2_with fail
          go_ret
          exact ⟨rfl, hg.trans hb1⟩
        · have hposI : (0 : Int) < (bd : Int) := by omega
          have hbdI : (bd : Int) ≤ 20 := by omega
          have HSA := Lib.hid (show Calls Tryd.prog 13 #[.iface 109 (.pointer (some ⟨g, 0, none⟩)), .agg #[.int .i64 10, .int .i64 0, .int .i64 (bd : Int), .int .i64 0, .slice none 0 0]] w1 (fun e' w' => e' = .returned (.bool true) ∧ Gr w1 w') from by
            have hG := HF.out.later hg
            have hin : (Er.wrap .ruled g (.int .i64 (bd : Int)) (.leaf (s 10))).In w1 := ⟨hbx.cell 0 _ rfl, hbx.cell 1 _ rfl, hG.leaf 10 (by omega) (by omega)⟩
            have := same_er hG (.wrap .ruled g (.int .i64 (bd : Int)) (.leaf (s 10))) hin ⟨fun _ => ⟨_, rfl⟩, trivial⟩ 10 (by omega) (by omega) rfl rfl ⟨10, 0, (bd : Int), 0⟩
            rw [show eqFa (Er.fa (.wrap .ruled g (.int .i64 (bd : Int)) (.leaf (s 10))) 10) ⟨10, 0, (bd : Int), 0⟩ = true from (eqFa_iff _ _).2 rfl] at this
            exact this)
          clear hbx
          go_wp2_with fail
          go_at_call 13
          refine HSA.out.mono ?_; rintro e' w2 ⟨rfl, hb1⟩
          replace hg := hg.trans hb1
          clear hb1
          go_wp2_with fail
          go_at_call 8
          refine (HWK.out _ hg).mono ?_; rintro e' w3 ⟨rfl, hb1⟩
          go_wp2_with fail
          go_ret
          exact ⟨rfl, hg.trans hb1⟩
    · have hjE : j = N := by omega
      clear hlt hj hnj
      subst hjE
      obtain ⟨hl1, hown, hl3, hbn⟩ := HALL.out
      have hmay : mayAll (ls.map (·.1)) = true := by
        unfold mayAll
        rw [Bool.and_eq_true]
        refine ⟨by rw [List.length_map]; simp; omega, List.all_eq_true.2 fun a ha => ?_⟩
        obtain ⟨p, hp, rfl⟩ := List.mem_map.1 ha
        exact (hl3 p hp).2
      have HC := Lib.hid (cuts_any ls (.slice vp n vc) wr (by rw [hl1]; exact Sl.of_owns hown) (fun p hp => (hl3 p hp).1.later hg) _ ((HF.out.later hg).errs 15 (by omega) (by omega)) _ ((HF.out.later hg).errs 10 (by omega) (by omega)))
      have HTA := Lib.hid (fun (w' : World) (v er : Value) (h : CutsTold wr w' (ls.map (·.1)) (.iface 151 (.pointer (some (s 15)))) (.iface 151 (.pointer (some (s 10)))) v er) => told_all h hmay hbn)
      have HLL := Lib.hid (show (ls.map (·.1)).length = n by rw [List.length_map]; exact hl1)
      clear hl1 hown hl3 hbn hmay HALL
      go_wp2_with fail
      go_at_call 16
      refine HC.out.mono ?_; rintro e' w1 ⟨v1, er, rfl, htold, hb1⟩
      have hta := HTA.out w1 v1 er htold
      rw [HLL.out] at hta
      clear htold
      replace hg := hg.trans hb1
      clear hb1
      rcases hta with ⟨rfl, rfl, p1, c1, rfl⟩ | ⟨g, hpos, rfl, rfl, hbx⟩
      · go_wp2_with fail
        go_at_call 8
        refine (HWK.out _ hg).mono ?_; rintro e' w2 ⟨rfl, hb1⟩
        go_wp2_with fail
        go_ret
        exact ⟨rfl, hg.trans hb1⟩
      · have hposI : (0 : Int) < (bd : Int) := by omega
        have hbdI : (bd : Int) ≤ 20 := by omega
        have HSA := Lib.hid (show Calls Tryd.prog 13 #[.iface 109 (.pointer (some ⟨g, 0, none⟩)), .agg #[.int .i64 10, .int .i64 0, .int .i64 (bd : Int), .int .i64 0, .slice none 0 0]] w1 (fun e' w' => e' = .returned (.bool true) ∧ Gr w1 w') from by
          have hG := HF.out.later hg
          have hin : (Er.wrap .ruled g (.int .i64 (bd : Int)) (.leaf (s 10))).In w1 := ⟨hbx.cell 0 _ rfl, hbx.cell 1 _ rfl, hG.leaf 10 (by omega) (by omega)⟩
          have := same_er hG (.wrap .ruled g (.int .i64 (bd : Int)) (.leaf (s 10))) hin ⟨fun _ => ⟨_, rfl⟩, trivial⟩ 10 (by omega) (by omega) rfl rfl ⟨10, 0, (bd : Int), 0⟩
          rw [show eqFa (Er.fa (.wrap .ruled g (.int .i64 (bd : Int)) (.leaf (s 10))) 10) ⟨10, 0, (bd : Int), 0⟩ = true from (eqFa_iff _ _).2 rfl] at this
          exact this)
        clear hbx
        go_wp2_with fail
        go_at_call 13
        refine HSA.out.mono ?_; rintro e' w2 ⟨rfl, hb1⟩
        replace hg := hg.trans hb1
        clear hb1
        go_wp2_with fail
        go_at_call 8
        refine (HWK.out _ hg).mono ?_; rintro e' w3 ⟨rfl, hb1⟩
        go_wp2_with fail
        go_ret
        exact ⟨rfl, hg.trans hb1⟩

end Go.Proofs.YtpcmgkohebihmaaDoor
