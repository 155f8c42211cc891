/- of of length, every expression. No condition but that its parts are few. -/
import Derived.Test.YtpcmgkohebihmaaDoorOfE
import Derived.Test.YtpcmgkohebihmaaDoorOfP
import Derived.Test.YtpcmgkohebihmaaDoorOwned
namespace Go.Proofs.YtpcmgkohebihmaaDoor
open Go Go.RowKit

theorem info_le : (Tryd.prog.info? 33).map (fun i => (i.zero, i.size, i.bytes)) = some (some (.agg #[.bool false, .int .i64 0, .int .i64 0]), 3, 24) := by kernel_rfl
theorem kind_cases {op : Int} {n : Nat} {mn mx : Int} (h : kindB op n mn mx = true) : op = 1 ∨ op = 2 ∨ (op = 5 ∧ 1 < n) ∨ (op = 6 ∧ 1 < n) ∨ (op = 7 ∧ n = 1) := by
  unfold kindB at h
  split at h
  · rename_i h0; simp at h0; omega
  split at h
  · rename_i h0; simp at h0 h; omega
  split at h
  · rename_i h0; simp at h0 h; omega
  · cases h
theorem le_ones (q : Le) : ∀ u ∈ leCells q, u.oneCell' = true := fun u hu => by
  simp only [leCells, List.mem_cons, List.not_mem_nil, or_false] at hu
  rcases hu with rfl | rfl | rfl <;> rfl

set_option maxRecDepth 100000 in
set_option maxHeartbeats 8000000 in
theorem of_any : ∀ k, ∀ (e : Ex), SizeOf.sizeOf e ≤ k → ∀ (cs : List Value) (w : World), ExIn w e cs → goodE e = true → nodesE e ≤ 1048576 →
    Calls Tryd.prog 22 #[.agg cs.toArray] w fun e' w' => e' = .returned (.agg #[.bool (ofE e).none, .int .i64 (ofE e).least, .int .i64 (ofE e).most]) ∧ Gr w w' := by
  intro k
  induction k with
  | zero => intro e h; cases e; simp only [Ex.mk.sizeOf_spec] at h; omega
  | succ k ih =>
    intro e hk cs w he hgood hnodes
    cases he with
    | mk op pos s text mn mx v l h1 h2 h3 h4 h5 hlen hs hn hb hargs =>
      rw [goodE, Bool.and_eq_true, List.length_map] at hgood
      rw [nodesE] at hnodes
      have HK := Lib.hid (fun p (hp : p ∈ l) => by
        have := Ex.size_arg (.mk op pos s text mn mx (l.map (·.1))) p.1 (List.mem_map.2 ⟨p, hp, rfl⟩)
        have h2 := nodesL_mem (l.map (·.1)) p.1 (List.mem_map.2 ⟨p, hp, rfl⟩)
        exact (show SizeOf.sizeOf p.1 ≤ k ∧ goodE p.1 = true ∧ nodesE p.1 ≤ 1048576 from ⟨by omega, goodL_mem _ hgood.2 _ (List.mem_map.2 ⟨p, hp, rfl⟩), by omega⟩))
      have HIH := Lib.hid ih
      have HS := Lib.hid hs
      have HA := Lib.hid hargs
      have HLEN := Lib.hid hlen
      have HW := Lib.hid (fun p (hp : p ∈ l) => of_within _ p.1 (Nat.le_refl _))
      obtain ⟨pv, cv, rfl⟩ := hs.len
      have hll : l.length ≤ 140737488351232 := by omega
      have HN := Lib.hid (show nodesL (l.map (·.1)) ≤ 1048576 by omega)
      have hkc := kind_cases hgood.1
      clear ih hk h1 h2 h3 h4 h5 hn hs hargs hlen hb hgood hnodes
      unfold exCells
      have HOF := Lib.hid (show ofE (.mk op pos s text mn mx (l.map (·.1))) = if op = 2 then (if s == emptyS then .no else ⟨false, 1, 1⟩) else if op = 5 then fold1 catL (l.map fun p => ofE p.1) else if op = 6 then fold1 altL (l.map fun p => ofE p.1) else if op = 7 then manyL mn mx ((l.map fun p => ofE p.1).headD .zero) else .zero by
        rw [ofE, ofL_map, List.map_map]; rfl)
      have hHM : ∀ (j : Nat) (p : Ex × List Value), l[j]? = some p → (l.map fun p => ofE p.1)[j]? = some (ofE p.1) := fun j p h => by rw [List.getElem?_map, h]; rfl
      obtain ⟨M, hM⟩ : ∃ M, (l.map fun p => ofE p.1) = M := ⟨_, rfl⟩
      have HML := Lib.hid (show M.length = l.length by rw [← hM, List.length_map])
      rw [hM] at HOF hHM
      have HM := Lib.hid hM
      have HHM := Lib.hid hHM
      clear hM hHM
      rcases hkc with rfl | rfl | ⟨rfl, hn⟩ | ⟨rfl, hn⟩ | ⟨rfl, hn⟩
      · go_enter Tryd.func22, Tryd.ntmps22
        go_wp2_with fail
        go_at_call 35
        refine name_calls (fun W hW => ?_)
        obtain ⟨xe, xr, hgW, hsz⟩ : _ ∧ _ ∧ Gr w W ∧ W.heap.size = w.heap.size + 2 := by rw [hW]; exact bx2 w [.int .i64 1, .int .i64 pos, .int .u64 (wd s 0), .int .u64 (wd s 1), .int .u64 (wd s 2), .int .u64 (wd s 3), .string text, .int .i64 mn, .int .i64 mx, (.slice pv l.length cv)] [.bool false, .int .i64 0, .int .i64 0] 27 33
        rw [← hW] at xe xr
        clear hW
        refine (formed_none pos s text mn mx pv l.length cv W).mono ?_; rintro e' w1 ⟨rfl, hg⟩
        replace xr := xr.later hg
        replace hgW := hgW.trans hg
        have hsz1 : w.heap.size + 2 ≤ w1.heap.size := by have := hg.size; omega
        clear hg hsz xe
        go_wp2_with fail
        go_at_call 90
        refine (parts_none w1).mono ?_; rintro e' w2 ⟨rfl, hg⟩
        replace xr := xr.later hg
        replace hgW := hgW.trans hg
        have hsz2 : w.heap.size + 2 ≤ w2.heap.size := by have := hg.size; omega
        clear hg hsz1
        go_wp2_with fail
        refine wp_loop_rounds 1 ?_
        rw [rounds_succ]
        have c_r0 := xr.cell 0 _ rfl
        have c_r1 := xr.cell 1 _ rfl
        have c_r2 := xr.cell 2 _ rfl
        have m_r0 := xr.mark 0 _ rfl
        have m_r1 := xr.mark 1 _ rfl
        have m_r2 := xr.mark 2 _ rfl
        have l_r := xr.lt (Nat.succ_pos _)
        go_wp2_with fail
        exact bodyPost_ret (v := .agg #[.bool false, .int .i64 0, .int .i64 0]) (by simp [results, Tryd.results22, go_sem, c_r0, c_r1, c_r2]) rfl ⟨by rw [HOF.out]; rfl, put3 hgW (by omega) _ _ _⟩
      · have := of_set pos s text mn mx pv l.length cv w (s == emptyS) rfl
        refine this.mono fun e' w' ⟨he, hg⟩ => ⟨?_, hg⟩
        rw [he, HOF.out]; rfl
      · go_enter Tryd.func22, Tryd.ntmps22
        go_wp2_with fail
        go_at_call 35
        refine name_calls (fun W hW => ?_)
        obtain ⟨xe, xr, hgW, hsz⟩ : _ ∧ _ ∧ Gr w W ∧ W.heap.size = w.heap.size + 2 := by rw [hW]; exact bx2 w [.int .i64 5, .int .i64 pos, .int .u64 (wd s 0), .int .u64 (wd s 1), .int .u64 (wd s 2), .int .u64 (wd s 3), .string text, .int .i64 mn, .int .i64 mx, (.slice pv l.length cv)] [.bool false, .int .i64 0, .int .i64 0] 27 33
        rw [← hW] at xe xr
        clear hW
        refine (formed_cat pos s text mn mx pv l.length cv W).mono ?_; rintro e' w1 ⟨rfl, hg⟩
        replace xr := xr.later hg
        replace hgW := hgW.trans hg
        have hsz1 : w.heap.size + 2 ≤ w1.heap.size := by have := hg.size; omega
        clear hg hsz xe
        go_wp2_with fail
        go_at_call 79
        refine (parts_cat pv l.length cv w1).mono ?_; rintro e' w2 ⟨rfl, hg⟩
        replace xr := xr.later hg
        replace hgW := hgW.trans hg
        have hsz2 : w.heap.size + 2 ≤ w2.heap.size := by have := hg.size; omega
        clear hg hsz1
        have HSW := Lib.hid (HS.out.later hgW)
        obtain ⟨i0, hi, hz0, hz1, hz2⟩ := info_parts info_le
        go_wp2_with fail
        go_loopw [4, 16] (fun v i wr => ∃ j : Nat, j ≤ l.length ∧ i = .int .i64 (j : Int) ∧ wr.ownsRow w2.heap.size 33 3 v j ((M.take j).flatMap leCells) ∧ Gr w2 wr) (fun _ i _ => l.length - (intOf i).toNat)
        case atStart => exact ⟨0, by omega, rfl, World.ownsRow_nil _ _ _ _, Gr.refl _⟩
        case round =>
          obtain ⟨j, hj, rfl, hown, hgr⟩ := hrel
          by_cases hlt : j < l.length
          · obtain ⟨b, off, op2, pos2, s2, text2, mn2, mx2, p2, n2, c2, a, rfl, hbW, ha, hin, hat⟩ := args_at HSW.out HLEN.out (fun p hp => (HA.out p hp).later hgW) j hlt
            have HSA := Lib.hid (HK.out _ (List.mem_of_getElem? ha))
            obtain ⟨hbr, hcell⟩ := hat wr hgr
            unfold exCells at hcell
            have d0 := hcell 0 _ (by omega) rfl
            have d1 := hcell 1 _ (by omega) rfl
            have d2 := hcell 2 _ (by omega) rfl
            have d3 := hcell 3 _ (by omega) rfl
            have d4 := hcell 4 _ (by omega) rfl
            have d5 := hcell 5 _ (by omega) rfl
            have d6 := hcell 6 _ (by omega) rfl
            have d7 := hcell 7 _ (by omega) rfl
            have d8 := hcell 8 _ (by omega) rfl
            have d9 := hcell 9 _ (by omega) rfl
            simp only [Nat.add_zero] at d0
            have HTK := Lib.hid (show (M.take (j + 1)).flatMap leCells = (M.take j).flatMap leCells ++ leCells (ofE a) by
              obtain ⟨g1, g2⟩ := List.getElem?_eq_some_iff.1 (HHM.out j _ ha)
              rw [List.take_succ_eq_append_getElem g1, g2, List.flatMap_append]; simp)
            have hjI : (j : Int) < (l.length : Int) := by omega
            have HLT := Lib.hid hlt
            have HIN := Lib.hid hin
            have hj2 : j + 1 ≤ 1048576 := by
              have h1 := nodes_len (l.map (·.1)); have h2 := HN.out; rw [List.length_map] at h1; omega
            clear hlt hcell hin hat ha hj hbW
            go_wp2_with fail
            go_at_call 22
            refine name_calls (fun W4 hW4 => ?_)
            have hb4 : Gr wr W4 := by rw [hW4]; exact Gr.alloc _ _
            clear hW4
            have hg4 := hgr.trans hb4
            have HC := Lib.hid (HIH.out a HSA.out.1 _ W4 (HIN.out.later hg4) HSA.out.2.1 HSA.out.2.2)
            unfold exCells at HC
            refine HC.out.mono ?_; rintro e' w5 ⟨rfl, hb5⟩
            replace hown := owns_later (owns_later hown hb4) hb5
            replace hg4 := hg4.trans hb5
            clear hb4 hb5 HC hgr d0 d1 d2 d3 d4 d5 d6 d7 d8 d9 hbr
            obtain ⟨q, hq⟩ : ∃ q, ofE a = q := ⟨_, rfl⟩
            have HQ := Lib.hid hq
            simp only [hq]
            clear hq
            go_wp2_with (at_builtin; refine wpList_append_own _ rfl (.tmp 20) (.tmp 23) 83 rfl w2.heap.size 33 i0 (.agg #[.bool false, .int .i64 0, .int .i64 0]) 3 24 Tryd.underlying83 hi hz0 hz1 hz2 rfl (by decide) _ _ _ rfl (hown.alloc _) ⟨w5.heap.size, 0, none⟩ 1 1 (leCells q) rfl rfl ?c1 ?c2 ?c3 ?c4 ?c5 ?_)
            case c1 => exact new_cells _ _ _
            case c2 => exact le_ones q
            case c3 => unfold maxLen; omega
            case c4 => omega
            case c5 => have := hg4.size; simp; omega
            intro v6 w6 hown6 hgrow _
            have hg6 : Gr w2 w6 := Gr.grown (hg4.trans (Gr.alloc _ _)) hgrow (fun k hk => (World.ownsRow.lt hown k hk).1)
            have hown7 : w6.ownsRow w2.heap.size 33 3 v6 (j + 1) ((M.take (j + 1)).flatMap leCells) := by
              rw [HTK.out, HQ.out]; exact hown6
            clear hown6 hgrow hown hg4
            go_wp2_with fail
            go_roundw
            case rel => exact ⟨j + 1, by have := HLT.out; omega, by go_num, hown7, hg6⟩
            case measure => have := HLT.out; simp [intOf]; omega
          · have hjE : j = l.length := by omega
            clear hlt hj
            subst hjE
            rw [← HML.out, List.take_length, HML.out] at hown
            obtain ⟨gl, capl, rfl, _, hgl, _⟩ := owns_block hown (by omega)
            have hcp := owns_capN hown
            have HO := Lib.hid hown
            clear hown
            replace xr := xr.later hgr
            obtain ⟨x, r, hMr, hxs, hrs, hps⟩ := fold_parts catL (fun h1 h2 => within_cat h1 h2) l (by omega) HW.out HN.out
            rw [HM.out] at hMr
            have hlr : l.length = r.length + 1 := by rw [← HML.out, hMr]; rfl
            have HO2 := Lib.hid (show wr.ownsRow w2.heap.size 33 3 (.slice (some ⟨gl, 0, none⟩) l.length capl) l.length ((x :: r).flatMap leCells) by rw [← hMr]; exact HO.out)
            have HRES := Lib.hid (show ofE (.mk 5 pos s text mn mx (l.map (·.1))) = r.foldl catL x by rw [HOF.out, hMr]; rfl)
            have HLR := Lib.hid hlr
            clear hMr HO hlr
            go_wp2_with fail
            go_at_call 37
            refine name_calls (fun W4 hW4 => ?_)
            have hb4 : Gr wr W4 := by rw [hW4]; exact Gr.alloc _ _
            clear hW4
            replace xr := xr.later hb4
            have hg4 := hgr.trans hb4
            have HF := Lib.hid (folded_cat x r gl capl W4 (by have := hb4.size; omega) (by have := HLR.out; omega) hcp.2 (fun j u hu => owns_cell (owns_later HO2.out hb4) j u hu) hrs hps)
            rw [← HLR.out] at HF
            refine HF.out.mono ?_; rintro e' w5 ⟨rfl, hb5⟩
            replace xr := xr.later hb5
            replace hg4 := hg4.trans hb5
            have hsz5 := hg4.size
            obtain ⟨z, hz⟩ : ∃ z, r.foldl catL x = z := ⟨_, rfl⟩
            have HZ := Lib.hid hz
            simp only [hz]
            clear hz HF hb4 hb5
            have c_r0 := xr.cell 0 _ rfl
            have c_r1 := xr.cell 1 _ rfl
            have c_r2 := xr.cell 2 _ rfl
            have m_r0 := xr.mark 0 _ rfl
            have m_r1 := xr.mark 1 _ rfl
            have m_r2 := xr.mark 2 _ rfl
            have l_r := xr.lt (Nat.succ_pos _)
            go_wp2_with fail
            exact bodyPost_ret (v := .agg #[.bool z.none, .int .i64 z.least, .int .i64 z.most]) (by simp [results, Tryd.results22, go_sem, c_r0, c_r1, c_r2]) rfl ⟨by rw [HRES.out, HZ.out], put3 (hgW.trans hg4) (by omega) _ _ _⟩
      · go_enter Tryd.func22, Tryd.ntmps22
        go_wp2_with fail
        go_at_call 35
        refine name_calls (fun W hW => ?_)
        obtain ⟨xe, xr, hgW, hsz⟩ : _ ∧ _ ∧ Gr w W ∧ W.heap.size = w.heap.size + 2 := by rw [hW]; exact bx2 w [.int .i64 6, .int .i64 pos, .int .u64 (wd s 0), .int .u64 (wd s 1), .int .u64 (wd s 2), .int .u64 (wd s 3), .string text, .int .i64 mn, .int .i64 mx, (.slice pv l.length cv)] [.bool false, .int .i64 0, .int .i64 0] 27 33
        rw [← hW] at xe xr
        clear hW
        refine (formed_alt pos s text mn mx pv l.length cv W).mono ?_; rintro e' w1 ⟨rfl, hg⟩
        replace xr := xr.later hg
        replace hgW := hgW.trans hg
        have hsz1 : w.heap.size + 2 ≤ w1.heap.size := by have := hg.size; omega
        clear hg hsz xe
        go_wp2_with fail
        go_at_call 80
        refine (parts_alt pv l.length cv w1).mono ?_; rintro e' w2 ⟨rfl, hg⟩
        replace xr := xr.later hg
        replace hgW := hgW.trans hg
        have hsz2 : w.heap.size + 2 ≤ w2.heap.size := by have := hg.size; omega
        clear hg hsz1
        have HSW := Lib.hid (HS.out.later hgW)
        obtain ⟨i0, hi, hz0, hz1, hz2⟩ := info_parts info_le
        go_wp2_with fail
        go_loopw [4, 16] (fun v i wr => ∃ j : Nat, j ≤ l.length ∧ i = .int .i64 (j : Int) ∧ wr.ownsRow w2.heap.size 33 3 v j ((M.take j).flatMap leCells) ∧ Gr w2 wr) (fun _ i _ => l.length - (intOf i).toNat)
        case atStart => exact ⟨0, by omega, rfl, World.ownsRow_nil _ _ _ _, Gr.refl _⟩
        case round =>
          obtain ⟨j, hj, rfl, hown, hgr⟩ := hrel
          by_cases hlt : j < l.length
          · obtain ⟨b, off, op2, pos2, s2, text2, mn2, mx2, p2, n2, c2, a, rfl, hbW, ha, hin, hat⟩ := args_at HSW.out HLEN.out (fun p hp => (HA.out p hp).later hgW) j hlt
            have HSA := Lib.hid (HK.out _ (List.mem_of_getElem? ha))
            obtain ⟨hbr, hcell⟩ := hat wr hgr
            unfold exCells at hcell
            have d0 := hcell 0 _ (by omega) rfl
            have d1 := hcell 1 _ (by omega) rfl
            have d2 := hcell 2 _ (by omega) rfl
            have d3 := hcell 3 _ (by omega) rfl
            have d4 := hcell 4 _ (by omega) rfl
            have d5 := hcell 5 _ (by omega) rfl
            have d6 := hcell 6 _ (by omega) rfl
            have d7 := hcell 7 _ (by omega) rfl
            have d8 := hcell 8 _ (by omega) rfl
            have d9 := hcell 9 _ (by omega) rfl
            simp only [Nat.add_zero] at d0
            have HTK := Lib.hid (show (M.take (j + 1)).flatMap leCells = (M.take j).flatMap leCells ++ leCells (ofE a) by
              obtain ⟨g1, g2⟩ := List.getElem?_eq_some_iff.1 (HHM.out j _ ha)
              rw [List.take_succ_eq_append_getElem g1, g2, List.flatMap_append]; simp)
            have hjI : (j : Int) < (l.length : Int) := by omega
            have HLT := Lib.hid hlt
            have HIN := Lib.hid hin
            have hj2 : j + 1 ≤ 1048576 := by
              have h1 := nodes_len (l.map (·.1)); have h2 := HN.out; rw [List.length_map] at h1; omega
            clear hlt hcell hin hat ha hj hbW
            go_wp2_with fail
            go_at_call 22
            refine name_calls (fun W4 hW4 => ?_)
            have hb4 : Gr wr W4 := by rw [hW4]; exact Gr.alloc _ _
            clear hW4
            have hg4 := hgr.trans hb4
            have HC := Lib.hid (HIH.out a HSA.out.1 _ W4 (HIN.out.later hg4) HSA.out.2.1 HSA.out.2.2)
            unfold exCells at HC
            refine HC.out.mono ?_; rintro e' w5 ⟨rfl, hb5⟩
            replace hown := owns_later (owns_later hown hb4) hb5
            replace hg4 := hg4.trans hb5
            clear hb4 hb5 HC hgr d0 d1 d2 d3 d4 d5 d6 d7 d8 d9 hbr
            obtain ⟨q, hq⟩ : ∃ q, ofE a = q := ⟨_, rfl⟩
            have HQ := Lib.hid hq
            simp only [hq]
            clear hq
            go_wp2_with (at_builtin; refine wpList_append_own _ rfl (.tmp 20) (.tmp 23) 83 rfl w2.heap.size 33 i0 (.agg #[.bool false, .int .i64 0, .int .i64 0]) 3 24 Tryd.underlying83 hi hz0 hz1 hz2 rfl (by decide) _ _ _ rfl (hown.alloc _) ⟨w5.heap.size, 0, none⟩ 1 1 (leCells q) rfl rfl ?c1 ?c2 ?c3 ?c4 ?c5 ?_)
            case c1 => exact new_cells _ _ _
            case c2 => exact le_ones q
            case c3 => unfold maxLen; omega
            case c4 => omega
            case c5 => have := hg4.size; simp; omega
            intro v6 w6 hown6 hgrow _
            have hg6 : Gr w2 w6 := Gr.grown (hg4.trans (Gr.alloc _ _)) hgrow (fun k hk => (World.ownsRow.lt hown k hk).1)
            have hown7 : w6.ownsRow w2.heap.size 33 3 v6 (j + 1) ((M.take (j + 1)).flatMap leCells) := by
              rw [HTK.out, HQ.out]; exact hown6
            clear hown6 hgrow hown hg4
            go_wp2_with fail
            go_roundw
            case rel => exact ⟨j + 1, by have := HLT.out; omega, by go_num, hown7, hg6⟩
            case measure => have := HLT.out; simp [intOf]; omega
          · have hjE : j = l.length := by omega
            clear hlt hj
            subst hjE
            rw [← HML.out, List.take_length, HML.out] at hown
            obtain ⟨gl, capl, rfl, _, hgl, _⟩ := owns_block hown (by omega)
            have hcp := owns_capN hown
            have HO := Lib.hid hown
            clear hown
            replace xr := xr.later hgr
            obtain ⟨x, r, hMr, hxs, hrs, hps⟩ := fold_parts altL (fun h1 h2 => within_alt h1 h2) l (by omega) HW.out HN.out
            rw [HM.out] at hMr
            have hlr : l.length = r.length + 1 := by rw [← HML.out, hMr]; rfl
            have HO2 := Lib.hid (show wr.ownsRow w2.heap.size 33 3 (.slice (some ⟨gl, 0, none⟩) l.length capl) l.length ((x :: r).flatMap leCells) by rw [← hMr]; exact HO.out)
            have HRES := Lib.hid (show ofE (.mk 6 pos s text mn mx (l.map (·.1))) = r.foldl altL x by rw [HOF.out, hMr]; rfl)
            have HLR := Lib.hid hlr
            clear hMr HO hlr
            go_wp2_with fail
            go_at_call 37
            refine name_calls (fun W4 hW4 => ?_)
            have hb4 : Gr wr W4 := by rw [hW4]; exact Gr.alloc _ _
            clear hW4
            replace xr := xr.later hb4
            have hg4 := hgr.trans hb4
            have HF := Lib.hid (folded_alt x r gl capl W4 (by have := hb4.size; omega) (by have := HLR.out; omega) hcp.2 (fun j u hu => owns_cell (owns_later HO2.out hb4) j u hu) hrs hps)
            rw [← HLR.out] at HF
            refine HF.out.mono ?_; rintro e' w5 ⟨rfl, hb5⟩
            replace xr := xr.later hb5
            replace hg4 := hg4.trans hb5
            have hsz5 := hg4.size
            obtain ⟨z, hz⟩ : ∃ z, r.foldl altL x = z := ⟨_, rfl⟩
            have HZ := Lib.hid hz
            simp only [hz]
            clear hz HF hb4 hb5
            have c_r0 := xr.cell 0 _ rfl
            have c_r1 := xr.cell 1 _ rfl
            have c_r2 := xr.cell 2 _ rfl
            have m_r0 := xr.mark 0 _ rfl
            have m_r1 := xr.mark 1 _ rfl
            have m_r2 := xr.mark 2 _ rfl
            have l_r := xr.lt (Nat.succ_pos _)
            go_wp2_with fail
            exact bodyPost_ret (v := .agg #[.bool z.none, .int .i64 z.least, .int .i64 z.most]) (by simp [results, Tryd.results22, go_sem, c_r0, c_r1, c_r2]) rfl ⟨by rw [HRES.out, HZ.out], put3 (hgW.trans hg4) (by omega) _ _ _⟩
      · have HN1 := Lib.hid hn
        have hn0 : 0 < l.length := by omega
        clear hn
        go_enter Tryd.func22, Tryd.ntmps22
        go_wp2_with fail
        go_at_call 35
        refine name_calls (fun W hW => ?_)
        obtain ⟨xe, xr, hgW, hsz⟩ : _ ∧ _ ∧ Gr w W ∧ W.heap.size = w.heap.size + 2 := by rw [hW]; exact bx2 w [.int .i64 7, .int .i64 pos, .int .u64 (wd s 0), .int .u64 (wd s 1), .int .u64 (wd s 2), .int .u64 (wd s 3), .string text, .int .i64 mn, .int .i64 mx, (.slice pv l.length cv)] [.bool false, .int .i64 0, .int .i64 0] 27 33
        rw [← hW] at xe xr
        clear hW
        refine (formed_rep pos s text mn mx pv l.length cv W).mono ?_; rintro e' w1 ⟨rfl, hg⟩
        replace xr := xr.later hg
        replace hgW := hgW.trans hg
        have hsz1 : w.heap.size + 2 ≤ w1.heap.size := by have := hg.size; omega
        clear hg hsz xe
        go_wp2_with fail
        go_at_call 81
        refine (parts_rep mn mx pv l.length cv w1).mono ?_; rintro e' w2 ⟨rfl, hg⟩
        replace xr := xr.later hg
        replace hgW := hgW.trans hg
        have hsz2 : w.heap.size + 2 ≤ w2.heap.size := by have := hg.size; omega
        clear hg hsz1
        have HSW := Lib.hid (HS.out.later hgW)
        obtain ⟨i0, hi, hz0, hz1, hz2⟩ := info_parts info_le
        go_wp2_with fail
        go_loopw [4, 16] (fun v i wr => ∃ j : Nat, j ≤ l.length ∧ i = .int .i64 (j : Int) ∧ wr.ownsRow w2.heap.size 33 3 v j ((M.take j).flatMap leCells) ∧ Gr w2 wr) (fun _ i _ => l.length - (intOf i).toNat)
        case atStart => exact ⟨0, by omega, rfl, World.ownsRow_nil _ _ _ _, Gr.refl _⟩
        case round =>
          obtain ⟨j, hj, rfl, hown, hgr⟩ := hrel
          by_cases hlt : j < l.length
          · obtain ⟨b, off, op2, pos2, s2, text2, mn2, mx2, p2, n2, c2, a, rfl, hbW, ha, hin, hat⟩ := args_at HSW.out HLEN.out (fun p hp => (HA.out p hp).later hgW) j hlt
            have HSA := Lib.hid (HK.out _ (List.mem_of_getElem? ha))
            obtain ⟨hbr, hcell⟩ := hat wr hgr
            unfold exCells at hcell
            have d0 := hcell 0 _ (by omega) rfl
            have d1 := hcell 1 _ (by omega) rfl
            have d2 := hcell 2 _ (by omega) rfl
            have d3 := hcell 3 _ (by omega) rfl
            have d4 := hcell 4 _ (by omega) rfl
            have d5 := hcell 5 _ (by omega) rfl
            have d6 := hcell 6 _ (by omega) rfl
            have d7 := hcell 7 _ (by omega) rfl
            have d8 := hcell 8 _ (by omega) rfl
            have d9 := hcell 9 _ (by omega) rfl
            simp only [Nat.add_zero] at d0
            have HTK := Lib.hid (show (M.take (j + 1)).flatMap leCells = (M.take j).flatMap leCells ++ leCells (ofE a) by
              obtain ⟨g1, g2⟩ := List.getElem?_eq_some_iff.1 (HHM.out j _ ha)
              rw [List.take_succ_eq_append_getElem g1, g2, List.flatMap_append]; simp)
            have hjI : (j : Int) < (l.length : Int) := by omega
            have HLT := Lib.hid hlt
            have HIN := Lib.hid hin
            have hj2 : j + 1 ≤ 1048576 := by
              have h1 := nodes_len (l.map (·.1)); have h2 := HN.out; rw [List.length_map] at h1; omega
            clear hlt hcell hin hat ha hj hbW
            go_wp2_with fail
            go_at_call 22
            refine name_calls (fun W4 hW4 => ?_)
            have hb4 : Gr wr W4 := by rw [hW4]; exact Gr.alloc _ _
            clear hW4
            have hg4 := hgr.trans hb4
            have HC := Lib.hid (HIH.out a HSA.out.1 _ W4 (HIN.out.later hg4) HSA.out.2.1 HSA.out.2.2)
            unfold exCells at HC
            refine HC.out.mono ?_; rintro e' w5 ⟨rfl, hb5⟩
            replace hown := owns_later (owns_later hown hb4) hb5
            replace hg4 := hg4.trans hb5
            clear hb4 hb5 HC hgr d0 d1 d2 d3 d4 d5 d6 d7 d8 d9 hbr
            obtain ⟨q, hq⟩ : ∃ q, ofE a = q := ⟨_, rfl⟩
            have HQ := Lib.hid hq
            simp only [hq]
            clear hq
            go_wp2_with (at_builtin; refine wpList_append_own _ rfl (.tmp 20) (.tmp 23) 83 rfl w2.heap.size 33 i0 (.agg #[.bool false, .int .i64 0, .int .i64 0]) 3 24 Tryd.underlying83 hi hz0 hz1 hz2 rfl (by decide) _ _ _ rfl (hown.alloc _) ⟨w5.heap.size, 0, none⟩ 1 1 (leCells q) rfl rfl ?c1 ?c2 ?c3 ?c4 ?c5 ?_)
            case c1 => exact new_cells _ _ _
            case c2 => exact le_ones q
            case c3 => unfold maxLen; omega
            case c4 => omega
            case c5 => have := hg4.size; simp; omega
            intro v6 w6 hown6 hgrow _
            have hg6 : Gr w2 w6 := Gr.grown (hg4.trans (Gr.alloc _ _)) hgrow (fun k hk => (World.ownsRow.lt hown k hk).1)
            have hown7 : w6.ownsRow w2.heap.size 33 3 v6 (j + 1) ((M.take (j + 1)).flatMap leCells) := by
              rw [HTK.out, HQ.out]; exact hown6
            clear hown6 hgrow hown hg4
            go_wp2_with fail
            go_roundw
            case rel => exact ⟨j + 1, by have := HLT.out; omega, by go_num, hown7, hg6⟩
            case measure => have := HLT.out; simp [intOf]; omega
          · have hjE : j = l.length := by omega
            clear hlt hj
            subst hjE
            rw [← HML.out, List.take_length, HML.out] at hown
            obtain ⟨gl, capl, rfl, _, hgl, _⟩ := owns_block hown (by omega)
            have hcp := owns_capN hown
            have HO := Lib.hid hown
            clear hown
            replace xr := xr.later hgr
            obtain ⟨x, r, hMr, hxs, _, _⟩ := fold_parts catL (fun h1 h2 => within_cat h1 h2) l (by omega) HW.out HN.out
            rw [HM.out] at hMr
            have HXS := Lib.hid hxs
            have HRES := Lib.hid (show ofE (.mk 7 pos s text mn mx (l.map (·.1))) = manyL mn mx x by rw [HOF.out, hMr]; rfl)
            have hrl : r = [] := List.eq_nil_of_length_eq_zero (by have h1 := HML.out; rw [hMr, List.length_cons, HN1.out] at h1; omega)
            subst hrl
            have HO2 := Lib.hid (show wr.ownsRow w2.heap.size 33 3 (.slice (some ⟨gl, 0, none⟩) l.length capl) l.length (leCells x) by
              have h1 := HO.out; rw [hMr] at h1; simpa using h1)
            clear hMr HO
            have q0 := owns_cell HO2.out 0 _ rfl
            have q1 := owns_cell HO2.out 1 _ rfl
            have q2 := owns_cell HO2.out 2 _ rfl
            have hlI : (0 : Int) < (l.length : Int) := by omega
            have c_r0 := xr.cell 0 _ rfl
            have c_r1 := xr.cell 1 _ rfl
            have c_r2 := xr.cell 2 _ rfl
            have m_r0 := xr.mark 0 _ rfl
            have m_r1 := xr.mark 1 _ rfl
            have m_r2 := xr.mark 2 _ rfl
            have l_r := xr.lt (Nat.succ_pos _)
            go_wp2_with fail
            clear c_r0 c_r1 c_r2 m_r0 m_r1 m_r2 l_r
            refine name_world (fun W4 hW4 => ?_)
            have hb4 : Gr wr W4 := by rw [hW4]; exact Gr.alloc _ _
            have xg : boxAt W4 wr.heap.size [.int .i64 mn, .int .i64 mx, .slice pv l.length cv] := by rw [hW4]; exact boxAt.new _ _ rfl
            clear hW4
            replace xr := xr.later hb4
            have e0 := hb4.cell q0
            have e1 := hb4.cell q1
            have e2 := hb4.cell q2
            have hgl4 : gl < W4.heap.size := by have := hb4.size; omega
            have hg4 := hgr.trans hb4
            clear q0 q1 q2 hgl hb4
            have c_r0 := xr.cell 0 _ rfl
            have c_r1 := xr.cell 1 _ rfl
            have c_r2 := xr.cell 2 _ rfl
            have m_r0 := xr.mark 0 _ rfl
            have m_r1 := xr.mark 1 _ rfl
            have m_r2 := xr.mark 2 _ rfl
            have l_r := xr.lt (Nat.succ_pos _)
            have c_g0 := xg.cell 0 _ rfl
            have c_g1 := xg.cell 1 _ rfl
            have c_g2 := xg.cell 2 _ rfl
            have m_g0 := xg.mark 0 _ rfl
            have m_g1 := xg.mark 1 _ rfl
            have m_g2 := xg.mark 2 _ rfl
            have l_g := xg.lt (Nat.succ_pos _)
            refine wp_region_G (.take 0 (.take 1 (.take 2 (.take 3 (.run 4 false (.run 5 true .nil)))))) (by kernel_rfl) (by kernel_rfl) ?_
            simp only [pickOps, nthOp]
            intro wq hG
            repeat (first | (refine wpG_skip_take ?_ ?_; (focus rfl); try simp only [Act.put, List.setIfInBounds_toArray, List.set_cons_zero, List.set_cons_succ]) | (refine wpG_skip_run ?_ ?_; (focus rfl); try simp only [Act.put, List.setIfInBounds_toArray, List.set_cons_zero, List.set_cons_succ]) | (refine wpG_take ?_ ?_; (focus rfl); apply Exists.intro; refine ⟨fun w' hw' => ?_, ?_⟩; (focus (have hc := Gr.cells hw'; go_simp; (try rfl); done)); try simp only [Act.put, List.setIfInBounds_toArray, List.set_cons_zero, List.set_cons_succ]) | (refine wpG_run ?_ (fun K hK => ?_); (focus rfl); go_simp; (first | (go_at_call 40; (with_reducible refine (many_any mn mx _ x _ HXS.out pv l.length cv rfl).mono ?_); rintro e w' ⟨rfl, hb⟩)); (try dsimp only); replace hG := hG.trans hb; refine hK.out _ _ hG ?_; clear hK K hb; try simp only [Act.put, List.setIfInBounds_toArray, List.set_cons_zero, List.set_cons_succ]))
            rename_i w5
            refine wpG_last ?_ (fun K hK => ?_); (focus rfl)
            have hc := hG.cells
            have hm := hG.marks
            go_simp
            refine hK.out _ _ ?_
            try simp only [Act.put, List.setIfInBounds_toArray, List.set_cons_zero, List.set_cons_succ]
            clear hK K hc hm
            refine wpG_done ?_
            obtain ⟨z, hz⟩ : ∃ z, manyL mn mx x = z := ⟨_, rfl⟩
            have HZ := Lib.hid hz
            simp only [hz]
            clear hz
            have yr := (((xr.later hG).put 0 (.bool z.none) (by simp)).put 1 (.int .i64 z.least) (by simp)).put 2 (.int .i64 z.most) (by simp)
            have hg5 := hg4.trans hG
            have hsz5 := hg5.size
            go_wp2_with fail
            exact bodyPost_ret (v := .agg #[.bool z.none, .int .i64 z.least, .int .i64 z.most]) (by simp [results, Tryd.results22, go_sem, yr.cell 0 _ rfl, yr.cell 1 _ rfl, yr.cell 2 _ rfl]) rfl ⟨by rw [HRES.out, HZ.out], put3 (hgW.trans hg5) (by omega) _ _ _⟩

end Go.Proofs.YtpcmgkohebihmaaDoor
