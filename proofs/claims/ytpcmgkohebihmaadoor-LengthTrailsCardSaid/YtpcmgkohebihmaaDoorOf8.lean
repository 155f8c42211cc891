/- of, Of of bolterref8: as length's own of. No condition. -/
import Derived.Test.YtpcmgkohebihmaaDoorOf8A
import Derived.Test.YtpcmgkohebihmaaDoorCountE
import Derived.Test.YtpcmgkohebihmaaDoorOfQ
import Derived.Test.YtpcmgkohebihmaaDoorLawP
namespace Go.Proofs.YtpcmgkohebihmaaDoor
open Go Go.RowKit

theorem foldl_no (l : List Le) : l.foldl catL .no = .no := by
  induction l with
  | nil => rfl
  | cons a r ih => rw [List.foldl_cons, show catL .no a = .no by simp [catL, Le.no]]; exact ih
theorem catL_zero {y : Le} (hf : fine y) (hs : -1 ≤ y.most) : catL .zero y = y := by
  obtain ⟨n, l, m⟩ := y
  cases n
  · simp only [catL, Le.zero, Bool.false_or, Bool.false_eq_true, if_false, Int.zero_add]
    simp only at hs
    by_cases h : m < 0
    · have : m = -1 := by omega
      subst this; simp
    · simp [h]
  · rw [hf.1 rfl]; simp [catL, Le.no, Le.zero]
theorem nodesL_snoc : ∀ (l : List Ex) (a : Ex), nodesL (l ++ [a]) = nodesL l + nodesE a
  | [], a => by simp [nodesL]
  | x :: l, a => by rw [List.cons_append, nodesL, nodesL, nodesL_snoc l a]; omega
theorem name_body8 {P : Program} {f : Func} {R : Ending → World → Prop} {x : Exit} {a : Act} {w0 : World} (h : ∀ W, W = w0 → bodyPost P f R x a W) : bodyPost P f R x a w0 := h _ rfl
theorem altL_no (y : Le) : altL .no y = y := by simp [altL, Le.no]

set_option maxRecDepth 100000 in
set_option maxHeartbeats 4000000 in
theorem of8_any : ∀ k, ∀ (e : Ex), SizeOf.sizeOf e ≤ k → ∀ (cs : List Value) (w : World), ExIn w e cs → goodE e = true → nodesE e ≤ 1048576 →
    Calls Tryd.prog 25 #[.agg cs.toArray] w fun e' w' => e' = .returned (.agg #[.bool ((ofE e)).none, .int .i64 ((ofE e)).least, .int .i64 ((ofE e)).most]) ∧ Gr w w' := by
  intro k
  induction k with
  | zero => intro e h; cases e; simp only [Ex.mk.sizeOf_spec] at h; omega
  | succ k ih =>
    intro e hk cs w he hgood hnodes
    have HOW := Lib.hid (of_within _ e (Nat.le_refl _))
    cases he with
    | mk op pos s text mn mx v l h1 h2 h3 h4 h5 hlen hs hn hb hargs =>
      rw [goodE, Bool.and_eq_true, List.length_map] at hgood
      rw [nodesE] at hnodes
      have HK := Lib.hid (fun p (hp : p ∈ l) => by
        have := Ex.size_arg (.mk op pos s text mn mx (l.map (·.1))) p.1 (List.mem_map.2 ⟨p, hp, rfl⟩)
        have h2 := nodesL_mem (l.map (·.1)) p.1 (List.mem_map.2 ⟨p, hp, rfl⟩)
        exact (show SizeOf.sizeOf p.1 ≤ k ∧ goodE p.1 = true ∧ nodesE p.1 ≤ 1048576 from ⟨by omega, goodL_mem _ hgood.2 _ (List.mem_map.2 ⟨p, hp, rfl⟩), by omega⟩))
      have HN := Lib.hid (show nodesL (l.map (·.1)) ≤ 1048576 by omega)
      have hkc := kind_cases hgood.1
      have HIH := Lib.hid ih
      have HS := Lib.hid hs
      have HA := Lib.hid hargs
      have HLEN := Lib.hid hlen
      obtain ⟨pv, cv, rfl⟩ := hs.len
      have hll : l.length ≤ 140737488351232 := by omega
      have HOF := Lib.hid (show ofE (.mk op pos s text mn mx (l.map (·.1))) = if op = 2 then (if s == emptyS then .no else ⟨false, 1, 1⟩) else if op = 5 then fold1 catL ((l.map (·.1)).map ofE) else if op = 6 then fold1 altL ((l.map (·.1)).map ofE) else if op = 7 then manyL mn mx (((l.map (·.1)).map ofE).headD .zero) else .zero by rw [ofE, ofL_map])
      clear ih hk h1 h2 h3 h4 h5 hn hs hargs hlen hb hgood hnodes
      unfold exCells
      rcases hkc with rfl | rfl | ⟨rfl, hn⟩ | ⟨rfl, hn⟩ | ⟨rfl, hn⟩
      · go_enter Tryd.func25, Tryd.ntmps25
        go_wp2_with fail
        exact bodyPost_ret (v := .agg #[.bool false, .int .i64 0, .int .i64 0]) (by simp [results, Tryd.results25, go_sem]) rfl ⟨by rw [HOF.out]; rfl, (Gr.alloc _ _).trans (Gr.alloc _ _)⟩
      · go_enter Tryd.func25, Tryd.ntmps25
        obtain ⟨b, hb⟩ : ∃ b, (s == emptyS) = b := ⟨_, rfl⟩
        have HB := Lib.hid hb
        cases b
        · go_wp2_with fail
          exact bodyPost_ret (v := .agg #[.bool false, .int .i64 1, .int .i64 1]) (by simp [results, Tryd.results25, go_sem]) rfl ⟨by rw [HOF.out]; simp [HB.out], (Gr.alloc _ _).trans (Gr.alloc _ _)⟩
        · go_wp2_with fail
          exact bodyPost_ret (v := .agg #[.bool true, .int .i64 0, .int .i64 0]) (by simp [results, Tryd.results25, go_sem]) rfl ⟨by rw [HOF.out]; simp [HB.out, Le.no], (Gr.alloc _ _).trans (Gr.alloc _ _)⟩
      · -- CAT
        have HFO := Lib.hid (show ofE (.mk 5 pos s text mn mx (l.map (·.1))) = ((l.map (·.1)).map ofE).foldl catL .zero by
          rw [HOF.out]
          cases l with
          | nil => simp at hn
          | cons p r =>
            show (if (5 : Int) = 2 then _ else if (5 : Int) = 5 then _ else _) = _
            rw [if_neg (by decide), if_pos rfl]
            show _ = List.foldl catL (catL .zero (ofE p.1)) _
            rw [catL_zero (fine_of _) (of_within _ p.1 (Nat.le_refl _)).2.2.1]; rfl)
        clear hn
        go_enter Tryd.func25, Tryd.ntmps25
        go_wp2_with fail
        refine name_world (fun W hW => ?_)
        obtain ⟨xe, xr, xx, hgW, hsz⟩ : _ ∧ _ ∧ _ ∧ Gr w W ∧ W.heap.size = w.heap.size + 3 := by rw [hW]; exact bx3 w [.int .i64 5, .int .i64 pos, .int .u64 (wd s 0), .int .u64 (wd s 1), .int .u64 (wd s 2), .int .u64 (wd s 3), .string text, .int .i64 mn, .int .i64 mx, (.slice pv l.length cv)] [.bool false, .int .i64 0, .int .i64 0] [.bool false, .int .i64 0, .int .i64 0] 27 33 33
        rw [← hW] at xe xr xx
        clear hW
        have hlI : True := trivial
        go_loopw [4] (fun i wr => ∃ (j : Nat) (x : Le), j ≤ l.length ∧ i = .int .i64 (j : Int) ∧ Gr w wr ∧ boxAt wr w.heap.size [.int .i64 5, .int .i64 pos, .int .u64 (wd s 0), .int .u64 (wd s 1), .int .u64 (wd s 2), .int .u64 (wd s 3), .string text, .int .i64 mn, .int .i64 mx, (.slice pv l.length cv)] ∧ boxAt wr (w.heap.size + 1) [.bool false, .int .i64 0, .int .i64 0] ∧ boxAt wr (w.heap.size + 2) [.bool x.none, .int .i64 x.least, .int .i64 x.most] ∧ x.none = false ∧
          Hid (((l.map (·.1)).map ofE).foldl catL Le.zero = (((l.drop j).map (·.1)).map ofE).foldl catL x ∧ within x (nodesL ((l.map (·.1)).take j)) ∧ True)) (fun i _ => l.length - (intOf i).toNat)
        case atStart => exact ⟨0, Le.zero, by omega, rfl, hgW, xe, xr, xx, rfl, Lib.hid ⟨rfl, ⟨by decide, by show (0 : Int) ≤ _; omega, by decide, by show (0 : Int) ≤ _; omega⟩, trivial⟩⟩
        case round =>
          obtain ⟨j, ⟨xn, xl, xm⟩, hj, rfl, hg, ye, yr, yx, hxn, HX⟩ := hrel
          simp only at hxn
          subst hxn
          clear xe xr xx hgW
          by_cases hlt : j < l.length
          · obtain ⟨b, off, op2, pos2, s2, text2, mn2, mx2, p2, n2, c2, a, rfl, hbW, ha, hin, hat⟩ := args_at HS.out HLEN.out HA.out j hlt
            have HSA := Lib.hid (HK.out _ (List.mem_of_getElem? ha))
            obtain ⟨hbr, hcell⟩ := hat wr hg
            unfold exCells at hcell
            have d0 := hcell 0 _ (by omega) rfl
            have d1 := hcell 1 _ (by omega) rfl
            have d2 := hcell 2 _ (by omega) rfl
            have d3 := hcell 3 _ (by omega) rfl
            have d4 := hcell 4 _ (by omega) rfl
            have d5 := hcell 5 _ (by omega) rfl
            have d6 := hcell 6 _ (by omega) rfl
            have d7 := hcell 7 _ (by omega) rfl
            have d8 := hcell 8 _ (by omega) rfl
            have d9 := hcell 9 _ (by omega) rfl
            simp only [Nat.add_zero] at d0
            have hjI : (j : Int) < (l.length : Int) := by omega
            have HDR := Lib.hid (show ((l.drop j).map (·.1)).map ofE = ofE a :: ((l.drop (j + 1)).map (·.1)).map ofE by rw [drop_cons_of ha]; rfl)
            have HTK := Lib.hid (show nodesL ((l.map (·.1)).take (j + 1)) = nodesL ((l.map (·.1)).take j) + nodesE a by
              obtain ⟨g1, g2⟩ := List.getElem?_eq_some_iff.1 ha
              rw [List.take_succ_eq_append_getElem (by simpa using g1), List.getElem_map, g2, nodesL_snoc])
            have HLT := Lib.hid hlt
            have HWA := Lib.hid (of_within _ a (Nat.le_refl _))
            have HFA := Lib.hid (fine_of a)
            have HC := Lib.hid (fun (cur : World) (h : Gr wr cur) => HIH.out a HSA.out.1 _ cur ((hin.later hg).later h) HSA.out.2.1 HSA.out.2.2)
            unfold exCells at HC
            obtain ⟨q, hq⟩ : ∃ q, ofE a = q := ⟨_, rfl⟩
            rw [hq] at HC HDR HWA HFA
            have hxs : within ⟨false, xl, xm⟩ 1048576 := HX.out.2.1.mono (by have h1 := nodesL_take (l.map (·.1)) j; have h2 := HN.out; omega)
            have hqs : within q 1048576 := HWA.out.mono (by have := HSA.out.2.2; omega)
            clear hq hlt hcell hin hat ha hj hbW
            obtain ⟨qn, ql, qm⟩ := q
            obtain ⟨x1, x2, x3, x4⟩ := hxs
            obtain ⟨q1, q2, q3, q4⟩ := hqs
            simp only at x1 x2 x3 x4 q1 q2 q3 q4
            have c_e0 := ye.cell 0 _ rfl
            have c_e1 := ye.cell 1 _ rfl
            have c_e2 := ye.cell 2 _ rfl
            have c_e3 := ye.cell 3 _ rfl
            have c_e4 := ye.cell 4 _ rfl
            have c_e5 := ye.cell 5 _ rfl
            have c_e6 := ye.cell 6 _ rfl
            have c_e7 := ye.cell 7 _ rfl
            have c_e8 := ye.cell 8 _ rfl
            have c_e9 := ye.cell 9 _ rfl
            have m_e0 := ye.mark 0 _ rfl
            have m_e1 := ye.mark 1 _ rfl
            have m_e2 := ye.mark 2 _ rfl
            have m_e3 := ye.mark 3 _ rfl
            have m_e4 := ye.mark 4 _ rfl
            have m_e5 := ye.mark 5 _ rfl
            have m_e6 := ye.mark 6 _ rfl
            have m_e7 := ye.mark 7 _ rfl
            have m_e8 := ye.mark 8 _ rfl
            have m_e9 := ye.mark 9 _ rfl
            have l_e := ye.lt (Nat.succ_pos _)
            go_wp2_with fail
            clear c_e0 c_e1 c_e2 c_e3 c_e4 c_e5 c_e6 c_e7 c_e8 c_e9 m_e0 m_e1 m_e2 m_e3 m_e4 m_e5 m_e6 m_e7 m_e8 m_e9 l_e
            go_at_call 25
            refine (HC.out wr (Gr.refl _)).mono ?_; rintro e' w5 ⟨rfl, hb⟩
            replace ye := ye.later hb
            replace yr := yr.later hb
            replace yx := yx.later hb
            have hg5 := hg.trans hb
            clear hb d0 d1 d2 d3 d4 d5 d6 d7 d8 d9 hbr
            have c_x0 := yx.cell 0 _ rfl
            have c_x1 := yx.cell 1 _ rfl
            have c_x2 := yx.cell 2 _ rfl
            have m_x0 := yx.mark 0 _ rfl
            have m_x1 := yx.mark 1 _ rfl
            have m_x2 := yx.mark 2 _ rfl
            have l_x := yx.lt (Nat.succ_pos _)
            have c_r0 := yr.cell 0 _ rfl
            have c_r1 := yr.cell 1 _ rfl
            have c_r2 := yr.cell 2 _ rfl
            have m_r0 := yr.mark 0 _ rfl
            have m_r1 := yr.mark 1 _ rfl
            have m_r2 := yr.mark 2 _ rfl
            have l_r := yr.lt (Nat.succ_pos _)
            clear c_x0 c_x1 c_x2 m_x0 m_x1 m_x2 l_x
            clear c_r0 c_r1 c_r2 m_r0 m_r1 m_r2 l_r
            have HG5 := Lib.hid hg5
            cases qn
            · by_cases hm : xm < 0
              · have c_x0 := yx.cell 0 _ rfl
                have c_x1 := yx.cell 1 _ rfl
                have c_x2 := yx.cell 2 _ rfl
                have m_x0 := yx.mark 0 _ rfl
                have m_x1 := yx.mark 1 _ rfl
                have m_x2 := yx.mark 2 _ rfl
                have l_x := yx.lt (Nat.succ_pos _)
                have HS1 := Lib.hid (show catL ⟨false, xl, xm⟩ ⟨false, ql, qm⟩ = ⟨false, xl + ql, (-1)⟩ by simp [catL] <;> omega)
                go_wp2_with fail
                go_roundw
                case rel =>
                  refine ⟨j + 1, ⟨false, xl + ql, (-1)⟩, by have := HLT.out; omega, by go_num, Gr.trans (Below.setCell (p := ⟨w.heap.size + 1 + 1, 2, none⟩) (Below.setCell (p := ⟨w.heap.size + 1 + 1, 1, none⟩) hg5 (by show w.heap.size ≤ w.heap.size + 1 + 1; omega) _) (by show w.heap.size ≤ w.heap.size + 1 + 1; omega) _) (Gr.alloc _ _),
                    ((ye.far (⟨w.heap.size + 1 + 1, 1, none⟩ : Addr) _ (by show w.heap.size + 1 + 1 ≠ w.heap.size; omega)).far (⟨w.heap.size + 1 + 1, 2, none⟩ : Addr) _ (by show w.heap.size + 1 + 1 ≠ w.heap.size; omega)).later (Gr.alloc _ _), ((yr.far (⟨w.heap.size + 1 + 1, 1, none⟩ : Addr) _ (by show w.heap.size + 1 + 1 ≠ w.heap.size + 1; omega)).far (⟨w.heap.size + 1 + 1, 2, none⟩ : Addr) _ (by show w.heap.size + 1 + 1 ≠ w.heap.size + 1; omega)).later (Gr.alloc _ _), ?_, rfl, Lib.hid ⟨?_, ?_, trivial⟩⟩
                  · exact ((yx.put 1 (.int .i64 (xl + ql)) (by simp)).put 2 (.int .i64 (-1)) (by simp)).later (Gr.alloc _ _)
                  · rw [HX.out.1, HDR.out, List.foldl_cons, HS1.out]
                  · rw [HTK.out, ← HS1.out]; exact within_cat HX.out.2.1 HWA.out
                case measure => have := HLT.out; simp [intOf]; omega
              · by_cases hm2 : qm < 0
                · have c_x0 := yx.cell 0 _ rfl
                  have c_x1 := yx.cell 1 _ rfl
                  have c_x2 := yx.cell 2 _ rfl
                  have m_x0 := yx.mark 0 _ rfl
                  have m_x1 := yx.mark 1 _ rfl
                  have m_x2 := yx.mark 2 _ rfl
                  have l_x := yx.lt (Nat.succ_pos _)
                  have HS1 := Lib.hid (show catL ⟨false, xl, xm⟩ ⟨false, ql, qm⟩ = ⟨false, xl + ql, (-1)⟩ by simp [catL] <;> omega)
                  go_wp2_with fail
                  go_roundw
                  case rel =>
                    refine ⟨j + 1, ⟨false, xl + ql, (-1)⟩, by have := HLT.out; omega, by go_num, Gr.trans (Below.setCell (p := ⟨w.heap.size + 1 + 1, 2, none⟩) (Below.setCell (p := ⟨w.heap.size + 1 + 1, 1, none⟩) hg5 (by show w.heap.size ≤ w.heap.size + 1 + 1; omega) _) (by show w.heap.size ≤ w.heap.size + 1 + 1; omega) _) (Gr.alloc _ _),
                      ((ye.far (⟨w.heap.size + 1 + 1, 1, none⟩ : Addr) _ (by show w.heap.size + 1 + 1 ≠ w.heap.size; omega)).far (⟨w.heap.size + 1 + 1, 2, none⟩ : Addr) _ (by show w.heap.size + 1 + 1 ≠ w.heap.size; omega)).later (Gr.alloc _ _), ((yr.far (⟨w.heap.size + 1 + 1, 1, none⟩ : Addr) _ (by show w.heap.size + 1 + 1 ≠ w.heap.size + 1; omega)).far (⟨w.heap.size + 1 + 1, 2, none⟩ : Addr) _ (by show w.heap.size + 1 + 1 ≠ w.heap.size + 1; omega)).later (Gr.alloc _ _), ?_, rfl, Lib.hid ⟨?_, ?_, trivial⟩⟩
                    · exact ((yx.put 1 (.int .i64 (xl + ql)) (by simp)).put 2 (.int .i64 (-1)) (by simp)).later (Gr.alloc _ _)
                    · rw [HX.out.1, HDR.out, List.foldl_cons, HS1.out]
                    · rw [HTK.out, ← HS1.out]; exact within_cat HX.out.2.1 HWA.out
                  case measure => have := HLT.out; simp [intOf]; omega
                · have c_x0 := yx.cell 0 _ rfl
                  have c_x1 := yx.cell 1 _ rfl
                  have c_x2 := yx.cell 2 _ rfl
                  have m_x0 := yx.mark 0 _ rfl
                  have m_x1 := yx.mark 1 _ rfl
                  have m_x2 := yx.mark 2 _ rfl
                  have l_x := yx.lt (Nat.succ_pos _)
                  have HS1 := Lib.hid (show catL ⟨false, xl, xm⟩ ⟨false, ql, qm⟩ = ⟨false, xl + ql, (xm + qm)⟩ by simp [catL] <;> omega)
                  go_wp2_with fail
                  go_roundw
                  case rel =>
                    refine ⟨j + 1, ⟨false, xl + ql, (xm + qm)⟩, by have := HLT.out; omega, by go_num, Gr.trans (Below.setCell (p := ⟨w.heap.size + 1 + 1, 2, none⟩) (Below.setCell (p := ⟨w.heap.size + 1 + 1, 1, none⟩) hg5 (by show w.heap.size ≤ w.heap.size + 1 + 1; omega) _) (by show w.heap.size ≤ w.heap.size + 1 + 1; omega) _) (Gr.alloc _ _),
                      ((ye.far (⟨w.heap.size + 1 + 1, 1, none⟩ : Addr) _ (by show w.heap.size + 1 + 1 ≠ w.heap.size; omega)).far (⟨w.heap.size + 1 + 1, 2, none⟩ : Addr) _ (by show w.heap.size + 1 + 1 ≠ w.heap.size; omega)).later (Gr.alloc _ _), ((yr.far (⟨w.heap.size + 1 + 1, 1, none⟩ : Addr) _ (by show w.heap.size + 1 + 1 ≠ w.heap.size + 1; omega)).far (⟨w.heap.size + 1 + 1, 2, none⟩ : Addr) _ (by show w.heap.size + 1 + 1 ≠ w.heap.size + 1; omega)).later (Gr.alloc _ _), ?_, rfl, Lib.hid ⟨?_, ?_, trivial⟩⟩
                    · exact ((yx.put 1 (.int .i64 (xl + ql)) (by simp)).put 2 (.int .i64 (xm + qm)) (by simp)).later (Gr.alloc _ _)
                    · rw [HX.out.1, HDR.out, List.foldl_cons, HS1.out]
                    · rw [HTK.out, ← HS1.out]; exact within_cat HX.out.2.1 HWA.out
                  case measure => have := HLT.out; simp [intOf]; omega
            · have c_r0 := yr.cell 0 _ rfl
              have c_r1 := yr.cell 1 _ rfl
              have c_r2 := yr.cell 2 _ rfl
              have m_r0 := yr.mark 0 _ rfl
              have m_r1 := yr.mark 1 _ rfl
              have m_r2 := yr.mark 2 _ rfl
              have l_r := yr.lt (Nat.succ_pos _)
              have hno : (⟨true, ql, qm⟩ : Le) = .no := HFA.out.1 rfl
              have HRES := Lib.hid (show ofE (.mk 5 pos s text mn mx (l.map (·.1))) = ⟨true, ql, qm⟩ by
                rw [HFO.out, HX.out.1, HDR.out, List.foldl_cons, show catL ⟨false, xl, xm⟩ ⟨true, ql, qm⟩ = .no by simp [catL], foldl_no, hno])
              clear hno
              go_wp2_with fail
              refine name_body8 (fun W2 hW2 => ?_)
              have yr2 : boxAt W2 (w.heap.size + 1) [.bool true, .int .i64 ql, .int .i64 qm] := by
                rw [hW2]; exact (((yr.put 0 (.bool true) (by simp)).put 1 (.int .i64 ql) (by simp)).put 2 (.int .i64 qm) (by simp)).later (Gr.alloc _ _)
              have hg2 : Gr w W2 := by rw [hW2]; exact Gr.trans (put3 hg5 (b := w.heap.size + 1) (by omega) _ _ _) (Gr.alloc _ _)
              clear hW2
              exact bodyPost_ret (v := .agg #[.bool true, .int .i64 ql, .int .i64 qm]) (by simp [results, Tryd.results25, go_sem, yr2.cell 0 _ rfl, yr2.cell 1 _ rfl, yr2.cell 2 _ rfl]) rfl ⟨by rw [HRES.out], hg2⟩

          · have hjE : j = l.length := by omega
            clear hlt hj
            subst hjE
            have HRES := Lib.hid (show ofE (.mk 5 pos s text mn mx (l.map (·.1))) = ⟨false, xl, xm⟩ by rw [HFO.out, HX.out.1, List.drop_length]; rfl)
            have c_e0 := ye.cell 0 _ rfl
            have c_e1 := ye.cell 1 _ rfl
            have c_e2 := ye.cell 2 _ rfl
            have c_e3 := ye.cell 3 _ rfl
            have c_e4 := ye.cell 4 _ rfl
            have c_e5 := ye.cell 5 _ rfl
            have c_e6 := ye.cell 6 _ rfl
            have c_e7 := ye.cell 7 _ rfl
            have c_e8 := ye.cell 8 _ rfl
            have c_e9 := ye.cell 9 _ rfl
            have m_e0 := ye.mark 0 _ rfl
            have m_e1 := ye.mark 1 _ rfl
            have m_e2 := ye.mark 2 _ rfl
            have m_e3 := ye.mark 3 _ rfl
            have m_e4 := ye.mark 4 _ rfl
            have m_e5 := ye.mark 5 _ rfl
            have m_e6 := ye.mark 6 _ rfl
            have m_e7 := ye.mark 7 _ rfl
            have m_e8 := ye.mark 8 _ rfl
            have m_e9 := ye.mark 9 _ rfl
            have l_e := ye.lt (Nat.succ_pos _)
            have c_r0 := yr.cell 0 _ rfl
            have c_r1 := yr.cell 1 _ rfl
            have c_r2 := yr.cell 2 _ rfl
            have m_r0 := yr.mark 0 _ rfl
            have m_r1 := yr.mark 1 _ rfl
            have m_r2 := yr.mark 2 _ rfl
            have l_r := yr.lt (Nat.succ_pos _)
            have c_x0 := yx.cell 0 _ rfl
            have c_x1 := yx.cell 1 _ rfl
            have c_x2 := yx.cell 2 _ rfl
            have m_x0 := yx.mark 0 _ rfl
            have m_x1 := yx.mark 1 _ rfl
            have m_x2 := yx.mark 2 _ rfl
            have l_x := yx.lt (Nat.succ_pos _)
            go_wp2_with fail
            exact bodyPost_ret (v := .agg #[.bool false, .int .i64 xl, .int .i64 xm]) (by simp [results, Tryd.results25, go_sem, c_r0, c_r1, c_r2]) rfl ⟨by rw [HRES.out], put3 hg (by omega) _ _ _⟩
      · -- ALT
        have HFO := Lib.hid (show ofE (.mk 6 pos s text mn mx (l.map (·.1))) = ((l.map (·.1)).map ofE).foldl altL .no by
          rw [HOF.out]
          cases l with
          | nil => simp at hn
          | cons p r =>
            show (if (6 : Int) = 2 then _ else if (6 : Int) = 5 then _ else if (6 : Int) = 6 then _ else _) = _
            rw [if_neg (by decide), if_neg (by decide), if_pos rfl]
            show _ = List.foldl altL (altL .no (ofE p.1)) _
            rw [altL_no]; rfl)
        clear hn
        go_enter Tryd.func25, Tryd.ntmps25
        go_wp2_with fail
        refine name_world (fun W hW => ?_)
        obtain ⟨xe, xr, xx, hgW, hsz⟩ : _ ∧ _ ∧ _ ∧ Gr w W ∧ W.heap.size = w.heap.size + 3 := by rw [hW]; exact bx3 w [.int .i64 6, .int .i64 pos, .int .u64 (wd s 0), .int .u64 (wd s 1), .int .u64 (wd s 2), .int .u64 (wd s 3), .string text, .int .i64 mn, .int .i64 mx, (.slice pv l.length cv)] [.bool false, .int .i64 0, .int .i64 0] [.bool true, .int .i64 0, .int .i64 0] 27 33 33
        rw [← hW] at xe xr xx
        clear hW
        have hlI : True := trivial
        go_loopw [7] (fun i wr => ∃ (j : Nat) (x : Le), j ≤ l.length ∧ i = .int .i64 (j : Int) ∧ Gr w wr ∧ boxAt wr w.heap.size [.int .i64 6, .int .i64 pos, .int .u64 (wd s 0), .int .u64 (wd s 1), .int .u64 (wd s 2), .int .u64 (wd s 3), .string text, .int .i64 mn, .int .i64 mx, (.slice pv l.length cv)] ∧ boxAt wr (w.heap.size + 1) [.bool false, .int .i64 0, .int .i64 0] ∧ boxAt wr (w.heap.size + 2) [.bool x.none, .int .i64 x.least, .int .i64 x.most] ∧ True ∧
          Hid (((l.map (·.1)).map ofE).foldl altL Le.no = (((l.drop j).map (·.1)).map ofE).foldl altL x ∧ within x (nodesL ((l.map (·.1)).take j)) ∧ True)) (fun i _ => l.length - (intOf i).toNat)
        case atStart => exact ⟨0, Le.no, by omega, rfl, hgW, xe, xr, xx, trivial, Lib.hid ⟨rfl, ⟨by decide, by show (0 : Int) ≤ _; omega, by decide, by show (0 : Int) ≤ _; omega⟩, trivial⟩⟩
        case round =>
          obtain ⟨j, ⟨xn, xl, xm⟩, hj, rfl, hg, ye, yr, yx, hxn, HX⟩ := hrel
          clear hxn
          clear xe xr xx hgW
          by_cases hlt : j < l.length
          · obtain ⟨b, off, op2, pos2, s2, text2, mn2, mx2, p2, n2, c2, a, rfl, hbW, ha, hin, hat⟩ := args_at HS.out HLEN.out HA.out j hlt
            have HSA := Lib.hid (HK.out _ (List.mem_of_getElem? ha))
            obtain ⟨hbr, hcell⟩ := hat wr hg
            unfold exCells at hcell
            have d0 := hcell 0 _ (by omega) rfl
            have d1 := hcell 1 _ (by omega) rfl
            have d2 := hcell 2 _ (by omega) rfl
            have d3 := hcell 3 _ (by omega) rfl
            have d4 := hcell 4 _ (by omega) rfl
            have d5 := hcell 5 _ (by omega) rfl
            have d6 := hcell 6 _ (by omega) rfl
            have d7 := hcell 7 _ (by omega) rfl
            have d8 := hcell 8 _ (by omega) rfl
            have d9 := hcell 9 _ (by omega) rfl
            simp only [Nat.add_zero] at d0
            have hjI : (j : Int) < (l.length : Int) := by omega
            have HDR := Lib.hid (show ((l.drop j).map (·.1)).map ofE = ofE a :: ((l.drop (j + 1)).map (·.1)).map ofE by rw [drop_cons_of ha]; rfl)
            have HTK := Lib.hid (show nodesL ((l.map (·.1)).take (j + 1)) = nodesL ((l.map (·.1)).take j) + nodesE a by
              obtain ⟨g1, g2⟩ := List.getElem?_eq_some_iff.1 ha
              rw [List.take_succ_eq_append_getElem (by simpa using g1), List.getElem_map, g2, nodesL_snoc])
            have HLT := Lib.hid hlt
            have HWA := Lib.hid (of_within _ a (Nat.le_refl _))
            have HFA := Lib.hid (fine_of a)
            have HC := Lib.hid (fun (cur : World) (h : Gr wr cur) => HIH.out a HSA.out.1 _ cur ((hin.later hg).later h) HSA.out.2.1 HSA.out.2.2)
            unfold exCells at HC
            obtain ⟨q, hq⟩ : ∃ q, ofE a = q := ⟨_, rfl⟩
            rw [hq] at HC HDR HWA HFA
            have hxs : within ⟨xn, xl, xm⟩ 1048576 := HX.out.2.1.mono (by have h1 := nodesL_take (l.map (·.1)) j; have h2 := HN.out; omega)
            have hqs : within q 1048576 := HWA.out.mono (by have := HSA.out.2.2; omega)
            clear hq hlt hcell hin hat ha hj hbW
            obtain ⟨qn, ql, qm⟩ := q
            obtain ⟨z, hz⟩ : ∃ z, altL ⟨xn, xl, xm⟩ ⟨qn, ql, qm⟩ = z := ⟨_, rfl⟩
            have HEI := Lib.hid (fun (cur : World) => either_any ⟨xn, xl, xm⟩ ⟨qn, ql, qm⟩ cur (hxs.small (by omega)) (hqs.small (by omega)))
            rw [hz] at HEI
            have HZ := Lib.hid hz
            clear hz hxs hqs
            have c_e0 := ye.cell 0 _ rfl
            have c_e1 := ye.cell 1 _ rfl
            have c_e2 := ye.cell 2 _ rfl
            have c_e3 := ye.cell 3 _ rfl
            have c_e4 := ye.cell 4 _ rfl
            have c_e5 := ye.cell 5 _ rfl
            have c_e6 := ye.cell 6 _ rfl
            have c_e7 := ye.cell 7 _ rfl
            have c_e8 := ye.cell 8 _ rfl
            have c_e9 := ye.cell 9 _ rfl
            have m_e0 := ye.mark 0 _ rfl
            have m_e1 := ye.mark 1 _ rfl
            have m_e2 := ye.mark 2 _ rfl
            have m_e3 := ye.mark 3 _ rfl
            have m_e4 := ye.mark 4 _ rfl
            have m_e5 := ye.mark 5 _ rfl
            have m_e6 := ye.mark 6 _ rfl
            have m_e7 := ye.mark 7 _ rfl
            have m_e8 := ye.mark 8 _ rfl
            have m_e9 := ye.mark 9 _ rfl
            have l_e := ye.lt (Nat.succ_pos _)
            have c_x0 := yx.cell 0 _ rfl
            have c_x1 := yx.cell 1 _ rfl
            have c_x2 := yx.cell 2 _ rfl
            have m_x0 := yx.mark 0 _ rfl
            have m_x1 := yx.mark 1 _ rfl
            have m_x2 := yx.mark 2 _ rfl
            have l_x := yx.lt (Nat.succ_pos _)
            go_wp2_with fail
            refine wp_region_G (.take 0 (.take 1 (.take 2 (.take 3 (.take 4 (.take 5 (.run 6 false (.run 7 false (.run 8 true .nil))))))))) (by kernel_rfl) (by kernel_rfl) ?_
            simp only [pickOps, nthOp]
            intro wq hG
            repeat (first | (refine wpG_skip_take ?_ ?_; (focus rfl); try simp only [Act.put, List.setIfInBounds_toArray, List.set_cons_zero, List.set_cons_succ]) | (refine wpG_skip_run ?_ ?_; (focus rfl); try simp only [Act.put, List.setIfInBounds_toArray, List.set_cons_zero, List.set_cons_succ]) | (refine wpG_take ?_ ?_; (focus rfl); apply Exists.intro; refine ⟨fun w' hw' => ?_, ?_⟩; (focus (have hc := Gr.cells hw'; go_simp; (try rfl); done)); try simp only [Act.put, List.setIfInBounds_toArray, List.set_cons_zero, List.set_cons_succ]) | (refine wpG_run ?_ (fun K hK => ?_); (focus rfl); go_simp; (first | (go_at_call 25; (with_reducible refine (HC.out _ hG).mono ?_); rintro e' w7 ⟨rfl, hb⟩) | (go_at_call 42; (with_reducible refine (HEI.out _).mono ?_); rintro e' w8 ⟨rfl, hb⟩)); (try dsimp only); replace hG := hG.trans hb; refine hK.out _ _ hG ?_; clear hK K hb; try simp only [Act.put, List.setIfInBounds_toArray, List.set_cons_zero, List.set_cons_succ]))
            rename_i w5
            refine wpG_last ?_ (fun K hK => ?_); (focus rfl)
            have hc := hG.cells
            have hm := hG.marks
            go_simp
            refine hK.out _ _ ?_
            try simp only [Act.put, List.setIfInBounds_toArray, List.set_cons_zero, List.set_cons_succ]
            clear hK K hc hm
            refine wpG_done ?_
            clear d0 d1 d2 d3 d4 d5 d6 d7 d8 d9 hbr
            clear c_e0 c_e1 c_e2 c_e3 c_e4 c_e5 c_e6 c_e7 c_e8 c_e9 m_e0 m_e1 m_e2 m_e3 m_e4 m_e5 m_e6 m_e7 m_e8 m_e9 l_e
            clear c_x0 c_x1 c_x2 m_x0 m_x1 m_x2 l_x
            have hg5 := hg.trans hG
            replace ye := ye.later hG
            replace yr := yr.later hG
            replace yx := yx.later hG
            go_wp2_with fail
            go_roundw
            case rel =>
              refine ⟨j + 1, z, by have := HLT.out; omega, by go_num, put3 hg5 (b := w.heap.size + 2) (by omega) _ _ _, ((ye.far (⟨w.heap.size + 2, 0, none⟩ : Addr) _ (by show w.heap.size + 2 ≠ w.heap.size; omega)).far (⟨w.heap.size + 2, 1, none⟩ : Addr) _ (by show w.heap.size + 2 ≠ w.heap.size; omega)).far (⟨w.heap.size + 2, 2, none⟩ : Addr) _ (by show w.heap.size + 2 ≠ w.heap.size; omega),
                ((yr.far (⟨w.heap.size + 2, 0, none⟩ : Addr) _ (by show w.heap.size + 2 ≠ w.heap.size + 1; omega)).far (⟨w.heap.size + 2, 1, none⟩ : Addr) _ (by show w.heap.size + 2 ≠ w.heap.size + 1; omega)).far (⟨w.heap.size + 2, 2, none⟩ : Addr) _ (by show w.heap.size + 2 ≠ w.heap.size + 1; omega), ?_, trivial, Lib.hid ⟨?_, ?_, trivial⟩⟩
              · exact ((yx.put 0 (.bool z.none) (by simp)).put 1 (.int .i64 z.least) (by simp)).put 2 (.int .i64 z.most) (by simp)
              · rw [HX.out.1, HDR.out, List.foldl_cons, HZ.out]
              · rw [HTK.out, ← HZ.out]; exact within_alt HX.out.2.1 HWA.out
            case measure => have := HLT.out; simp [intOf]; omega
          · have hjE : j = l.length := by omega
            clear hlt hj
            subst hjE
            have HRES := Lib.hid (show ofE (.mk 6 pos s text mn mx (l.map (·.1))) = ⟨xn, xl, xm⟩ by rw [HFO.out, HX.out.1, List.drop_length]; rfl)
            have c_e0 := ye.cell 0 _ rfl
            have c_e1 := ye.cell 1 _ rfl
            have c_e2 := ye.cell 2 _ rfl
            have c_e3 := ye.cell 3 _ rfl
            have c_e4 := ye.cell 4 _ rfl
            have c_e5 := ye.cell 5 _ rfl
            have c_e6 := ye.cell 6 _ rfl
            have c_e7 := ye.cell 7 _ rfl
            have c_e8 := ye.cell 8 _ rfl
            have c_e9 := ye.cell 9 _ rfl
            have m_e0 := ye.mark 0 _ rfl
            have m_e1 := ye.mark 1 _ rfl
            have m_e2 := ye.mark 2 _ rfl
            have m_e3 := ye.mark 3 _ rfl
            have m_e4 := ye.mark 4 _ rfl
            have m_e5 := ye.mark 5 _ rfl
            have m_e6 := ye.mark 6 _ rfl
            have m_e7 := ye.mark 7 _ rfl
            have m_e8 := ye.mark 8 _ rfl
            have m_e9 := ye.mark 9 _ rfl
            have l_e := ye.lt (Nat.succ_pos _)
            have c_r0 := yr.cell 0 _ rfl
            have c_r1 := yr.cell 1 _ rfl
            have c_r2 := yr.cell 2 _ rfl
            have m_r0 := yr.mark 0 _ rfl
            have m_r1 := yr.mark 1 _ rfl
            have m_r2 := yr.mark 2 _ rfl
            have l_r := yr.lt (Nat.succ_pos _)
            have c_x0 := yx.cell 0 _ rfl
            have c_x1 := yx.cell 1 _ rfl
            have c_x2 := yx.cell 2 _ rfl
            have m_x0 := yx.mark 0 _ rfl
            have m_x1 := yx.mark 1 _ rfl
            have m_x2 := yx.mark 2 _ rfl
            have l_x := yx.lt (Nat.succ_pos _)
            go_wp2_with fail
            exact bodyPost_ret (v := .agg #[.bool xn, .int .i64 xl, .int .i64 xm]) (by simp [results, Tryd.results25, go_sem, c_r0, c_r1, c_r2]) rfl ⟨by rw [HRES.out], put3 hg (by omega) _ _ _⟩
      · obtain ⟨⟨a, ca⟩, hl1⟩ : ∃ p, l = [p] := by
          cases l with
          | nil => simp at hn
          | cons p r => cases r with
            | nil => exact ⟨_, rfl⟩
            | cons q r => simp at hn
        have HFO := Lib.hid (show ofE (.mk 7 pos s text mn mx (l.map (·.1))) = manyL mn mx (ofE a) by
          rw [HOF.out, hl1]; rfl)
        obtain ⟨b, off, op2, pos2, s2, text2, mn2, mx2, p2, n2, c2, a', rfl, hbW, ha, hin, hat⟩ := args_at HS.out HLEN.out HA.out 0 (by omega)
        obtain rfl : a' = a := by rw [hl1] at ha; simp at ha; exact ha.1.symm
        have HSA := Lib.hid (HK.out _ (List.mem_of_getElem? ha))
        obtain ⟨hbr, hcell⟩ := hat w (Gr.refl _)
        unfold exCells at hcell
        have d0 := hcell 0 _ (by omega) rfl
        have d1 := hcell 1 _ (by omega) rfl
        have d2 := hcell 2 _ (by omega) rfl
        have d3 := hcell 3 _ (by omega) rfl
        have d4 := hcell 4 _ (by omega) rfl
        have d5 := hcell 5 _ (by omega) rfl
        have d6 := hcell 6 _ (by omega) rfl
        have d7 := hcell 7 _ (by omega) rfl
        have d8 := hcell 8 _ (by omega) rfl
        have d9 := hcell 9 _ (by omega) rfl
        simp only [Nat.add_zero, Nat.zero_mul] at d0 d1 d2 d3 d4 d5 d6 d7 d8 d9
        have HC := Lib.hid (fun (cur : World) (h : Gr w cur) => HIH.out a' HSA.out.1 _ cur (hin.later h) HSA.out.2.1 HSA.out.2.2)
        unfold exCells at HC
        obtain ⟨q, hq⟩ : ∃ q, ofE a' = q := ⟨_, rfl⟩
        have hqs : within q 1048576 := by rw [← hq]; exact (of_within _ a' (Nat.le_refl _)).mono HSA.out.2.2
        rw [hq] at HC HFO
        obtain ⟨qn, ql, qm⟩ := q
        obtain ⟨z, hz⟩ : ∃ z, manyL mn mx ⟨qn, ql, qm⟩ = z := ⟨_, rfl⟩
        have HT := Lib.hid (fun (cur : World) (p : Option Addr) (n c : Nat) => times_any 7 pos s text mn mx p n c ⟨qn, ql, qm⟩ cur (hqs.small (by omega)))
        rw [hz] at HT HFO
        rw [hn]
        clear hq hqs hz hcell hin hat ha hl1 hbW hn
        go_enter Tryd.func25, Tryd.ntmps25
        go_wp2_with fail
        refine name_world (fun W hW => ?_)
        obtain ⟨xe, xr, hgW, hsz⟩ : _ ∧ _ ∧ Gr w W ∧ W.heap.size = w.heap.size + 2 := by rw [hW]; exact bx2 w [.int .i64 7, .int .i64 pos, .int .u64 (wd s 0), .int .u64 (wd s 1), .int .u64 (wd s 2), .int .u64 (wd s 3), .string text, .int .i64 mn, .int .i64 mx, (.slice (some ⟨b, off, none⟩) 1 cv)] [.bool false, .int .i64 0, .int .i64 0] 27 33
        rw [← hW] at xe xr
        clear hW hsz
        replace d0 := hgW.cell d0
        replace d1 := hgW.cell d1
        replace d2 := hgW.cell d2
        replace d3 := hgW.cell d3
        replace d4 := hgW.cell d4
        replace d5 := hgW.cell d5
        replace d6 := hgW.cell d6
        replace d7 := hgW.cell d7
        replace d8 := hgW.cell d8
        replace d9 := hgW.cell d9
        have hbr2 : b < W.heap.size := by have := hgW.size; omega
        clear hbr
        have c_e0 := xe.cell 0 _ rfl
        have c_e1 := xe.cell 1 _ rfl
        have c_e2 := xe.cell 2 _ rfl
        have c_e3 := xe.cell 3 _ rfl
        have c_e4 := xe.cell 4 _ rfl
        have c_e5 := xe.cell 5 _ rfl
        have c_e6 := xe.cell 6 _ rfl
        have c_e7 := xe.cell 7 _ rfl
        have c_e8 := xe.cell 8 _ rfl
        have c_e9 := xe.cell 9 _ rfl
        have m_e0 := xe.mark 0 _ rfl
        have m_e1 := xe.mark 1 _ rfl
        have m_e2 := xe.mark 2 _ rfl
        have m_e3 := xe.mark 3 _ rfl
        have m_e4 := xe.mark 4 _ rfl
        have m_e5 := xe.mark 5 _ rfl
        have m_e6 := xe.mark 6 _ rfl
        have m_e7 := xe.mark 7 _ rfl
        have m_e8 := xe.mark 8 _ rfl
        have m_e9 := xe.mark 9 _ rfl
        have l_e := xe.lt (Nat.succ_pos _)
        have c_r0 := xr.cell 0 _ rfl
        have c_r1 := xr.cell 1 _ rfl
        have c_r2 := xr.cell 2 _ rfl
        have m_r0 := xr.mark 0 _ rfl
        have m_r1 := xr.mark 1 _ rfl
        have m_r2 := xr.mark 2 _ rfl
        have l_r := xr.lt (Nat.succ_pos _)
        refine wp_region_G (.take 0 (.take 1 (.take 2 (.take 3 (.take 4 (.run 5 false (.run 6 false (.run 7 true .nil)))))))) (by kernel_rfl) (by kernel_rfl) ?_
        simp only [pickOps, nthOp]
        intro wq hG
        repeat (first | (refine wpG_skip_take ?_ ?_; (focus rfl); try simp only [Act.put, List.setIfInBounds_toArray, List.set_cons_zero, List.set_cons_succ]) | (refine wpG_skip_run ?_ ?_; (focus rfl); try simp only [Act.put, List.setIfInBounds_toArray, List.set_cons_zero, List.set_cons_succ]) | (refine wpG_take ?_ ?_; (focus rfl); apply Exists.intro; refine ⟨fun w' hw' => ?_, ?_⟩; (focus (have hc := Gr.cells hw'; go_simp; (try rfl); done)); try simp only [Act.put, List.setIfInBounds_toArray, List.set_cons_zero, List.set_cons_succ]) | (refine wpG_run ?_ (fun K hK => ?_); (focus rfl); go_simp; (first | (go_at_call 25; (with_reducible refine (HC.out _ (hgW.trans hG)).mono ?_); rintro e' w7 ⟨rfl, hb⟩) | (go_at_call 43; (with_reducible refine (HT.out _ _ _ _).mono ?_); rintro e' w8 ⟨rfl, hb⟩)); (try dsimp only); replace hG := hG.trans hb; refine hK.out _ _ hG ?_; clear hK K hb; try simp only [Act.put, List.setIfInBounds_toArray, List.set_cons_zero, List.set_cons_succ]))
        rename_i w5
        refine wpG_last ?_ (fun K hK => ?_); (focus rfl)
        have hc := hG.cells
        have hm := hG.marks
        go_simp
        refine hK.out _ _ ?_
        try simp only [Act.put, List.setIfInBounds_toArray, List.set_cons_zero, List.set_cons_succ]
        clear hK K hc hm
        refine wpG_done ?_
        clear d0 d1 d2 d3 d4 d5 d6 d7 d8 d9 hbr2
        clear c_e0 c_e1 c_e2 c_e3 c_e4 c_e5 c_e6 c_e7 c_e8 c_e9 m_e0 m_e1 m_e2 m_e3 m_e4 m_e5 m_e6 m_e7 m_e8 m_e9 l_e
        clear c_r0 c_r1 c_r2 m_r0 m_r1 m_r2 l_r
        have hg5 := hgW.trans hG
        have yr := (((xr.later hG).put 0 (.bool z.none) (by simp)).put 1 (.int .i64 z.least) (by simp)).put 2 (.int .i64 z.most) (by simp)
        go_wp2_with fail
        exact bodyPost_ret (v := .agg #[.bool z.none, .int .i64 z.least, .int .i64 z.most]) (by simp [results, Tryd.results25, go_sem, yr.cell 0 _ rfl, yr.cell 1 _ rfl, yr.cell 2 _ rfl]) rfl ⟨by rw [HFO.out], put3 hg5 (by omega) _ _ _⟩

end Go.Proofs.YtpcmgkohebihmaaDoor
