/- Texts of mine, put together: NmEq. No condition but what each says. -/
import Derived.Test.YtkkopdmemjncdaaGreatDoorPEqL
import Derived.Test.YtkkopdmemjncdaaGreatDoorPHl
namespace Go.Proofs.YtkkopdmemjncdaaGreatDoor
open Go Go.RowKit
set_option maxRecDepth 100000 in
set_option maxHeartbeats 8000000 in
theorem
    eqSteps6 (L : List (List (Int × Int))) (rv ru : List Value) (v u : Value) (w : World) (hv : Sl w v 1 L.length rv) (hu : Sl w u 1 L.length ru)
  (hrv : ∀ (k : Nat) (a : List (Int × Int)), L[k]? = some a → ∃ u, rv[k]? = some u ∧ Sl w u 2 a.length (a.flatMap prC)) (hru : ∀ (k : Nat) (a : List (Int × Int)), L[k]? = some a → ∃ u, ru[k]? = some u ∧ Sl w u 2 a.length (a.flatMap prC)) :
  Calls Tryz.prog 49 #[v, u] w fun e w' => e = .returned (.bool true) ∧ Gr w w' := by
 have hmax := hv.2.1
 unfold maxLen at hmax
 obtain ⟨p, cap, rfl⟩ := hv.len
 obtain ⟨q, caq, rfl⟩ := hu.len
 have HV := Lib.hid hv
 have HU := Lib.hid hu
 have HRV := Lib.hid hrv
 have HRU := Lib.hid hru
 clear hv hu hrv hru
 go_enter Tryz.func49, Tryz.ntmps49
 go_wp2_with fail
 go_loopw [5, 6] (fun i _ wr => ∃ k : Nat, k ≤ L.length ∧ i = .int .i64 (k : Int) ∧ Gr w wr) (fun i _ _ => L.length - (intOf i).toNat)
 case atStart => exact ⟨0, Nat.zero_le _, rfl, Gr.refl _⟩
 case round =>
  obtain ⟨k, hk, rfl, hr⟩ := hrel
  cases hx : L[k]? with
  |
   none =>
   have hkl : k = L.length := by
    rcases Nat.lt_or_ge k L.length with h | h
    · rw [List.getElem?_eq_getElem h] at hx; cases hx
    · omega
   subst hkl
   clear hx hk
   go_wp2_with fail
   go_ret
   exact ⟨rfl, hr⟩
  |
   some a =>
   have hkl : k < L.length := (List.getElem?_eq_some_iff.1 hx).1
   obtain ⟨y1, hy1, hs1⟩ := HRV.out k a hx
   obtain ⟨y2, hy2, hs2⟩ := HRU.out k a hx
   obtain ⟨b, off, rfl, hb, hc⟩ : ∃ b off, p = some ⟨b, off, none⟩ ∧ b < w.heap.size ∧ w.cell? ⟨b, off + k, none⟩ = some y1 := by
    obtain ⟨_, _, ⟨_, h0⟩ | ⟨b, off, cap, hv, hb, hc⟩⟩ := HV.out
    · omega
    ·
     injection hv with hp _ _
     exact ⟨b, off, hp, hb (by omega), hc k _ hy1⟩
   obtain ⟨b2, off2, rfl, hb2, hc2⟩ : ∃ b off, q = some ⟨b, off, none⟩ ∧ b < w.heap.size ∧ w.cell? ⟨b, off + k, none⟩ = some y2 := by
    obtain ⟨_, _, ⟨_, h0⟩ | ⟨b, off, cap, hv, hb, hc⟩⟩ := HU.out
    · omega
    ·
     injection hv with hp _ _
     exact ⟨b, off, hp, hb (by omega), hc k _ hy2⟩
   obtain ⟨z1, e1, rfl⟩ := hs1.len
   obtain ⟨z2, e2, rfl⟩ := hs2.len
   have hkI : (k : Int) < (L.length : Int) := by omega
   have hkw : IntKind.i64.wrap ((k : Int) + 1) = ((k + 1 : Nat) : Int) := by rw [IntWalk.i64_in _ (by omega)]; omega
   have hmx2 := hs1.2.1
   unfold maxLen at hmx2
   have HS1 := Lib.hid hs1
   have HS2 := Lib.hid hs2
   have HLT := Lib.hid hkl
   have HR := Lib.hid hr
   have HC := Lib.hid hc
   have HC2 := Lib.hid hc2
   have hcr := hr.cell hc
   have hcr2 := hr.cell hc2
   have hbr : b < wr.heap.size := Nat.lt_of_lt_of_le hb hr.size
   have hbr2 : b2 < wr.heap.size := Nat.lt_of_lt_of_le hb2 hr.size
   clear hx hkl hk hr hs1 hs2 hy1 hy2 hc hc2
   go_wp2_with fail
   refine wp_region_G (.take 0 (.take 1 (.take 2 (.take 3 (.take 4 (.take 5 (.take 6 (.take 7 (.take 8 (.take 9 (.take 10 .nil))))))))))) (by kernel_rfl) (by kernel_rfl) ?_
   simp only [pickOps, nthOp]
   intro wq hG
   repeat (first | (refine wpG_skip_take ?_ ?_; (focus rfl); try simp only [Act.put, List.setIfInBounds_toArray, List.set_cons_zero, List.set_cons_succ]) | (refine wpG_skip_run ?_ ?_; (focus rfl); try simp only [Act.put, List.setIfInBounds_toArray, List.set_cons_zero, List.set_cons_succ]) | (refine wpG_take ?_ ?_; (focus rfl); apply Exists.intro; refine ⟨fun w' hw' => ?_, ?_⟩; (focus (have hc := Gr.cells hw'; go_simp; (try rfl); done)); try simp only [Act.put, List.setIfInBounds_toArray, List.set_cons_zero, List.set_cons_succ]))
   refine wpG_done ?_
   clear hcr hcr2
   have HRQ := Lib.hid (HR.out.trans hG)
   clear hG
   go_wp2_with fail
   go_loopw [6] (fun i wr => ∃ j : Nat, j ≤ a.length ∧ i = .int .i64 (j : Int) ∧ Gr w wr) (fun i _ => a.length - (intOf i).toNat)
   case atStart => exact ⟨0, Nat.zero_le _, rfl, HRQ.out⟩
   case round =>
    obtain ⟨j, hj, rfl, hr⟩ := hrel
    have hcr := hr.cell HC.out
    have hcr2 := hr.cell HC2.out
    have hbr : b < wr.heap.size := Nat.lt_of_lt_of_le hb hr.size
    have hbr2 : b2 < wr.heap.size := Nat.lt_of_lt_of_le hb2 hr.size
    cases hx : a[j]? with
    |
     none =>
     have hkl : j = a.length := by
      rcases Nat.lt_or_ge j a.length with h | h
      · rw [List.getElem?_eq_getElem h] at hx; cases hx
      · omega
     subst hkl
     clear hx hj
     go_wp2_with fail
     go_roundw
     case rel => exact ⟨k + 1, by have := HLT.out; omega, by go_num, hr⟩
     case measure => have := HLT.out; simp [intOf]; omega
    |
     some x =>
     have hjl : j < a.length := (List.getElem?_eq_some_iff.1 hx).1
     obtain ⟨b3, o3, rfl, hb3, hd1, hd2⟩ := pr_at (HS1.out.later hr) hx
     obtain ⟨b4, o4, rfl, hb4, hd3, hd4⟩ := pr_at (HS2.out.later hr) hx
     obtain ⟨x1, x2⟩ := x
     dsimp only at hd1 hd2 hd3 hd4
     have hjI : (j : Int) < (a.length : Int) := by omega
     have hjw : IntKind.i64.wrap ((j : Int) + 1) = ((j + 1 : Nat) : Int) := by rw [IntWalk.i64_in _ (by omega)]; omega
     have HJ := Lib.hid hjl
     have HR2 := Lib.hid hr
     clear hx hjl hj hr
     go_wp2_with fail
     refine wp_region_G (.take 0 (.take 1 (.take 2 (.take 3 (.take 4 (.take 5 (.take 6 (.take 7 (.take 8 (.take 9 (.take 10 (.take 11 (.take 12 (.take 13 (.take 14 .nil))))))))))))))) (by kernel_rfl) (by kernel_rfl) ?_
     simp only [pickOps, nthOp]
     intro wq hG
     repeat (first | (refine wpG_skip_take ?_ ?_; (focus rfl); try simp only [Act.put, List.setIfInBounds_toArray, List.set_cons_zero, List.set_cons_succ]) | (refine wpG_skip_run ?_ ?_; (focus rfl); try simp only [Act.put, List.setIfInBounds_toArray, List.set_cons_zero, List.set_cons_succ]) | (refine wpG_take ?_ ?_; (focus rfl); apply Exists.intro; refine ⟨fun w' hw' => ?_, ?_⟩; (focus (have hc := Gr.cells hw'; go_simp; (try rfl); done)); try simp only [Act.put, List.setIfInBounds_toArray, List.set_cons_zero, List.set_cons_succ]))
     refine wpG_done ?_
     clear hcr hcr2 hd1 hd2 hd3 hd4
     go_wp2_with fail
     go_roundw
     case rel => exact ⟨j + 1, by have := HJ.out; omega, by go_num, HR2.out.trans hG⟩
     case measure => have := HJ.out; simp [intOf]; omega
set_option maxRecDepth 100000 in
set_option maxHeartbeats 8000000 in
theorem
    eqRows6 (L : List (List Nat)) (v u : Value) (w : World) (hv : RowsN w v L) (hu : RowsN w u L) :
  Calls Tryz.prog 47 #[v, u] w fun e w' => e = .returned (.bool true) ∧ Gr w w' := by
 obtain ⟨p, cap, rfl⟩ : ∃ p c, v = .slice p L.length c := by
  obtain ⟨vs, _, h, _⟩ := hv.sl
  exact h.len
 obtain ⟨q, caq, rfl⟩ : ∃ p c, u = .slice p L.length c := by
  obtain ⟨vs, _, h, _⟩ := hu.sl
  exact h.len
 have hmax : L.length ≤ 9223372036854775807 := by
  obtain ⟨vs, _, h, _⟩ := hv.sl
  exact h.2.1
 have HV := Lib.hid hv
 have HU := Lib.hid hu
 obtain ⟨n, hn⟩ : ∃ n, L.length = n := ⟨_, rfl⟩
 have HN := Lib.hid hn
 rw [hn] at hmax ⊢
 clear hv hu hn
 go_enter Tryz.func47, Tryz.ntmps47
 go_wp2_with fail
 go_loopw [5] (fun i wr => ∃ k : Nat, k ≤ n ∧ i = .int .i64 (k : Int) ∧ Gr w wr) (fun i _ => n - (intOf i).toNat)
 case atStart => exact ⟨0, Nat.zero_le _, rfl, Gr.refl _⟩
 case round =>
  obtain ⟨k, hk, rfl, hr⟩ := hrel
  rcases Nat.lt_or_ge k n with hkn | hkn
  ·
   have hkI : (k : Int) < (n : Int) := by omega
   obtain ⟨a, hx⟩ : ∃ x, L[k]? = some x := ⟨_, List.getElem?_eq_getElem (by rw [HN.out]; exact hkn)⟩
   obtain ⟨b, off, y1, rfl, hb, hc, hs1⟩ := HV.out.row hx
   obtain ⟨b2, off2, y2, rfl, hb2, hc2, hs2⟩ := HU.out.row hx
   have HE := Lib.hid (fun (W : World) (hG : Gr w W) => eqInts_same (a.map (fun n : Nat => (n : Int))) y1 y2 W (by rw [List.length_map, ← natV_vI]; exact hs1.later hG) (by rw [List.length_map, ← natV_vI]; exact hs2.later hG))
   obtain ⟨z1, e1, rfl⟩ := hs1.len
   obtain ⟨z2, e2, rfl⟩ := hs2.len
   obtain ⟨m, hm⟩ : ∃ m, a.length = m := ⟨_, rfl⟩
   rw [hm] at HE hc hc2
   have HLT := Lib.hid hkn
   have HR := Lib.hid hr
   have hcr := hr.cell hc
   have hcr2 := hr.cell hc2
   have hbr : b < wr.heap.size := Nat.lt_of_lt_of_le hb hr.size
   have hbr2 : b2 < wr.heap.size := Nat.lt_of_lt_of_le hb2 hr.size
   clear hx hkn hk hr hs1 hs2 hc hc2 hm
   go_wp2_with fail
   refine wp_region_G (.take 0 (.take 1 (.take 2 (.take 3 (.take 4 (.take 5 (.take 6 (.take 7 (.run 8 false (.take 9 .nil)))))))))) (by kernel_rfl) (by kernel_rfl) ?_
   simp only [pickOps, nthOp]
   intro wq hG
   repeat (first | (refine wpG_skip_take ?_ ?_; (focus rfl); try simp only [Act.put, List.setIfInBounds_toArray, List.set_cons_zero, List.set_cons_succ]) | (refine wpG_skip_run ?_ ?_; (focus rfl); try simp only [Act.put, List.setIfInBounds_toArray, List.set_cons_zero, List.set_cons_succ]) | (refine wpG_take ?_ ?_; (focus rfl); apply Exists.intro; refine ⟨fun w' hw' => ?_, ?_⟩; (focus (have hc := Gr.cells hw'; go_simp; (try rfl); done)); try simp only [Act.put, List.setIfInBounds_toArray, List.set_cons_zero, List.set_cons_succ]) | (refine wpG_run ?_ (fun K hK => ?_); (focus rfl); go_simp; (first | (go_at_call 48; (with_reducible refine (HE.out _ (HR.out.trans hG)).mono ?_); rintro e w7 ⟨rfl, hb⟩)); (try dsimp only); replace hG := hG.trans hb; refine hK.out _ _ hG ?_; clear hK K hb; try simp only [Act.put, List.setIfInBounds_toArray, List.set_cons_zero, List.set_cons_succ]))
   all_goals
    refine wpG_done ?_
    clear hcr hcr2
    go_step
    go_wp2_with fail
    go_roundw
    case rel => exact ⟨k + 1, HLT.out, by go_num, HR.out.trans hG⟩
    case measure => have := HLT.out; simp [intOf]; omega
  ·
   have hkI : ¬ (k : Int) < (n : Int) := by omega
   clear hk hkn
   go_wp2_with fail
   go_ret
   exact ⟨rfl, hr⟩
structure NmsIn (w : World) (M : List ByteArray) (A : List (List Nat)) (O : List Nat) (C : List (List (Int × Int))) (v0 v1 v2 v3 : Value) : Prop where
 m : Sl w v0 1 M.length (M.map .string)
 a : RowsN w v1 A
 o : Sl w v2 1 O.length (O.map natV)
 c : StepsN w v3 C
theorem NmsIn.later {w w' : World} {M : List ByteArray} {A : List (List Nat)} {O : List Nat} {C : List (List (Int × Int))} {v0 v1 v2 v3 : Value} (h : NmsIn w M A O C v0 v1 v2 v3) (hG : Gr w w') : NmsIn w' M A O C v0 v1 v2 v3 := ⟨h.m.later hG, h.a.later hG, h.o.later hG, h.c.later hG⟩
theorem NmsIn.nil (w : World) : NmsIn w [] [] [] [] (.slice none 0 0) (.slice none 0 0) (.slice none 0 0) (.slice none 0 0) :=
 ⟨Sl.nil w 1, ⟨[], rfl, Sl.nil w 1, fun k r h => by simp at h⟩, Sl.nil w 1, ⟨[], rfl, Sl.nil w 1, fun k r h => by simp at h⟩⟩
set_option maxRecDepth 100000 in
set_option maxHeartbeats 8000000 in
theorem eqNames6 (M : List ByteArray) (A : List (List Nat)) (O : List Nat) (C : List (List (Int × Int))) (v0 v1 v2 v3 u0 u1 u2 u3 : Value) (w : World) (hv : NmsIn w M A O C v0 v1 v2 v3) (hu : NmsIn w M A O C u0 u1 u2 u3) :
  Calls Tryz.prog 14 #[.agg #[v0, v1, v2, v3], .agg #[u0, u1, u2, u3]] w fun e w' => e = .returned (.bool true) ∧ Gr w w' := by
 have eM : (M.map fun t => t.data.toList).map vS = M.map .string := by
  rw [List.map_map]
  congr 1
 have HE1 := Lib.hid (fun (W : World) (hG : Gr w W) => eqTexts_same (M.map fun t => t.data.toList) v0 u0 W (by rw [List.length_map, eM]; exact hv.m.later hG) (by rw [List.length_map, eM]; exact hu.m.later hG))
 have HE2 := Lib.hid (fun (W : World) (hG : Gr w W) => eqRows6 A v1 u1 W (hv.a.later hG) (hu.a.later hG))
 have HE3 := Lib.hid (fun (W : World) (hG : Gr w W) => eqInts_same (O.map (fun n : Nat => (n : Int))) v2 u2 W (by rw [List.length_map, ← natV_vI]; exact hv.o.later hG) (by rw [List.length_map, ← natV_vI]; exact hu.o.later hG))
 obtain ⟨rv, hl1, hs1, hr1⟩ := hv.c.sl
 obtain ⟨ru, hl2, hs2, hr2⟩ := hu.c.sl
 have HE4 := Lib.hid (fun (W : World) (hG : Gr w W) => eqSteps6 C rv ru v3 u3 W (hs1.later hG) (hs2.later hG) (fun k a h => by
  obtain ⟨u, h1, h2⟩ := hr1 k a h
  exact ⟨u, h1, h2.later hG⟩) (fun k a h => by
  obtain ⟨u, h1, h2⟩ := hr2 k a h
  exact ⟨u, h1, h2.later hG⟩))
 obtain ⟨p0, c0, rfl⟩ := hv.m.len
 obtain ⟨q0, d0, rfl⟩ := hu.m.len
 obtain ⟨p1, c1, rfl⟩ : ∃ p c, v1 = .slice p A.length c := by
  obtain ⟨vs, _, h, _⟩ := hv.a.sl
  exact h.len
 obtain ⟨q1, d1, rfl⟩ : ∃ p c, u1 = .slice p A.length c := by
  obtain ⟨vs, _, h, _⟩ := hu.a.sl
  exact h.len
 obtain ⟨p2, c2, rfl⟩ := hv.o.len
 obtain ⟨q2, d2, rfl⟩ := hu.o.len
 obtain ⟨p3, c3, rfl⟩ := hs1.len
 obtain ⟨q3, d3, rfl⟩ := hs2.len
 obtain ⟨n0, hn0⟩ : ∃ n, M.length = n := ⟨_, rfl⟩
 obtain ⟨n1, hn1⟩ : ∃ n, A.length = n := ⟨_, rfl⟩
 obtain ⟨n2, hn2⟩ : ∃ n, O.length = n := ⟨_, rfl⟩
 obtain ⟨n3, hn3⟩ : ∃ n, C.length = n := ⟨_, rfl⟩
 rw [hn0] at HE1
 rw [hn1] at HE2
 rw [hn2] at HE3
 rw [hn3] at HE4
 rw [hn0, hn1, hn2, hn3]
 clear hv hu hs1 hs2 hr1 hr2 hl1 hl2 eM hn0 hn1 hn2 hn3
 go_enter Tryz.func14, Tryz.ntmps14
 go_upto_region 1 with fail
 refine name_world (fun W hW => ?_)
 have xa : boxAt W w.heap.size [.slice p0 n0 c0, .slice p1 n1 c1, .slice p2 n2 c2, .slice p3 n3 c3] := by rw [hW]; exact (boxAt.new_atN _ _ _ rfl rfl).later (Gr.alloc _ _)
 have xb : boxAt W (w.heap.size + 1) [.slice q0 n0 d0, .slice q1 n1 d1, .slice q2 n2 d2, .slice q3 n3 d3] := by rw [hW]; exact boxAt.new_atN _ _ _ rfl (by simp)
 have hgW : Gr w W := by rw [hW]; exact (Gr.alloc _ _).trans (Gr.alloc _ _)
 clear hW
 obtain ⟨ba, hba⟩ : ∃ b, w.heap.size = b := ⟨_, rfl⟩
 obtain ⟨bb, hbb⟩ : ∃ b, ba + 1 = b := ⟨_, rfl⟩
 rw [hba] at xa xb
 rw [hbb] at xb
 simp only [hba, hbb]
 have XA := Lib.hid xa
 have XB := Lib.hid xb
 have HG0 := Lib.hid hgW
 clear xa xb hgW hba hbb
 have xa := XA.out
 have xb := XB.out
 obtain ⟨c_a0, c_a1, c_a2, c_a3, m_a0, m_a1, m_a2, m_a3, l_a⟩ := unb4 xa
 obtain ⟨c_b0, c_b1, c_b2, c_b3, m_b0, m_b1, m_b2, m_b3, l_b⟩ := unb4 xb
 go_wp2_with fail
 go_at_call 17
 (with_reducible refine (HE1.out W HG0.out).mono ?_); rintro e w1 ⟨rfl, hg1⟩
 have HG1 := Lib.hid (HG0.out.trans hg1)
 clear c_a0 c_a1 c_a2 c_a3 m_a0 m_a1 m_a2 m_a3 l_a
 clear c_b0 c_b1 c_b2 c_b3 m_b0 m_b1 m_b2 m_b3 l_b
 replace xa := xa.later hg1
 replace xb := xb.later hg1
 obtain ⟨c_a0, c_a1, c_a2, c_a3, m_a0, m_a1, m_a2, m_a3, l_a⟩ := unb4 xa
 obtain ⟨c_b0, c_b1, c_b2, c_b3, m_b0, m_b1, m_b2, m_b3, l_b⟩ := unb4 xb
 clear hg1
 go_wp2_with fail
 go_at_call 47
 (with_reducible refine (HE2.out w1 HG1.out).mono ?_); rintro e w2 ⟨rfl, hg2⟩
 have HG2 := Lib.hid (HG1.out.trans hg2)
 clear c_a0 c_a1 c_a2 c_a3 m_a0 m_a1 m_a2 m_a3 l_a
 clear c_b0 c_b1 c_b2 c_b3 m_b0 m_b1 m_b2 m_b3 l_b
 replace xa := xa.later hg2
 replace xb := xb.later hg2
 obtain ⟨c_a0, c_a1, c_a2, c_a3, m_a0, m_a1, m_a2, m_a3, l_a⟩ := unb4 xa
 obtain ⟨c_b0, c_b1, c_b2, c_b3, m_b0, m_b1, m_b2, m_b3, l_b⟩ := unb4 xb
 clear hg2
 go_wp2_with fail
 go_at_call 48
 (with_reducible refine (HE3.out w2 HG2.out).mono ?_); rintro e w3 ⟨rfl, hg3⟩
 have HG3 := Lib.hid (HG2.out.trans hg3)
 clear c_a0 c_a1 c_a2 c_a3 m_a0 m_a1 m_a2 m_a3 l_a
 clear c_b0 c_b1 c_b2 c_b3 m_b0 m_b1 m_b2 m_b3 l_b
 replace xa := xa.later hg3
 replace xb := xb.later hg3
 obtain ⟨c_a0, c_a1, c_a2, c_a3, m_a0, m_a1, m_a2, m_a3, l_a⟩ := unb4 xa
 obtain ⟨c_b0, c_b1, c_b2, c_b3, m_b0, m_b1, m_b2, m_b3, l_b⟩ := unb4 xb
 clear hg3
 go_wp2_with fail
 go_at_call 49
 (with_reducible refine (HE4.out w3 HG3.out).mono ?_); rintro e w4 ⟨rfl, hg4⟩
 go_wp2_with fail
 go_ret
 exact ⟨rfl, HG3.out.trans hg4⟩
end Go.Proofs.YtkkopdmemjncdaaGreatDoor
