/- bolterref0: EqTexts, EqInts, EqCuts, EqSteps, EqComb, EqTables of like ones. No condition. -/
import Derived.Test.YtcbfmajojkcibaaDoorPImgO
namespace Go.Proofs.YtcbfmajojkcibaaDoor
open Go Go.RowKit

set_option maxRecDepth 100000 in
set_option maxHeartbeats 4000000 in
theorem eqTexts17 (L : List (List UInt8)) (v u : Value) (w : World) (hv : Sl w v 1 L.length (L.map vS)) (hu : Sl w u 1 L.length (L.map vS)) :
    Calls Tryd.prog 48 #[v, u] w fun e w' => e = .returned (.bool true) ∧ Gr w w' := by
  have hmax := hv.2.1
  unfold maxLen at hmax
  obtain ⟨p, cap, rfl⟩ := hv.len
  obtain ⟨q, caq, rfl⟩ := hu.len
  have HV := Lib.hid hv
  have HU := Lib.hid hu
  clear hv hu
  go_enter Tryd.func48, Tryd.ntmps48
  go_wp2_with fail
  go_loopw [5] (fun i wr => ∃ k : Nat, k ≤ L.length ∧ i = .int .i64 (k : Int) ∧ Gr w wr) (fun i _ => L.length - (intOf i).toNat)
  case atStart => exact ⟨0, Nat.zero_le _, rfl, Gr.refl _⟩
  case round =>
    obtain ⟨k, hk, rfl, hr⟩ := hrel
    cases hx : L[k]? with
    | none =>
      have hkl : k = L.length := by
        rcases Nat.lt_or_ge k L.length with h | h
        · rw [List.getElem?_eq_getElem h] at hx; cases hx
        · omega
      subst hkl
      clear hx hk
      go_wp2_with fail
      go_ret
      exact ⟨rfl, hr⟩
    | some x =>
      have hkl : k < L.length := (List.getElem?_eq_some_iff.1 hx).1
      obtain ⟨b, off, rfl, hb, hc⟩ := str_at (HV.out.later hr) hx
      obtain ⟨b2, off2, rfl, hb2, hc2⟩ := str_at (HU.out.later hr) hx
      have hkI : (k : Int) < (L.length : Int) := by omega
      have hkw : IntKind.i64.wrap ((k : Int) + 1) = ((k + 1 : Nat) : Int) := by rw [IntWalk.i64_in _ (by omega)]; omega
      have HLT := Lib.hid hkl
      have HR := Lib.hid hr
      clear hx hkl hk hr
      go_wp2_with fail
      refine wp_region_G (.take 0 (.take 1 (.take 2 (.take 3 (.take 4 (.take 5 (.take 6 (.take 7 (.take 8 .nil))))))))) (by kernel_rfl) (by kernel_rfl) ?_
      simp only [pickOps, nthOp]
      intro wq hG
      repeat (first | (refine wpG_skip_take ?_ ?_; (focus rfl); try simp only [Act.put, List.setIfInBounds_toArray, List.set_cons_zero, List.set_cons_succ]) | (refine wpG_skip_run ?_ ?_; (focus rfl); try simp only [Act.put, List.setIfInBounds_toArray, List.set_cons_zero, List.set_cons_succ]) | (refine wpG_take ?_ ?_; (focus rfl); apply Exists.intro; refine ⟨fun w' hw' => ?_, ?_⟩; (focus (have hc := Gr.cells hw'; go_simp; (try rfl); done)); try simp only [Act.put, List.setIfInBounds_toArray, List.set_cons_zero, List.set_cons_succ]))
      refine wpG_done ?_
      go_wp2_with fail
      go_roundw
      case rel => exact ⟨k + 1, by have := HLT.out; omega, by go_num, HR.out.trans hG⟩
      case measure => have := HLT.out; simp [intOf]; omega

set_option maxRecDepth 100000 in
set_option maxHeartbeats 4000000 in
theorem eqInts17 (L : List Int) (v u : Value) (w : World) (hv : Sl w v 1 L.length (L.map vI)) (hu : Sl w u 1 L.length (L.map vI)) :
    Calls Tryd.prog 51 #[v, u] w fun e w' => e = .returned (.bool true) ∧ Gr w w' := by
  have hmax := hv.2.1
  unfold maxLen at hmax
  obtain ⟨p, cap, rfl⟩ := hv.len
  obtain ⟨q, caq, rfl⟩ := hu.len
  have HV := Lib.hid hv
  have HU := Lib.hid hu
  clear hv hu
  go_enter Tryd.func51, Tryd.ntmps51
  go_wp2_with fail
  go_loopw [5] (fun i wr => ∃ k : Nat, k ≤ L.length ∧ i = .int .i64 (k : Int) ∧ Gr w wr) (fun i _ => L.length - (intOf i).toNat)
  case atStart => exact ⟨0, Nat.zero_le _, rfl, Gr.refl _⟩
  case round =>
    obtain ⟨k, hk, rfl, hr⟩ := hrel
    cases hx : L[k]? with
    | none =>
      have hkl : k = L.length := by
        rcases Nat.lt_or_ge k L.length with h | h
        · rw [List.getElem?_eq_getElem h] at hx; cases hx
        · omega
      subst hkl
      clear hx hk
      go_wp2_with fail
      go_ret
      exact ⟨rfl, hr⟩
    | some x =>
      have hkl : k < L.length := (List.getElem?_eq_some_iff.1 hx).1
      obtain ⟨b, off, rfl, hb, hc⟩ := int_at (HV.out.later hr) hx
      obtain ⟨b2, off2, rfl, hb2, hc2⟩ := int_at (HU.out.later hr) hx
      have hkI : (k : Int) < (L.length : Int) := by omega
      have hkw : IntKind.i64.wrap ((k : Int) + 1) = ((k + 1 : Nat) : Int) := by rw [IntWalk.i64_in _ (by omega)]; omega
      have HLT := Lib.hid hkl
      have HR := Lib.hid hr
      clear hx hkl hk hr
      go_wp2_with fail
      refine wp_region_G (.take 0 (.take 1 (.take 2 (.take 3 (.take 4 (.take 5 (.take 6 (.take 7 (.take 8 .nil))))))))) (by kernel_rfl) (by kernel_rfl) ?_
      simp only [pickOps, nthOp]
      intro wq hG
      repeat (first | (refine wpG_skip_take ?_ ?_; (focus rfl); try simp only [Act.put, List.setIfInBounds_toArray, List.set_cons_zero, List.set_cons_succ]) | (refine wpG_skip_run ?_ ?_; (focus rfl); try simp only [Act.put, List.setIfInBounds_toArray, List.set_cons_zero, List.set_cons_succ]) | (refine wpG_take ?_ ?_; (focus rfl); apply Exists.intro; refine ⟨fun w' hw' => ?_, ?_⟩; (focus (have hc := Gr.cells hw'; go_simp; (try rfl); done)); try simp only [Act.put, List.setIfInBounds_toArray, List.set_cons_zero, List.set_cons_succ]))
      refine wpG_done ?_
      go_wp2_with fail
      go_roundw
      case rel => exact ⟨k + 1, by have := HLT.out; omega, by go_num, HR.out.trans hG⟩
      case measure => have := HLT.out; simp [intOf]; omega

set_option maxRecDepth 100000 in
set_option maxHeartbeats 4000000 in
theorem eqCuts17 (L : List (Int × Int)) (v u : Value) (w : World) (hv : Sl w v 2 L.length (L.flatMap prC)) (hu : Sl w u 2 L.length (L.flatMap prC)) :
    Calls Tryd.prog 49 #[v, u] w fun e w' => e = .returned (.bool true) ∧ Gr w w' := by
  have hmax := hv.2.1
  unfold maxLen at hmax
  obtain ⟨p, cap, rfl⟩ := hv.len
  obtain ⟨q, caq, rfl⟩ := hu.len
  have HV := Lib.hid hv
  have HU := Lib.hid hu
  clear hv hu
  go_enter Tryd.func49, Tryd.ntmps49
  go_wp2_with fail
  go_loopw [5] (fun i wr => ∃ k : Nat, k ≤ L.length ∧ i = .int .i64 (k : Int) ∧ Gr w wr) (fun i _ => L.length - (intOf i).toNat)
  case atStart => exact ⟨0, Nat.zero_le _, rfl, Gr.refl _⟩
  case round =>
    obtain ⟨k, hk, rfl, hr⟩ := hrel
    cases hx : L[k]? with
    | none =>
      have hkl : k = L.length := by
        rcases Nat.lt_or_ge k L.length with h | h
        · rw [List.getElem?_eq_getElem h] at hx; cases hx
        · omega
      subst hkl
      clear hx hk
      go_wp2_with fail
      go_ret
      exact ⟨rfl, hr⟩
    | some x =>
      have hkl : k < L.length := (List.getElem?_eq_some_iff.1 hx).1
      obtain ⟨b, off, rfl, hb, hc, hd⟩ := pr_at (HV.out.later hr) hx
      obtain ⟨b2, off2, rfl, hb2, hc2, hd2⟩ := pr_at (HU.out.later hr) hx
      obtain ⟨x1, x2⟩ := x
      dsimp only at hc hd hc2 hd2
      have hkI : (k : Int) < (L.length : Int) := by omega
      have hkw : IntKind.i64.wrap ((k : Int) + 1) = ((k + 1 : Nat) : Int) := by rw [IntWalk.i64_in _ (by omega)]; omega
      have HLT := Lib.hid hkl
      have HR := Lib.hid hr
      clear hx hkl hk hr
      go_wp2_with fail
      refine wp_region_G (.take 0 (.take 1 (.take 2 (.take 3 (.take 4 (.take 5 (.take 6 (.take 7 (.take 8 .nil))))))))) (by kernel_rfl) (by kernel_rfl) ?_
      simp only [pickOps, nthOp]
      intro wq hG
      repeat (first | (refine wpG_skip_take ?_ ?_; (focus rfl); try simp only [Act.put, List.setIfInBounds_toArray, List.set_cons_zero, List.set_cons_succ]) | (refine wpG_skip_run ?_ ?_; (focus rfl); try simp only [Act.put, List.setIfInBounds_toArray, List.set_cons_zero, List.set_cons_succ]) | (refine wpG_take ?_ ?_; (focus rfl); apply Exists.intro; refine ⟨fun w' hw' => ?_, ?_⟩; (focus (have hc := Gr.cells hw'; go_simp; (try rfl); done)); try simp only [Act.put, List.setIfInBounds_toArray, List.set_cons_zero, List.set_cons_succ]))
      refine wpG_done ?_
      go_wp2_with fail
      go_roundw
      case rel => exact ⟨k + 1, by have := HLT.out; omega, by go_num, HR.out.trans hG⟩
      case measure => have := HLT.out; simp [intOf]; omega


set_option maxRecDepth 100000 in
set_option maxHeartbeats 4000000 in
theorem eqComb17 (t : Tb) (v u : TbV) (w : World) (hv : TbIn w t v) (hu : TbIn w t u) : Calls Tryd.prog 52 #[.agg #[v.base, v.dflt, v.next, v.check], .agg #[u.base, u.dflt, u.next, u.check]] w fun e w' => e = .returned (.bool true) ∧ Gr w w' := by
  have E1 := Lib.hid (fun w' (hg : Gr w w') => eqInts17 t.base v.base u.base w' (hv.base.later hg) (hu.base.later hg))
  have E2 := Lib.hid (fun w' (hg : Gr w w') => eqInts17 t.dflt v.dflt u.dflt w' (hv.dflt.later hg) (hu.dflt.later hg))
  have E3 := Lib.hid (fun w' (hg : Gr w w') => eqInts17 t.next v.next u.next w' (hv.next.later hg) (hu.next.later hg))
  have E4 := Lib.hid (fun w' (hg : Gr w w') => eqInts17 t.check v.check u.check w' (hv.check.later hg) (hu.check.later hg))
  obtain ⟨p1, c1, h1⟩ := hv.base.len
  obtain ⟨p2, c2, h2⟩ := hv.dflt.len
  obtain ⟨p3, c3, h3⟩ := hv.next.len
  obtain ⟨p4, c4, h4⟩ := hv.check.len
  obtain ⟨q1, d1, k1⟩ := hu.base.len
  obtain ⟨q2, d2, k2⟩ := hu.dflt.len
  obtain ⟨q3, d3, k3⟩ := hu.next.len
  obtain ⟨q4, d4, k4⟩ := hu.check.len
  rw [h1, k1] at E1
  rw [h2, k2] at E2
  rw [h3, k3] at E3
  rw [h4, k4] at E4
  rw [h1, h2, h3, h4, k1, k2, k3, k4]
  clear hv hu h1 h2 h3 h4 k1 k2 k3 k4
  generalize t.base.length = n1 at *
  generalize t.dflt.length = n2 at *
  generalize t.next.length = n3 at *
  generalize t.check.length = n4 at *
  go_enter Tryd.func52, Tryd.ntmps52
  go_wp2_with fail
  refine name_calls (fun W0 hW0 => ?_)
  have hg : Gr w W0 := by rw [hW0]; exact (Gr.alloc _ _).trans (Gr.alloc _ _)
  have xa : boxAt W0 w.heap.size [.slice p1 n1 c1, .slice p2 n2 c2, .slice p3 n3 c3, .slice p4 n4 c4] := by rw [hW0]; exact (boxAt.new_at [.slice p1 n1 c1, .slice p2 n2 c2, .slice p3 n3 c3, .slice p4 n4 c4] _ _ rfl rfl).later (Gr.alloc _ _)
  have xb : boxAt W0 (w.heap.size + 1) [.slice q1 n1 d1, .slice q2 n2 d2, .slice q3 n3 d3, .slice q4 n4 d4] := by rw [hW0]; exact boxAt.new_at [.slice q1 n1 d1, .slice q2 n2 d2, .slice q3 n3 d3, .slice q4 n4 d4] _ _ rfl (by simp)
  clear hW0
  go_at_call 51
  (with_reducible refine (E1.out W0 hg).mono ?_); rintro e w1 ⟨rfl, hb⟩
  replace hg := hg.trans hb
  replace xa := xa.later hb
  replace xb := xb.later hb
  clear hb
  have c_e0 := xa.cell 0 _ rfl
  have c_e1 := xa.cell 1 _ rfl
  have c_e2 := xa.cell 2 _ rfl
  have c_e3 := xa.cell 3 _ rfl
  have m_e0 := xa.mark 0 _ rfl
  have m_e1 := xa.mark 1 _ rfl
  have m_e2 := xa.mark 2 _ rfl
  have m_e3 := xa.mark 3 _ rfl
  have l_e := xa.lt (Nat.succ_pos _)
  have c_f0 := xb.cell 0 _ rfl
  have c_f1 := xb.cell 1 _ rfl
  have c_f2 := xb.cell 2 _ rfl
  have c_f3 := xb.cell 3 _ rfl
  have m_f0 := xb.mark 0 _ rfl
  have m_f1 := xb.mark 1 _ rfl
  have m_f2 := xb.mark 2 _ rfl
  have m_f3 := xb.mark 3 _ rfl
  have l_f := xb.lt (Nat.succ_pos _)
  go_wp2_with fail
  clear c_e0 c_e1 c_e2 c_e3 m_e0 m_e1 m_e2 m_e3 l_e
  clear c_f0 c_f1 c_f2 c_f3 m_f0 m_f1 m_f2 m_f3 l_f
  go_at_call 51
  (with_reducible refine (E2.out w1 hg).mono ?_); rintro e w2 ⟨rfl, hb⟩
  replace hg := hg.trans hb
  replace xa := xa.later hb
  replace xb := xb.later hb
  clear hb
  have c_e0 := xa.cell 0 _ rfl
  have c_e1 := xa.cell 1 _ rfl
  have c_e2 := xa.cell 2 _ rfl
  have c_e3 := xa.cell 3 _ rfl
  have m_e0 := xa.mark 0 _ rfl
  have m_e1 := xa.mark 1 _ rfl
  have m_e2 := xa.mark 2 _ rfl
  have m_e3 := xa.mark 3 _ rfl
  have l_e := xa.lt (Nat.succ_pos _)
  have c_f0 := xb.cell 0 _ rfl
  have c_f1 := xb.cell 1 _ rfl
  have c_f2 := xb.cell 2 _ rfl
  have c_f3 := xb.cell 3 _ rfl
  have m_f0 := xb.mark 0 _ rfl
  have m_f1 := xb.mark 1 _ rfl
  have m_f2 := xb.mark 2 _ rfl
  have m_f3 := xb.mark 3 _ rfl
  have l_f := xb.lt (Nat.succ_pos _)
  go_wp2_with fail
  clear c_e0 c_e1 c_e2 c_e3 m_e0 m_e1 m_e2 m_e3 l_e
  clear c_f0 c_f1 c_f2 c_f3 m_f0 m_f1 m_f2 m_f3 l_f
  go_at_call 51
  (with_reducible refine (E3.out w2 hg).mono ?_); rintro e w3 ⟨rfl, hb⟩
  replace hg := hg.trans hb
  replace xa := xa.later hb
  replace xb := xb.later hb
  clear hb
  have c_e0 := xa.cell 0 _ rfl
  have c_e1 := xa.cell 1 _ rfl
  have c_e2 := xa.cell 2 _ rfl
  have c_e3 := xa.cell 3 _ rfl
  have m_e0 := xa.mark 0 _ rfl
  have m_e1 := xa.mark 1 _ rfl
  have m_e2 := xa.mark 2 _ rfl
  have m_e3 := xa.mark 3 _ rfl
  have l_e := xa.lt (Nat.succ_pos _)
  have c_f0 := xb.cell 0 _ rfl
  have c_f1 := xb.cell 1 _ rfl
  have c_f2 := xb.cell 2 _ rfl
  have c_f3 := xb.cell 3 _ rfl
  have m_f0 := xb.mark 0 _ rfl
  have m_f1 := xb.mark 1 _ rfl
  have m_f2 := xb.mark 2 _ rfl
  have m_f3 := xb.mark 3 _ rfl
  have l_f := xb.lt (Nat.succ_pos _)
  go_wp2_with fail
  clear c_e0 c_e1 c_e2 c_e3 m_e0 m_e1 m_e2 m_e3 l_e
  clear c_f0 c_f1 c_f2 c_f3 m_f0 m_f1 m_f2 m_f3 l_f
  go_at_call 51
  (with_reducible refine (E4.out w3 hg).mono ?_); rintro e w4 ⟨rfl, hb⟩
  replace hg := hg.trans hb
  replace xa := xa.later hb
  replace xb := xb.later hb
  clear hb
  have c_e0 := xa.cell 0 _ rfl
  have c_e1 := xa.cell 1 _ rfl
  have c_e2 := xa.cell 2 _ rfl
  have c_e3 := xa.cell 3 _ rfl
  have m_e0 := xa.mark 0 _ rfl
  have m_e1 := xa.mark 1 _ rfl
  have m_e2 := xa.mark 2 _ rfl
  have m_e3 := xa.mark 3 _ rfl
  have l_e := xa.lt (Nat.succ_pos _)
  have c_f0 := xb.cell 0 _ rfl
  have c_f1 := xb.cell 1 _ rfl
  have c_f2 := xb.cell 2 _ rfl
  have c_f3 := xb.cell 3 _ rfl
  have m_f0 := xb.mark 0 _ rfl
  have m_f1 := xb.mark 1 _ rfl
  have m_f2 := xb.mark 2 _ rfl
  have m_f3 := xb.mark 3 _ rfl
  have l_f := xb.lt (Nat.succ_pos _)
  go_wp2_with fail
  clear c_e0 c_e1 c_e2 c_e3 m_e0 m_e1 m_e2 m_e3 l_e
  clear c_f0 c_f1 c_f2 c_f3 m_f0 m_f1 m_f2 m_f3 l_f
  go_ret
  exact ⟨rfl, hg⟩

set_option maxRecDepth 100000 in
set_option maxHeartbeats 8000000 in
/-- Rows of steps that are alike. -/
theorem eqSteps17 (L : List (List (Int × Int))) (rv ru : List Value) (v u : Value) (w : World) (hv : Sl w v 1 L.length rv) (hu : Sl w u 1 L.length ru)
    (hrv : ∀ (k : Nat) (a : List (Int × Int)), L[k]? = some a → ∃ u, rv[k]? = some u ∧ Sl w u 2 a.length (a.flatMap prC)) (hru : ∀ (k : Nat) (a : List (Int × Int)), L[k]? = some a → ∃ u, ru[k]? = some u ∧ Sl w u 2 a.length (a.flatMap prC)) :
    Calls Tryd.prog 50 #[v, u] w fun e w' => e = .returned (.bool true) ∧ Gr w w' := by
  have hmax := hv.2.1
  unfold maxLen at hmax
  obtain ⟨p, cap, rfl⟩ := hv.len
  obtain ⟨q, caq, rfl⟩ := hu.len
  have HV := Lib.hid hv
  have HU := Lib.hid hu
  have HRV := Lib.hid hrv
  have HRU := Lib.hid hru
  clear hv hu hrv hru
  go_enter Tryd.func50, Tryd.ntmps50
  go_wp2_with fail
  go_loopw [5, 6] (fun i _ wr => ∃ k : Nat, k ≤ L.length ∧ i = .int .i64 (k : Int) ∧ Gr w wr) (fun i _ _ => L.length - (intOf i).toNat)
  case atStart => exact ⟨0, Nat.zero_le _, rfl, Gr.refl _⟩
  case round =>
    obtain ⟨k, hk, rfl, hr⟩ := hrel
    cases hx : L[k]? with
    | none =>
      have hkl : k = L.length := by
        rcases Nat.lt_or_ge k L.length with h | h
        · rw [List.getElem?_eq_getElem h] at hx; cases hx
        · omega
      subst hkl
      clear hx hk
      go_wp2_with fail
      go_ret
      exact ⟨rfl, hr⟩
    | some a =>
      have hkl : k < L.length := (List.getElem?_eq_some_iff.1 hx).1
      obtain ⟨y1, hy1, hs1⟩ := HRV.out k a hx
      obtain ⟨y2, hy2, hs2⟩ := HRU.out k a hx
      obtain ⟨b, off, rfl, hb, hc⟩ : ∃ b off, p = some ⟨b, off, none⟩ ∧ b < w.heap.size ∧ w.cell? ⟨b, off + k, none⟩ = some y1 := by
        obtain ⟨_, _, ⟨_, h0⟩ | ⟨b, off, cap, hv, hb, hc⟩⟩ := HV.out
        · omega
        · injection hv with hp _ _
          exact ⟨b, off, hp, hb (by omega), hc k _ hy1⟩
      obtain ⟨b2, off2, rfl, hb2, hc2⟩ : ∃ b off, q = some ⟨b, off, none⟩ ∧ b < w.heap.size ∧ w.cell? ⟨b, off + k, none⟩ = some y2 := by
        obtain ⟨_, _, ⟨_, h0⟩ | ⟨b, off, cap, hv, hb, hc⟩⟩ := HU.out
        · omega
        · injection hv with hp _ _
          exact ⟨b, off, hp, hb (by omega), hc k _ hy2⟩
      obtain ⟨z1, e1, rfl⟩ := hs1.len
      obtain ⟨z2, e2, rfl⟩ := hs2.len
      have hkI : (k : Int) < (L.length : Int) := by omega
      have hkw : IntKind.i64.wrap ((k : Int) + 1) = ((k + 1 : Nat) : Int) := by rw [IntWalk.i64_in _ (by omega)]; omega
      have hmx2 := hs1.2.1
      unfold maxLen at hmx2
      have HS1 := Lib.hid hs1
      have HS2 := Lib.hid hs2
      have HLT := Lib.hid hkl
      have HR := Lib.hid hr
      have HC := Lib.hid hc
      have HC2 := Lib.hid hc2
      have hcr := hr.cell hc
      have hcr2 := hr.cell hc2
      have hbr : b < wr.heap.size := Nat.lt_of_lt_of_le hb hr.size
      have hbr2 : b2 < wr.heap.size := Nat.lt_of_lt_of_le hb2 hr.size
      clear hx hkl hk hr hs1 hs2 hy1 hy2 hc hc2
      go_wp2_with fail
      refine wp_region_G (.take 0 (.take 1 (.take 2 (.take 3 (.take 4 (.take 5 (.take 6 (.take 7 (.take 8 (.take 9 (.take 10 .nil))))))))))) (by kernel_rfl) (by kernel_rfl) ?_
      simp only [pickOps, nthOp]
      intro wq hG
      repeat (first | (refine wpG_skip_take ?_ ?_; (focus rfl); try simp only [Act.put, List.setIfInBounds_toArray, List.set_cons_zero, List.set_cons_succ]) | (refine wpG_skip_run ?_ ?_; (focus rfl); try simp only [Act.put, List.setIfInBounds_toArray, List.set_cons_zero, List.set_cons_succ]) | (refine wpG_take ?_ ?_; (focus rfl); apply Exists.intro; refine ⟨fun w' hw' => ?_, ?_⟩; (focus (have hc := Gr.cells hw'; go_simp; (try rfl); done)); try simp only [Act.put, List.setIfInBounds_toArray, List.set_cons_zero, List.set_cons_succ]))
      refine wpG_done ?_
      clear hcr hcr2
      have HRQ := Lib.hid (HR.out.trans hG)
      clear hG
      go_wp2_with fail
      go_loopw [6] (fun i wr => ∃ j : Nat, j ≤ a.length ∧ i = .int .i64 (j : Int) ∧ Gr w wr) (fun i _ => a.length - (intOf i).toNat)
      case atStart => exact ⟨0, Nat.zero_le _, rfl, HRQ.out⟩
      case round =>
        obtain ⟨j, hj, rfl, hr⟩ := hrel
        have hcr := hr.cell HC.out
        have hcr2 := hr.cell HC2.out
        have hbr : b < wr.heap.size := Nat.lt_of_lt_of_le hb hr.size
        have hbr2 : b2 < wr.heap.size := Nat.lt_of_lt_of_le hb2 hr.size
        cases hx : a[j]? with
        | none =>
          have hkl : j = a.length := by
            rcases Nat.lt_or_ge j a.length with h | h
            · rw [List.getElem?_eq_getElem h] at hx; cases hx
            · omega
          subst hkl
          clear hx hj
          go_wp2_with fail
          go_roundw
          case rel => exact ⟨k + 1, by have := HLT.out; omega, by go_num, hr⟩
          case measure => have := HLT.out; simp [intOf]; omega
        | some x =>
          have hjl : j < a.length := (List.getElem?_eq_some_iff.1 hx).1
          obtain ⟨b3, o3, rfl, hb3, hd1, hd2⟩ := pr_at (HS1.out.later hr) hx
          obtain ⟨b4, o4, rfl, hb4, hd3, hd4⟩ := pr_at (HS2.out.later hr) hx
          obtain ⟨x1, x2⟩ := x
          dsimp only at hd1 hd2 hd3 hd4
          have hjI : (j : Int) < (a.length : Int) := by omega
          have hjw : IntKind.i64.wrap ((j : Int) + 1) = ((j + 1 : Nat) : Int) := by rw [IntWalk.i64_in _ (by omega)]; omega
          have HJ := Lib.hid hjl
          have HR2 := Lib.hid hr
          clear hx hjl hj hr
          go_wp2_with fail
          refine wp_region_G (.take 0 (.take 1 (.take 2 (.take 3 (.take 4 (.take 5 (.take 6 (.take 7 (.take 8 (.take 9 (.take 10 (.take 11 (.take 12 (.take 13 (.take 14 .nil))))))))))))))) (by kernel_rfl) (by kernel_rfl) ?_
          simp only [pickOps, nthOp]
          intro wq hG
          repeat (first | (refine wpG_skip_take ?_ ?_; (focus rfl); try simp only [Act.put, List.setIfInBounds_toArray, List.set_cons_zero, List.set_cons_succ]) | (refine wpG_skip_run ?_ ?_; (focus rfl); try simp only [Act.put, List.setIfInBounds_toArray, List.set_cons_zero, List.set_cons_succ]) | (refine wpG_take ?_ ?_; (focus rfl); apply Exists.intro; refine ⟨fun w' hw' => ?_, ?_⟩; (focus (have hc := Gr.cells hw'; go_simp; (try rfl); done)); try simp only [Act.put, List.setIfInBounds_toArray, List.set_cons_zero, List.set_cons_succ]))
          refine wpG_done ?_
          clear hcr hcr2 hd1 hd2 hd3 hd4
          go_wp2_with fail
          go_roundw
          case rel => exact ⟨j + 1, by have := HJ.out; omega, by go_num, HR2.out.trans hG⟩
          case measure => have := HJ.out; simp [intOf]; omega

set_option maxRecDepth 100000 in
set_option maxHeartbeats 8000000 in
theorem eqTables17 (t : Tb) (v u : TbV) (w : World) (hv : TbIn w t v) (hu : TbIn w t u) : Calls Tryd.prog 16 #[tbV t v, tbV t u] w fun e w' => e = .returned (.bool true) ∧ Gr w w' := by
  have E1 := Lib.hid (fun w' (hg : Gr w w') => eqTexts17 t.modes v.modes u.modes w' (hv.modes.later hg) (hu.modes.later hg))
  have E2 := Lib.hid (fun w' (hg : Gr w w') => eqTexts17 t.labels v.labels u.labels w' (hv.labels.later hg) (hu.labels.later hg))
  have E3 := Lib.hid (fun w' (hg : Gr w w') => eqCuts17 t.cuts v.cuts u.cuts w' (hv.cuts.later hg) (hu.cuts.later hg))
  have E4 := Lib.hid (fun w' (hg : Gr w w') => eqSteps17 t.acts v.rows u.rows v.acts u.acts w' (hv.acts.later hg) (hu.acts.later hg) (hv.later hg).rows (hu.later hg).rows)
  have E5 := Lib.hid (fun w' (hg : Gr w w') => eqInts17 t.classes v.classes u.classes w' (hv.classes.later hg) (hu.classes.later hg))
  have E6 := Lib.hid (fun w' (hg : Gr w w') => eqInts17 t.starts v.starts u.starts w' (hv.starts.later hg) (hu.starts.later hg))
  have E7 := Lib.hid (fun w' (hg : Gr w w') => eqInts17 t.label v.label u.label w' (hv.label.later hg) (hu.label.later hg))
  have E8 := Lib.hid (fun w' (hg : Gr w w') => eqComb17 t v u w' (hv.later hg) (hu.later hg))
  unfold tbV
  obtain ⟨p0, c0, h0⟩ := hv.modes.len
  obtain ⟨q0, d0, k0⟩ := hu.modes.len
  obtain ⟨p1, c1, h1⟩ := hv.labels.len
  obtain ⟨q1, d1, k1⟩ := hu.labels.len
  obtain ⟨p2, c2, h2⟩ := hv.cuts.len
  obtain ⟨q2, d2, k2⟩ := hu.cuts.len
  obtain ⟨p3, c3, h3⟩ := hv.acts.len
  obtain ⟨q3, d3, k3⟩ := hu.acts.len
  obtain ⟨p4, c4, h4⟩ := hv.classes.len
  obtain ⟨q4, d4, k4⟩ := hu.classes.len
  obtain ⟨p5, c5, h5⟩ := hv.starts.len
  obtain ⟨q5, d5, k5⟩ := hu.starts.len
  obtain ⟨p6, c6, h6⟩ := hv.label.len
  obtain ⟨q6, d6, k6⟩ := hu.label.len
  obtain ⟨p7, c7, h7⟩ := hv.base.len
  obtain ⟨q7, d7, k7⟩ := hu.base.len
  obtain ⟨p8, c8, h8⟩ := hv.dflt.len
  obtain ⟨q8, d8, k8⟩ := hu.dflt.len
  obtain ⟨p9, c9, h9⟩ := hv.next.len
  obtain ⟨q9, d9, k9⟩ := hu.next.len
  obtain ⟨p10, c10, h10⟩ := hv.check.len
  obtain ⟨q10, d10, k10⟩ := hu.check.len
  rw [h0, k0] at E1
  rw [h1, k1] at E2
  rw [h2, k2] at E3
  rw [h3, k3] at E4
  rw [h4, k4] at E5
  rw [h5, k5] at E6
  rw [h6, k6] at E7
  rw [h7, h8, h9, h10, k7, k8, k9, k10] at E8
  rw [h0, k0, h1, k1, h2, k2, h3, k3, h4, k4, h5, k5, h6, k6, h7, k7, h8, k8, h9, k9, h10, k10]
  clear hv hu h0 k0 h1 k1 h2 k2 h3 k3 h4 k4 h5 k5 h6 k6 h7 k7 h8 k8 h9 k9 h10 k10
  generalize t.modes.length = n0 at *
  generalize t.labels.length = n1 at *
  generalize t.cuts.length = n2 at *
  generalize t.acts.length = n3 at *
  generalize t.classes.length = n4 at *
  generalize t.starts.length = n5 at *
  generalize t.label.length = n6 at *
  generalize t.base.length = n7 at *
  generalize t.dflt.length = n8 at *
  generalize t.next.length = n9 at *
  generalize t.check.length = n10 at *
  generalize t.count = co at *
  go_enter Tryd.func16, Tryd.ntmps16
  go_wp2_with fail
  refine name_calls (fun W0 hW0 => ?_)
  have hg : Gr w W0 := by rw [hW0]; exact (Gr.alloc _ _).trans (Gr.alloc _ _)
  have xa : boxAt W0 w.heap.size [.slice p0 n0 c0, .slice p1 n1 c1, .slice p2 n2 c2, .slice p3 n3 c3, .slice p4 n4 c4, .int .i64 co, .slice p5 n5 c5, .slice p6 n6 c6, .slice p7 n7 c7, .slice p8 n8 c8, .slice p9 n9 c9, .slice p10 n10 c10] := by rw [hW0]; exact (boxAt.new_at [.slice p0 n0 c0, .slice p1 n1 c1, .slice p2 n2 c2, .slice p3 n3 c3, .slice p4 n4 c4, .int .i64 co, .slice p5 n5 c5, .slice p6 n6 c6, .slice p7 n7 c7, .slice p8 n8 c8, .slice p9 n9 c9, .slice p10 n10 c10] _ _ rfl rfl).later (Gr.alloc _ _)
  have xb : boxAt W0 (w.heap.size + 1) [.slice q0 n0 d0, .slice q1 n1 d1, .slice q2 n2 d2, .slice q3 n3 d3, .slice q4 n4 d4, .int .i64 co, .slice q5 n5 d5, .slice q6 n6 d6, .slice q7 n7 d7, .slice q8 n8 d8, .slice q9 n9 d9, .slice q10 n10 d10] := by rw [hW0]; exact boxAt.new_at [.slice q0 n0 d0, .slice q1 n1 d1, .slice q2 n2 d2, .slice q3 n3 d3, .slice q4 n4 d4, .int .i64 co, .slice q5 n5 d5, .slice q6 n6 d6, .slice q7 n7 d7, .slice q8 n8 d8, .slice q9 n9 d9, .slice q10 n10 d10] _ _ rfl (by simp)
  clear hW0
  go_at_call 48
  (with_reducible refine (E1.out W0 hg).mono ?_); rintro e w1 ⟨rfl, hb⟩
  replace hg := hg.trans hb
  replace xa := xa.later hb
  replace xb := xb.later hb
  clear hb
  have c_e0 := xa.cell 0 _ rfl
  have c_e1 := xa.cell 1 _ rfl
  have c_e2 := xa.cell 2 _ rfl
  have c_e3 := xa.cell 3 _ rfl
  have c_e4 := xa.cell 4 _ rfl
  have c_e5 := xa.cell 5 _ rfl
  have c_e6 := xa.cell 6 _ rfl
  have c_e7 := xa.cell 7 _ rfl
  have c_e8 := xa.cell 8 _ rfl
  have c_e9 := xa.cell 9 _ rfl
  have c_e10 := xa.cell 10 _ rfl
  have c_e11 := xa.cell 11 _ rfl
  have m_e0 := xa.mark 0 _ rfl
  have m_e1 := xa.mark 1 _ rfl
  have m_e2 := xa.mark 2 _ rfl
  have m_e3 := xa.mark 3 _ rfl
  have m_e4 := xa.mark 4 _ rfl
  have m_e5 := xa.mark 5 _ rfl
  have m_e6 := xa.mark 6 _ rfl
  have m_e7 := xa.mark 7 _ rfl
  have m_e8 := xa.mark 8 _ rfl
  have m_e9 := xa.mark 9 _ rfl
  have m_e10 := xa.mark 10 _ rfl
  have m_e11 := xa.mark 11 _ rfl
  have l_e := xa.lt (Nat.succ_pos _)
  have c_f0 := xb.cell 0 _ rfl
  have c_f1 := xb.cell 1 _ rfl
  have c_f2 := xb.cell 2 _ rfl
  have c_f3 := xb.cell 3 _ rfl
  have c_f4 := xb.cell 4 _ rfl
  have c_f5 := xb.cell 5 _ rfl
  have c_f6 := xb.cell 6 _ rfl
  have c_f7 := xb.cell 7 _ rfl
  have c_f8 := xb.cell 8 _ rfl
  have c_f9 := xb.cell 9 _ rfl
  have c_f10 := xb.cell 10 _ rfl
  have c_f11 := xb.cell 11 _ rfl
  have m_f0 := xb.mark 0 _ rfl
  have m_f1 := xb.mark 1 _ rfl
  have m_f2 := xb.mark 2 _ rfl
  have m_f3 := xb.mark 3 _ rfl
  have m_f4 := xb.mark 4 _ rfl
  have m_f5 := xb.mark 5 _ rfl
  have m_f6 := xb.mark 6 _ rfl
  have m_f7 := xb.mark 7 _ rfl
  have m_f8 := xb.mark 8 _ rfl
  have m_f9 := xb.mark 9 _ rfl
  have m_f10 := xb.mark 10 _ rfl
  have m_f11 := xb.mark 11 _ rfl
  have l_f := xb.lt (Nat.succ_pos _)
  go_wp2_with fail
  clear c_e0 c_e1 c_e2 c_e3 c_e4 c_e5 c_e6 c_e7 c_e8 c_e9 c_e10 c_e11 m_e0 m_e1 m_e2 m_e3 m_e4 m_e5 m_e6 m_e7 m_e8 m_e9 m_e10 m_e11 l_e
  clear c_f0 c_f1 c_f2 c_f3 c_f4 c_f5 c_f6 c_f7 c_f8 c_f9 c_f10 c_f11 m_f0 m_f1 m_f2 m_f3 m_f4 m_f5 m_f6 m_f7 m_f8 m_f9 m_f10 m_f11 l_f
  go_at_call 48
  (with_reducible refine (E2.out w1 hg).mono ?_); rintro e w2 ⟨rfl, hb⟩
  replace hg := hg.trans hb
  replace xa := xa.later hb
  replace xb := xb.later hb
  clear hb
  have c_e0 := xa.cell 0 _ rfl
  have c_e1 := xa.cell 1 _ rfl
  have c_e2 := xa.cell 2 _ rfl
  have c_e3 := xa.cell 3 _ rfl
  have c_e4 := xa.cell 4 _ rfl
  have c_e5 := xa.cell 5 _ rfl
  have c_e6 := xa.cell 6 _ rfl
  have c_e7 := xa.cell 7 _ rfl
  have c_e8 := xa.cell 8 _ rfl
  have c_e9 := xa.cell 9 _ rfl
  have c_e10 := xa.cell 10 _ rfl
  have c_e11 := xa.cell 11 _ rfl
  have m_e0 := xa.mark 0 _ rfl
  have m_e1 := xa.mark 1 _ rfl
  have m_e2 := xa.mark 2 _ rfl
  have m_e3 := xa.mark 3 _ rfl
  have m_e4 := xa.mark 4 _ rfl
  have m_e5 := xa.mark 5 _ rfl
  have m_e6 := xa.mark 6 _ rfl
  have m_e7 := xa.mark 7 _ rfl
  have m_e8 := xa.mark 8 _ rfl
  have m_e9 := xa.mark 9 _ rfl
  have m_e10 := xa.mark 10 _ rfl
  have m_e11 := xa.mark 11 _ rfl
  have l_e := xa.lt (Nat.succ_pos _)
  have c_f0 := xb.cell 0 _ rfl
  have c_f1 := xb.cell 1 _ rfl
  have c_f2 := xb.cell 2 _ rfl
  have c_f3 := xb.cell 3 _ rfl
  have c_f4 := xb.cell 4 _ rfl
  have c_f5 := xb.cell 5 _ rfl
  have c_f6 := xb.cell 6 _ rfl
  have c_f7 := xb.cell 7 _ rfl
  have c_f8 := xb.cell 8 _ rfl
  have c_f9 := xb.cell 9 _ rfl
  have c_f10 := xb.cell 10 _ rfl
  have c_f11 := xb.cell 11 _ rfl
  have m_f0 := xb.mark 0 _ rfl
  have m_f1 := xb.mark 1 _ rfl
  have m_f2 := xb.mark 2 _ rfl
  have m_f3 := xb.mark 3 _ rfl
  have m_f4 := xb.mark 4 _ rfl
  have m_f5 := xb.mark 5 _ rfl
  have m_f6 := xb.mark 6 _ rfl
  have m_f7 := xb.mark 7 _ rfl
  have m_f8 := xb.mark 8 _ rfl
  have m_f9 := xb.mark 9 _ rfl
  have m_f10 := xb.mark 10 _ rfl
  have m_f11 := xb.mark 11 _ rfl
  have l_f := xb.lt (Nat.succ_pos _)
  go_wp2_with fail
  clear c_e0 c_e1 c_e2 c_e3 c_e4 c_e5 c_e6 c_e7 c_e8 c_e9 c_e10 c_e11 m_e0 m_e1 m_e2 m_e3 m_e4 m_e5 m_e6 m_e7 m_e8 m_e9 m_e10 m_e11 l_e
  clear c_f0 c_f1 c_f2 c_f3 c_f4 c_f5 c_f6 c_f7 c_f8 c_f9 c_f10 c_f11 m_f0 m_f1 m_f2 m_f3 m_f4 m_f5 m_f6 m_f7 m_f8 m_f9 m_f10 m_f11 l_f
  go_at_call 49
  (with_reducible refine (E3.out w2 hg).mono ?_); rintro e w3 ⟨rfl, hb⟩
  replace hg := hg.trans hb
  replace xa := xa.later hb
  replace xb := xb.later hb
  clear hb
  have c_e0 := xa.cell 0 _ rfl
  have c_e1 := xa.cell 1 _ rfl
  have c_e2 := xa.cell 2 _ rfl
  have c_e3 := xa.cell 3 _ rfl
  have c_e4 := xa.cell 4 _ rfl
  have c_e5 := xa.cell 5 _ rfl
  have c_e6 := xa.cell 6 _ rfl
  have c_e7 := xa.cell 7 _ rfl
  have c_e8 := xa.cell 8 _ rfl
  have c_e9 := xa.cell 9 _ rfl
  have c_e10 := xa.cell 10 _ rfl
  have c_e11 := xa.cell 11 _ rfl
  have m_e0 := xa.mark 0 _ rfl
  have m_e1 := xa.mark 1 _ rfl
  have m_e2 := xa.mark 2 _ rfl
  have m_e3 := xa.mark 3 _ rfl
  have m_e4 := xa.mark 4 _ rfl
  have m_e5 := xa.mark 5 _ rfl
  have m_e6 := xa.mark 6 _ rfl
  have m_e7 := xa.mark 7 _ rfl
  have m_e8 := xa.mark 8 _ rfl
  have m_e9 := xa.mark 9 _ rfl
  have m_e10 := xa.mark 10 _ rfl
  have m_e11 := xa.mark 11 _ rfl
  have l_e := xa.lt (Nat.succ_pos _)
  have c_f0 := xb.cell 0 _ rfl
  have c_f1 := xb.cell 1 _ rfl
  have c_f2 := xb.cell 2 _ rfl
  have c_f3 := xb.cell 3 _ rfl
  have c_f4 := xb.cell 4 _ rfl
  have c_f5 := xb.cell 5 _ rfl
  have c_f6 := xb.cell 6 _ rfl
  have c_f7 := xb.cell 7 _ rfl
  have c_f8 := xb.cell 8 _ rfl
  have c_f9 := xb.cell 9 _ rfl
  have c_f10 := xb.cell 10 _ rfl
  have c_f11 := xb.cell 11 _ rfl
  have m_f0 := xb.mark 0 _ rfl
  have m_f1 := xb.mark 1 _ rfl
  have m_f2 := xb.mark 2 _ rfl
  have m_f3 := xb.mark 3 _ rfl
  have m_f4 := xb.mark 4 _ rfl
  have m_f5 := xb.mark 5 _ rfl
  have m_f6 := xb.mark 6 _ rfl
  have m_f7 := xb.mark 7 _ rfl
  have m_f8 := xb.mark 8 _ rfl
  have m_f9 := xb.mark 9 _ rfl
  have m_f10 := xb.mark 10 _ rfl
  have m_f11 := xb.mark 11 _ rfl
  have l_f := xb.lt (Nat.succ_pos _)
  go_wp2_with fail
  clear c_e0 c_e1 c_e2 c_e3 c_e4 c_e5 c_e6 c_e7 c_e8 c_e9 c_e10 c_e11 m_e0 m_e1 m_e2 m_e3 m_e4 m_e5 m_e6 m_e7 m_e8 m_e9 m_e10 m_e11 l_e
  clear c_f0 c_f1 c_f2 c_f3 c_f4 c_f5 c_f6 c_f7 c_f8 c_f9 c_f10 c_f11 m_f0 m_f1 m_f2 m_f3 m_f4 m_f5 m_f6 m_f7 m_f8 m_f9 m_f10 m_f11 l_f
  go_at_call 50
  (with_reducible refine (E4.out w3 hg).mono ?_); rintro e w4 ⟨rfl, hb⟩
  replace hg := hg.trans hb
  replace xa := xa.later hb
  replace xb := xb.later hb
  clear hb
  have c_e0 := xa.cell 0 _ rfl
  have c_e1 := xa.cell 1 _ rfl
  have c_e2 := xa.cell 2 _ rfl
  have c_e3 := xa.cell 3 _ rfl
  have c_e4 := xa.cell 4 _ rfl
  have c_e5 := xa.cell 5 _ rfl
  have c_e6 := xa.cell 6 _ rfl
  have c_e7 := xa.cell 7 _ rfl
  have c_e8 := xa.cell 8 _ rfl
  have c_e9 := xa.cell 9 _ rfl
  have c_e10 := xa.cell 10 _ rfl
  have c_e11 := xa.cell 11 _ rfl
  have m_e0 := xa.mark 0 _ rfl
  have m_e1 := xa.mark 1 _ rfl
  have m_e2 := xa.mark 2 _ rfl
  have m_e3 := xa.mark 3 _ rfl
  have m_e4 := xa.mark 4 _ rfl
  have m_e5 := xa.mark 5 _ rfl
  have m_e6 := xa.mark 6 _ rfl
  have m_e7 := xa.mark 7 _ rfl
  have m_e8 := xa.mark 8 _ rfl
  have m_e9 := xa.mark 9 _ rfl
  have m_e10 := xa.mark 10 _ rfl
  have m_e11 := xa.mark 11 _ rfl
  have l_e := xa.lt (Nat.succ_pos _)
  have c_f0 := xb.cell 0 _ rfl
  have c_f1 := xb.cell 1 _ rfl
  have c_f2 := xb.cell 2 _ rfl
  have c_f3 := xb.cell 3 _ rfl
  have c_f4 := xb.cell 4 _ rfl
  have c_f5 := xb.cell 5 _ rfl
  have c_f6 := xb.cell 6 _ rfl
  have c_f7 := xb.cell 7 _ rfl
  have c_f8 := xb.cell 8 _ rfl
  have c_f9 := xb.cell 9 _ rfl
  have c_f10 := xb.cell 10 _ rfl
  have c_f11 := xb.cell 11 _ rfl
  have m_f0 := xb.mark 0 _ rfl
  have m_f1 := xb.mark 1 _ rfl
  have m_f2 := xb.mark 2 _ rfl
  have m_f3 := xb.mark 3 _ rfl
  have m_f4 := xb.mark 4 _ rfl
  have m_f5 := xb.mark 5 _ rfl
  have m_f6 := xb.mark 6 _ rfl
  have m_f7 := xb.mark 7 _ rfl
  have m_f8 := xb.mark 8 _ rfl
  have m_f9 := xb.mark 9 _ rfl
  have m_f10 := xb.mark 10 _ rfl
  have m_f11 := xb.mark 11 _ rfl
  have l_f := xb.lt (Nat.succ_pos _)
  go_wp2_with fail
  clear c_e0 c_e1 c_e2 c_e3 c_e4 c_e5 c_e6 c_e7 c_e8 c_e9 c_e10 c_e11 m_e0 m_e1 m_e2 m_e3 m_e4 m_e5 m_e6 m_e7 m_e8 m_e9 m_e10 m_e11 l_e
  clear c_f0 c_f1 c_f2 c_f3 c_f4 c_f5 c_f6 c_f7 c_f8 c_f9 c_f10 c_f11 m_f0 m_f1 m_f2 m_f3 m_f4 m_f5 m_f6 m_f7 m_f8 m_f9 m_f10 m_f11 l_f
  go_at_call 51
  (with_reducible refine (E5.out w4 hg).mono ?_); rintro e w5 ⟨rfl, hb⟩
  replace hg := hg.trans hb
  replace xa := xa.later hb
  replace xb := xb.later hb
  clear hb
  have c_e0 := xa.cell 0 _ rfl
  have c_e1 := xa.cell 1 _ rfl
  have c_e2 := xa.cell 2 _ rfl
  have c_e3 := xa.cell 3 _ rfl
  have c_e4 := xa.cell 4 _ rfl
  have c_e5 := xa.cell 5 _ rfl
  have c_e6 := xa.cell 6 _ rfl
  have c_e7 := xa.cell 7 _ rfl
  have c_e8 := xa.cell 8 _ rfl
  have c_e9 := xa.cell 9 _ rfl
  have c_e10 := xa.cell 10 _ rfl
  have c_e11 := xa.cell 11 _ rfl
  have m_e0 := xa.mark 0 _ rfl
  have m_e1 := xa.mark 1 _ rfl
  have m_e2 := xa.mark 2 _ rfl
  have m_e3 := xa.mark 3 _ rfl
  have m_e4 := xa.mark 4 _ rfl
  have m_e5 := xa.mark 5 _ rfl
  have m_e6 := xa.mark 6 _ rfl
  have m_e7 := xa.mark 7 _ rfl
  have m_e8 := xa.mark 8 _ rfl
  have m_e9 := xa.mark 9 _ rfl
  have m_e10 := xa.mark 10 _ rfl
  have m_e11 := xa.mark 11 _ rfl
  have l_e := xa.lt (Nat.succ_pos _)
  have c_f0 := xb.cell 0 _ rfl
  have c_f1 := xb.cell 1 _ rfl
  have c_f2 := xb.cell 2 _ rfl
  have c_f3 := xb.cell 3 _ rfl
  have c_f4 := xb.cell 4 _ rfl
  have c_f5 := xb.cell 5 _ rfl
  have c_f6 := xb.cell 6 _ rfl
  have c_f7 := xb.cell 7 _ rfl
  have c_f8 := xb.cell 8 _ rfl
  have c_f9 := xb.cell 9 _ rfl
  have c_f10 := xb.cell 10 _ rfl
  have c_f11 := xb.cell 11 _ rfl
  have m_f0 := xb.mark 0 _ rfl
  have m_f1 := xb.mark 1 _ rfl
  have m_f2 := xb.mark 2 _ rfl
  have m_f3 := xb.mark 3 _ rfl
  have m_f4 := xb.mark 4 _ rfl
  have m_f5 := xb.mark 5 _ rfl
  have m_f6 := xb.mark 6 _ rfl
  have m_f7 := xb.mark 7 _ rfl
  have m_f8 := xb.mark 8 _ rfl
  have m_f9 := xb.mark 9 _ rfl
  have m_f10 := xb.mark 10 _ rfl
  have m_f11 := xb.mark 11 _ rfl
  have l_f := xb.lt (Nat.succ_pos _)
  go_wp2_with fail
  clear c_e0 c_e1 c_e2 c_e3 c_e4 c_e5 c_e6 c_e7 c_e8 c_e9 c_e10 c_e11 m_e0 m_e1 m_e2 m_e3 m_e4 m_e5 m_e6 m_e7 m_e8 m_e9 m_e10 m_e11 l_e
  clear c_f0 c_f1 c_f2 c_f3 c_f4 c_f5 c_f6 c_f7 c_f8 c_f9 c_f10 c_f11 m_f0 m_f1 m_f2 m_f3 m_f4 m_f5 m_f6 m_f7 m_f8 m_f9 m_f10 m_f11 l_f
  go_at_call 51
  (with_reducible refine (E6.out w5 hg).mono ?_); rintro e w6 ⟨rfl, hb⟩
  replace hg := hg.trans hb
  replace xa := xa.later hb
  replace xb := xb.later hb
  clear hb
  have c_e0 := xa.cell 0 _ rfl
  have c_e1 := xa.cell 1 _ rfl
  have c_e2 := xa.cell 2 _ rfl
  have c_e3 := xa.cell 3 _ rfl
  have c_e4 := xa.cell 4 _ rfl
  have c_e5 := xa.cell 5 _ rfl
  have c_e6 := xa.cell 6 _ rfl
  have c_e7 := xa.cell 7 _ rfl
  have c_e8 := xa.cell 8 _ rfl
  have c_e9 := xa.cell 9 _ rfl
  have c_e10 := xa.cell 10 _ rfl
  have c_e11 := xa.cell 11 _ rfl
  have m_e0 := xa.mark 0 _ rfl
  have m_e1 := xa.mark 1 _ rfl
  have m_e2 := xa.mark 2 _ rfl
  have m_e3 := xa.mark 3 _ rfl
  have m_e4 := xa.mark 4 _ rfl
  have m_e5 := xa.mark 5 _ rfl
  have m_e6 := xa.mark 6 _ rfl
  have m_e7 := xa.mark 7 _ rfl
  have m_e8 := xa.mark 8 _ rfl
  have m_e9 := xa.mark 9 _ rfl
  have m_e10 := xa.mark 10 _ rfl
  have m_e11 := xa.mark 11 _ rfl
  have l_e := xa.lt (Nat.succ_pos _)
  have c_f0 := xb.cell 0 _ rfl
  have c_f1 := xb.cell 1 _ rfl
  have c_f2 := xb.cell 2 _ rfl
  have c_f3 := xb.cell 3 _ rfl
  have c_f4 := xb.cell 4 _ rfl
  have c_f5 := xb.cell 5 _ rfl
  have c_f6 := xb.cell 6 _ rfl
  have c_f7 := xb.cell 7 _ rfl
  have c_f8 := xb.cell 8 _ rfl
  have c_f9 := xb.cell 9 _ rfl
  have c_f10 := xb.cell 10 _ rfl
  have c_f11 := xb.cell 11 _ rfl
  have m_f0 := xb.mark 0 _ rfl
  have m_f1 := xb.mark 1 _ rfl
  have m_f2 := xb.mark 2 _ rfl
  have m_f3 := xb.mark 3 _ rfl
  have m_f4 := xb.mark 4 _ rfl
  have m_f5 := xb.mark 5 _ rfl
  have m_f6 := xb.mark 6 _ rfl
  have m_f7 := xb.mark 7 _ rfl
  have m_f8 := xb.mark 8 _ rfl
  have m_f9 := xb.mark 9 _ rfl
  have m_f10 := xb.mark 10 _ rfl
  have m_f11 := xb.mark 11 _ rfl
  have l_f := xb.lt (Nat.succ_pos _)
  go_wp2_with fail
  clear c_e0 c_e1 c_e2 c_e3 c_e4 c_e5 c_e6 c_e7 c_e8 c_e9 c_e10 c_e11 m_e0 m_e1 m_e2 m_e3 m_e4 m_e5 m_e6 m_e7 m_e8 m_e9 m_e10 m_e11 l_e
  clear c_f0 c_f1 c_f2 c_f3 c_f4 c_f5 c_f6 c_f7 c_f8 c_f9 c_f10 c_f11 m_f0 m_f1 m_f2 m_f3 m_f4 m_f5 m_f6 m_f7 m_f8 m_f9 m_f10 m_f11 l_f
  go_at_call 51
  (with_reducible refine (E7.out w6 hg).mono ?_); rintro e w7 ⟨rfl, hb⟩
  replace hg := hg.trans hb
  replace xa := xa.later hb
  replace xb := xb.later hb
  clear hb
  have c_e0 := xa.cell 0 _ rfl
  have c_e1 := xa.cell 1 _ rfl
  have c_e2 := xa.cell 2 _ rfl
  have c_e3 := xa.cell 3 _ rfl
  have c_e4 := xa.cell 4 _ rfl
  have c_e5 := xa.cell 5 _ rfl
  have c_e6 := xa.cell 6 _ rfl
  have c_e7 := xa.cell 7 _ rfl
  have c_e8 := xa.cell 8 _ rfl
  have c_e9 := xa.cell 9 _ rfl
  have c_e10 := xa.cell 10 _ rfl
  have c_e11 := xa.cell 11 _ rfl
  have m_e0 := xa.mark 0 _ rfl
  have m_e1 := xa.mark 1 _ rfl
  have m_e2 := xa.mark 2 _ rfl
  have m_e3 := xa.mark 3 _ rfl
  have m_e4 := xa.mark 4 _ rfl
  have m_e5 := xa.mark 5 _ rfl
  have m_e6 := xa.mark 6 _ rfl
  have m_e7 := xa.mark 7 _ rfl
  have m_e8 := xa.mark 8 _ rfl
  have m_e9 := xa.mark 9 _ rfl
  have m_e10 := xa.mark 10 _ rfl
  have m_e11 := xa.mark 11 _ rfl
  have l_e := xa.lt (Nat.succ_pos _)
  have c_f0 := xb.cell 0 _ rfl
  have c_f1 := xb.cell 1 _ rfl
  have c_f2 := xb.cell 2 _ rfl
  have c_f3 := xb.cell 3 _ rfl
  have c_f4 := xb.cell 4 _ rfl
  have c_f5 := xb.cell 5 _ rfl
  have c_f6 := xb.cell 6 _ rfl
  have c_f7 := xb.cell 7 _ rfl
  have c_f8 := xb.cell 8 _ rfl
  have c_f9 := xb.cell 9 _ rfl
  have c_f10 := xb.cell 10 _ rfl
  have c_f11 := xb.cell 11 _ rfl
  have m_f0 := xb.mark 0 _ rfl
  have m_f1 := xb.mark 1 _ rfl
  have m_f2 := xb.mark 2 _ rfl
  have m_f3 := xb.mark 3 _ rfl
  have m_f4 := xb.mark 4 _ rfl
  have m_f5 := xb.mark 5 _ rfl
  have m_f6 := xb.mark 6 _ rfl
  have m_f7 := xb.mark 7 _ rfl
  have m_f8 := xb.mark 8 _ rfl
  have m_f9 := xb.mark 9 _ rfl
  have m_f10 := xb.mark 10 _ rfl
  have m_f11 := xb.mark 11 _ rfl
  have l_f := xb.lt (Nat.succ_pos _)
  go_wp2_with fail
  clear c_e0 c_e1 c_e2 c_e3 c_e4 c_e5 c_e6 c_e7 c_e8 c_e9 c_e10 c_e11 m_e0 m_e1 m_e2 m_e3 m_e4 m_e5 m_e6 m_e7 m_e8 m_e9 m_e10 m_e11 l_e
  clear c_f0 c_f1 c_f2 c_f3 c_f4 c_f5 c_f6 c_f7 c_f8 c_f9 c_f10 c_f11 m_f0 m_f1 m_f2 m_f3 m_f4 m_f5 m_f6 m_f7 m_f8 m_f9 m_f10 m_f11 l_f
  go_at_call 52
  (with_reducible refine (E8.out w7 hg).mono ?_); rintro e w8 ⟨rfl, hb⟩
  replace hg := hg.trans hb
  replace xa := xa.later hb
  replace xb := xb.later hb
  clear hb
  have c_e0 := xa.cell 0 _ rfl
  have c_e1 := xa.cell 1 _ rfl
  have c_e2 := xa.cell 2 _ rfl
  have c_e3 := xa.cell 3 _ rfl
  have c_e4 := xa.cell 4 _ rfl
  have c_e5 := xa.cell 5 _ rfl
  have c_e6 := xa.cell 6 _ rfl
  have c_e7 := xa.cell 7 _ rfl
  have c_e8 := xa.cell 8 _ rfl
  have c_e9 := xa.cell 9 _ rfl
  have c_e10 := xa.cell 10 _ rfl
  have c_e11 := xa.cell 11 _ rfl
  have m_e0 := xa.mark 0 _ rfl
  have m_e1 := xa.mark 1 _ rfl
  have m_e2 := xa.mark 2 _ rfl
  have m_e3 := xa.mark 3 _ rfl
  have m_e4 := xa.mark 4 _ rfl
  have m_e5 := xa.mark 5 _ rfl
  have m_e6 := xa.mark 6 _ rfl
  have m_e7 := xa.mark 7 _ rfl
  have m_e8 := xa.mark 8 _ rfl
  have m_e9 := xa.mark 9 _ rfl
  have m_e10 := xa.mark 10 _ rfl
  have m_e11 := xa.mark 11 _ rfl
  have l_e := xa.lt (Nat.succ_pos _)
  have c_f0 := xb.cell 0 _ rfl
  have c_f1 := xb.cell 1 _ rfl
  have c_f2 := xb.cell 2 _ rfl
  have c_f3 := xb.cell 3 _ rfl
  have c_f4 := xb.cell 4 _ rfl
  have c_f5 := xb.cell 5 _ rfl
  have c_f6 := xb.cell 6 _ rfl
  have c_f7 := xb.cell 7 _ rfl
  have c_f8 := xb.cell 8 _ rfl
  have c_f9 := xb.cell 9 _ rfl
  have c_f10 := xb.cell 10 _ rfl
  have c_f11 := xb.cell 11 _ rfl
  have m_f0 := xb.mark 0 _ rfl
  have m_f1 := xb.mark 1 _ rfl
  have m_f2 := xb.mark 2 _ rfl
  have m_f3 := xb.mark 3 _ rfl
  have m_f4 := xb.mark 4 _ rfl
  have m_f5 := xb.mark 5 _ rfl
  have m_f6 := xb.mark 6 _ rfl
  have m_f7 := xb.mark 7 _ rfl
  have m_f8 := xb.mark 8 _ rfl
  have m_f9 := xb.mark 9 _ rfl
  have m_f10 := xb.mark 10 _ rfl
  have m_f11 := xb.mark 11 _ rfl
  have l_f := xb.lt (Nat.succ_pos _)
  go_wp2_with fail
  clear c_e0 c_e1 c_e2 c_e3 c_e4 c_e5 c_e6 c_e7 c_e8 c_e9 c_e10 c_e11 m_e0 m_e1 m_e2 m_e3 m_e4 m_e5 m_e6 m_e7 m_e8 m_e9 m_e10 m_e11 l_e
  clear c_f0 c_f1 c_f2 c_f3 c_f4 c_f5 c_f6 c_f7 c_f8 c_f9 c_f10 c_f11 m_f0 m_f1 m_f2 m_f3 m_f4 m_f5 m_f6 m_f7 m_f8 m_f9 m_f10 m_f11 l_f
  go_ret
  exact ⟨rfl, hg⟩

end Go.Proofs.YtcbfmajojkcibaaDoor
