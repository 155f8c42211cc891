/- bolterlaw2.FaultOrder answers true. No condition but the errors' variables and a bound of the argument's bulk. Printed by gen_order.py. -/
import Derived.Test.YtndefbkcondmcaaDoorPFaultIs
namespace Go.Proofs.YtndefbkcondmcaaDoor
open Go Go.RowKit

theorem kindOf_inj {a b : Int} {k : Wr} (h1 : kindOf a = some k) (h2 : kindOf b = some k) : a = b := by
  have aux : ∀ (x : Int) (k : Wr), kindOf x = some k → x = (match k with | .placed => 1 | .named => 2 | .ruled => 3 | .staged => 4) := fun x k h => by
    unfold kindOf at h
    repeat' split at h
    all_goals first | (cases h; done) | (injection h with h; subst h; assumption)
  rw [aux a k h1, aux b k h2]
theorem sayP_swap (k : Wr) (l : List WrP) (a b : WrP) (h : a.kind ≠ b.kind) : sayP k (l ++ [a] ++ [b]) = sayP k (l ++ [b] ++ [a]) := by
  rw [sayP_snoc, sayP_snoc, sayP_snoc, sayP_snoc]
  by_cases h1 : kindOf a.kind = some k
  · by_cases h2 : kindOf b.kind = some k
    · exact absurd (kindOf_inj h1 h2) h
    · rw [if_neg h2, if_pos h1, if_pos h1]
  · rw [if_neg h1, if_neg h1]
theorem namesP_swap (l : List WrP) (a b : WrP) (h : a.kind ≠ b.kind) : namesP (l ++ [a] ++ [b]) = namesP (l ++ [b] ++ [a]) := by
  rw [namesP_snoc, namesP_snoc, namesP_snoc, namesP_snoc]
  by_cases h1 : kindOf a.kind = some .named
  · by_cases h2 : kindOf b.kind = some .named
    · exact absurd (kindOf_inj h1 h2) h
    · rw [if_neg h2, if_pos h1, if_pos h1]
  · rw [if_neg h1, if_neg h1]
theorem sayP_over (k : Wr) (l : List WrP) (a b : WrP) (h : a.kind = b.kind) : sayP k (l ++ [a] ++ [b]) = sayP k (l ++ [b]) := by
  rw [sayP_snoc, sayP_snoc, sayP_snoc, h]
  by_cases h2 : kindOf b.kind = some k
  · rw [if_pos h2, if_pos h2]
  · rw [if_neg h2, if_neg h2, if_neg h2]
theorem namesP_over (l : List WrP) (a b : WrP) (h : a.kind = b.kind) : namesP (l ++ [a] ++ [b]) = namesP (l ++ [b]) := by
  rw [namesP_snoc, namesP_snoc, namesP_snoc, h]
  by_cases h2 : kindOf b.kind = some .named
  · rw [if_pos h2, if_pos h2]
  · rw [if_neg h2, if_neg h2, if_neg h2]

/-- fault.Code, fault.Tell of a chain. -/
theorem code_ch {W0 W : World} {s : Nat → Addr} (hF : FaultsIn W0 s) (hg : Gr W0 W) {code : Int} {own : List UInt8} {s0 : Addr} {t0 : List UInt8} {l : List WrP} {e : Er} (hb : BaseIs W0 s code own s0 t0) (h : Ch W s0 t0 l e) :
    Calls Tryd.prog 12 #[e.val] W fun x w' => x = .returned (.int .i64 code) ∧ Gr W w' := by
  rcases hb with ⟨k, hk1, hk2, hk3, hk4, _⟩ | ⟨h1, h2, _⟩
  · rw [hk3]
    exact code_any (hF.later hg) e h.chain.inn k hk1 hk2 (by rw [h.chain.base, hk4])
  · rw [h1]
    refine code_other (hF.later hg) e h.chain.inn (fun k hk1 hk2 hh => ?_)
    obtain ⟨c', t', hr⟩ := hF.row k hk1 hk2
    have hlt : (s k).block < W0.heap.size := (Array.getElem?_eq_some_iff.1 hr).1
    rw [← hh, h.chain.base] at hlt
    omega
theorem tell_ch {W0 W : World} {s : Nat → Addr} (hF : FaultsIn W0 s) (hg : Gr W0 W) {code : Int} {own : List UInt8} {s0 : Addr} {t0 : List UInt8} {l : List WrP} {e : Er} (hb : BaseIs W0 s code own s0 t0) (h : Ch W s0 t0 l e) :
    Calls Tryd.prog 11 #[e.val] W fun x w' => ∃ nv, x = .returned (.agg #[.int .i64 code, .int .i64 (sayP .staged l), .int .i64 (sayP .ruled l), .int .i64 (sayP .placed l), nv]) ∧ Sl w' nv 1 (namesP l).length ((namesP l).map vS) ∧ Gr W w' := by
  have := tell_gen (hF.later hg) e h.chain.inn h.chain.ok (namesP l) h.chain.names code (fun W' hg' => code_ch hF (hg.trans hg') hb (h.later hg'))
  rw [h.chain.say .staged (by decide), h.chain.say .ruled (by decide), h.chain.say .placed (by decide)] at this
  refine this.mono ?_
  rintro x w' ⟨hg', nv, h1, h2⟩
  exact ⟨nv, h1, Sl.of_owns h2, hg'⟩

/-- An error and two wrappers, in a world. -/
def twoC (code : Int) (own : List UInt8) (lv : Value) (A B : WrP × Value) : List Value := [.int .i64 code, .string (st own), lv, .int .i64 A.1.kind, .int .i64 A.1.n, A.2, .int .i64 B.1.kind, .int .i64 B.1.n, B.2]

set_option maxRecDepth 100000 in
set_option maxHeartbeats 16000000 in
theorem faultOrder_any {W : World} {s : Nat → Addr} (hF : FaultsIn W s) (hT : FaultsT W s) (code : Int) (own : List UInt8) (lv : Value) (L : List (WrP × Value)) (A B : WrP × Value) (h : EIn W own lv L) (hA : WrIn W A) (hB : WrIn W B) :
    Calls Tryd.prog 5 #[.agg (twoC code own lv A B).toArray] W fun e w' => e = .returned (.bool true) ∧ Gr W w' := by
  unfold twoC
  obtain ⟨p, c, rfl⟩ := h.row.len
  obtain ⟨qa, ca, hqa⟩ := hA.names.len
  obtain ⟨qb, cb, hqb⟩ := hB.names.len
  have H := Lib.hid h
  have HF := Lib.hid hF
  have HT := Lib.hid hT
  have HA := Lib.hid hA
  have HB := Lib.hid hB
  have hWA := fun (w' : World) (hg : Gr W w') => wrapped_nil A (hA.later hg)
  have hWB := fun (w' : World) (hg : Gr W w') => wrapped_nil B (hB.later hg)
  have hXA := fun (w' : World) (hg : Gr W w') (s0 : Addr) (t0 : List UInt8) (l : List WrP) (e : Er) (hc : Ch w' s0 t0 l e) => wrapped_any e A hc (hA.later hg)
  have hXB := fun (w' : World) (hg : Gr W w') (s0 : Addr) (t0 : List UInt8) (l : List WrP) (e : Er) (hc : Ch w' s0 t0 l e) => wrapped_any e B hc (hB.later hg)
  obtain ⟨na, hna⟩ : ∃ n, A.1.names.length = n := ⟨_, rfl⟩
  obtain ⟨nb, hnb⟩ : ∃ n, B.1.names.length = n := ⟨_, rfl⟩
  rw [hna] at hqa
  rw [hnb] at hqb
  rw [hqa] at hWA hXA ⊢
  rw [hqb] at hWB hXB ⊢
  have HWA := Lib.hid hWA
  have HWB := Lib.hid hWB
  have HXA := Lib.hid hXA
  have HXB := Lib.hid hXB
  obtain ⟨ka, hka⟩ : ∃ k, A.1.kind = k := ⟨_, rfl⟩
  obtain ⟨kb, hkb⟩ : ∃ k, B.1.kind = k := ⟨_, rfl⟩
  have HKA := Lib.hid hka
  have HKB := Lib.hid hkb
  rw [hka] at HWA HXA ⊢
  rw [hkb] at HWB HXB ⊢
  obtain ⟨ia, hia⟩ : ∃ k, A.1.n = k := ⟨_, rfl⟩
  obtain ⟨ib, hib⟩ : ∃ k, B.1.n = k := ⟨_, rfl⟩
  rw [hia] at HWA HXA ⊢
  rw [hib] at HWB HXB ⊢
  clear h hF hT hA hB hWA hWB hXA hXB hna hnb hqa hqb hka hkb hia hib
  go_enter Tryd.func5, Tryd.ntmps5
  go_wp2_with fail
  go_at_call 8
  refine name_calls (fun W1 hW => ?_)
  have xe : boxAt W1 W.heap.size [.int .i64 code, .string (st own), .slice p L.length c, .int .i64 ka, .int .i64 ia, .slice qa na ca, .int .i64 kb, .int .i64 ib, .slice qb nb cb] := boxAt.new _ _ hW
  have hg : Gr W W1 := by rw [hW]; exact Gr.alloc _ _
  clear hW
  obtain ⟨sh, hsh⟩ : ∃ sh, shortP own L = sh := ⟨_, rfl⟩
  have HSH := Lib.hid (fun w' (hh : Gr W w') => hsh ▸ short_any w' code own _ L (H.out.later hh))
  refine (HSH.out W1 hg).mono ?_; rintro r w2 ⟨rfl, hg2⟩
  replace xe := xe.later hg2
  replace hg := hg.trans hg2
  clear hg2 hsh
  cases sh with
  | false =>
    have c_e0 := xe.cell 0 _ rfl
    have c_e1 := xe.cell 1 _ rfl
    have c_e2 := xe.cell 2 _ rfl
    have c_e3 := xe.cell 3 _ rfl
    have c_e4 := xe.cell 4 _ rfl
    have c_e5 := xe.cell 5 _ rfl
    have c_e6 := xe.cell 6 _ rfl
    have c_e7 := xe.cell 7 _ rfl
    have c_e8 := xe.cell 8 _ rfl
    have m_e0 := xe.mark 0 _ rfl
    have m_e1 := xe.mark 1 _ rfl
    have m_e2 := xe.mark 2 _ rfl
    have m_e3 := xe.mark 3 _ rfl
    have m_e4 := xe.mark 4 _ rfl
    have m_e5 := xe.mark 5 _ rfl
    have m_e6 := xe.mark 6 _ rfl
    have m_e7 := xe.mark 7 _ rfl
    have m_e8 := xe.mark 8 _ rfl
    have l_e := xe.lt (Nat.succ_pos _)
    go_wp2_with fail
    go_at_call 8
    refine (HSH.out w2 hg).mono ?_; rintro r w3 ⟨rfl, hg3⟩
    clear c_e0 c_e1 c_e2 c_e3 c_e4 c_e5 c_e6 c_e7 c_e8 m_e0 m_e1 m_e2 m_e3 m_e4 m_e5 m_e6 m_e7 m_e8 l_e
    replace hg := hg.trans hg3
    go_wp2_with fail
    go_at_call 16
    refine (wakesF_any (HF.out.later hg) (HT.out.later hg)).mono ?_; rintro r w4 ⟨rfl, hg4⟩
    go_wp2_with fail
    go_ret
    exact ⟨rfl, hg.trans hg4⟩
  | true =>
    have c_e0 := xe.cell 0 _ rfl
    have c_e1 := xe.cell 1 _ rfl
    have c_e2 := xe.cell 2 _ rfl
    have c_e3 := xe.cell 3 _ rfl
    have c_e4 := xe.cell 4 _ rfl
    have c_e5 := xe.cell 5 _ rfl
    have c_e6 := xe.cell 6 _ rfl
    have c_e7 := xe.cell 7 _ rfl
    have c_e8 := xe.cell 8 _ rfl
    have m_e0 := xe.mark 0 _ rfl
    have m_e1 := xe.mark 1 _ rfl
    have m_e2 := xe.mark 2 _ rfl
    have m_e3 := xe.mark 3 _ rfl
    have m_e4 := xe.mark 4 _ rfl
    have m_e5 := xe.mark 5 _ rfl
    have m_e6 := xe.mark 6 _ rfl
    have m_e7 := xe.mark 7 _ rfl
    have m_e8 := xe.mark 8 _ rfl
    have l_e := xe.lt (Nat.succ_pos _)
    go_wp2_with fail
    go_at_call 19
    refine (HWA.out w2 hg).mono ?_; rintro r w3 ⟨rfl, hg3⟩
    clear c_e0 c_e1 c_e2 c_e3 c_e4 c_e5 c_e6 c_e7 c_e8 m_e0 m_e1 m_e2 m_e3 m_e4 m_e5 m_e6 m_e7 m_e8 l_e
    replace xe := xe.later hg3
    replace hg := hg.trans hg3
    have c_e0 := xe.cell 0 _ rfl
    have c_e1 := xe.cell 1 _ rfl
    have c_e2 := xe.cell 2 _ rfl
    have c_e3 := xe.cell 3 _ rfl
    have c_e4 := xe.cell 4 _ rfl
    have c_e5 := xe.cell 5 _ rfl
    have c_e6 := xe.cell 6 _ rfl
    have c_e7 := xe.cell 7 _ rfl
    have c_e8 := xe.cell 8 _ rfl
    have m_e0 := xe.mark 0 _ rfl
    have m_e1 := xe.mark 1 _ rfl
    have m_e2 := xe.mark 2 _ rfl
    have m_e3 := xe.mark 3 _ rfl
    have m_e4 := xe.mark 4 _ rfl
    have m_e5 := xe.mark 5 _ rfl
    have m_e6 := xe.mark 6 _ rfl
    have m_e7 := xe.mark 7 _ rfl
    have m_e8 := xe.mark 8 _ rfl
    have l_e := xe.lt (Nat.succ_pos _)
    go_wp2_with fail
    go_at_call 19
    refine (HWB.out w3 hg).mono ?_; rintro r w4 ⟨rfl, hg4⟩
    clear c_e0 c_e1 c_e2 c_e3 c_e4 c_e5 c_e6 c_e7 c_e8 m_e0 m_e1 m_e2 m_e3 m_e4 m_e5 m_e6 m_e7 m_e8 l_e
    replace xe := xe.later hg4
    replace hg := hg.trans hg4
    have c_e0 := xe.cell 0 _ rfl
    have c_e1 := xe.cell 1 _ rfl
    have c_e2 := xe.cell 2 _ rfl
    have c_e3 := xe.cell 3 _ rfl
    have c_e4 := xe.cell 4 _ rfl
    have c_e5 := xe.cell 5 _ rfl
    have c_e6 := xe.cell 6 _ rfl
    have c_e7 := xe.cell 7 _ rfl
    have c_e8 := xe.cell 8 _ rfl
    have m_e0 := xe.mark 0 _ rfl
    have m_e1 := xe.mark 1 _ rfl
    have m_e2 := xe.mark 2 _ rfl
    have m_e3 := xe.mark 3 _ rfl
    have m_e4 := xe.mark 4 _ rfl
    have m_e5 := xe.mark 5 _ rfl
    have m_e6 := xe.mark 6 _ rfl
    have m_e7 := xe.mark 7 _ rfl
    have m_e8 := xe.mark 8 _ rfl
    have l_e := xe.lt (Nat.succ_pos _)
    go_wp2_with fail
    go_at_call 9
    by_cases hcc : 1 ≤ code ∧ code ≤ 17
    · have hgW4 := hg
      refine (made_some (HF.out.later hg) (HT.out.later hg) code own _ L (H.out.later hg) hcc).mono ?_
      rintro r w5 ⟨hg5, e, s0, t0, rfl, hbase, hch⟩
      clear c_e0 c_e1 c_e2 c_e3 c_e4 c_e5 c_e6 c_e7 c_e8 m_e0 m_e1 m_e2 m_e3 m_e4 m_e5 m_e6 m_e7 m_e8 l_e
      replace xe := xe.later hg5
      replace hg := hg.trans hg5
      have HF4 := Lib.hid (HF.out.later hgW4)
      have HBS := Lib.hid hbase
      obtain ⟨l, hl⟩ : ∃ l, L.map (·.1) = l := ⟨_, rfl⟩
      rw [hl] at hch
      have HCH := Lib.hid hch
      have HG45 := Lib.hid hg5
      obtain ⟨t1, p1, hv1⟩ := e.val_iface
      have HC0 := Lib.hid (fun w' (hh : Gr w5 w') => hv1 ▸ code_ch HF4.out (hg5.trans hh) hbase (hch.later hh))
      have HXA1 := Lib.hid (fun w' (hh : Gr w5 w') => hv1 ▸ HXA.out w' (hg.trans hh) s0 t0 l e (hch.later hh))
      have HXB1 := Lib.hid (fun w' (hh : Gr w5 w') => hv1 ▸ HXB.out w' (hg.trans hh) s0 t0 l e (hch.later hh))
      rw [hv1]
      clear hv1 hch hbase hl hgW4 hg5 hcc
      have c_e0 := xe.cell 0 _ rfl
      have c_e1 := xe.cell 1 _ rfl
      have c_e2 := xe.cell 2 _ rfl
      have c_e3 := xe.cell 3 _ rfl
      have c_e4 := xe.cell 4 _ rfl
      have c_e5 := xe.cell 5 _ rfl
      have c_e6 := xe.cell 6 _ rfl
      have c_e7 := xe.cell 7 _ rfl
      have c_e8 := xe.cell 8 _ rfl
      have m_e0 := xe.mark 0 _ rfl
      have m_e1 := xe.mark 1 _ rfl
      have m_e2 := xe.mark 2 _ rfl
      have m_e3 := xe.mark 3 _ rfl
      have m_e4 := xe.mark 4 _ rfl
      have m_e5 := xe.mark 5 _ rfl
      have m_e6 := xe.mark 6 _ rfl
      have m_e7 := xe.mark 7 _ rfl
      have m_e8 := xe.mark 8 _ rfl
      have l_e := xe.lt (Nat.succ_pos _)
      go_wp2_with fail
      refine wp_region_G (.take 0 (.take 1 (.take 2 (.take 4 (.take 5 (.run 3 false (.run 6 false (.run 7 true .nil)))))))) (by kernel_rfl) (by kernel_rfl) ?_
      simp only [pickOps, nthOp]
      intro wq hG
      repeat (first | (refine wpG_skip_take ?_ ?_; (focus rfl); try simp only [Act.put, List.setIfInBounds_toArray, List.set_cons_zero, List.set_cons_succ]) | (refine wpG_skip_run ?_ ?_; (focus rfl); try simp only [Act.put, List.setIfInBounds_toArray, List.set_cons_zero, List.set_cons_succ]) | (refine wpG_take ?_ ?_; (focus rfl); apply Exists.intro; refine ⟨fun w' hw' => ?_, ?_⟩; (focus (have hc := Gr.cells hw'; go_simp; (try rfl); done)); try simp only [Act.put, List.setIfInBounds_toArray, List.set_cons_zero, List.set_cons_succ]) | (refine wpG_run ?_ (fun K hK => ?_); (focus rfl); go_simp; (first | (go_at_call 19; (with_reducible refine (HXA1.out _ hG).mono ?_); rintro r w6 ⟨e1, rfl, hch1, hb⟩) | (go_at_call 19; (with_reducible refine (HXB.out _ (hg.trans hG) s0 t0 _ e1 hch1).mono ?_); rintro r w7 ⟨e2, rfl, hch2, hb⟩)); (try dsimp only); replace hG := hG.trans hb; refine hK.out _ _ hG ?_; clear hK K hb; try simp only [Act.put, List.setIfInBounds_toArray, List.set_cons_zero, List.set_cons_succ]))
      refine wpG_last ?_ (fun K hK => ?_); (focus rfl)
      have hc := hG.cells
      have hm := hG.marks
      go_simp
      refine hK.out _ _ ?_
      try simp only [Act.put, List.setIfInBounds_toArray, List.set_cons_zero, List.set_cons_succ]
      clear hK K hc hm
      refine wpG_done ?_
      clear c_e0 c_e1 c_e2 c_e3 c_e4 c_e5 c_e6 c_e7 c_e8 m_e0 m_e1 m_e2 m_e3 m_e4 m_e5 m_e6 m_e7 m_e8 l_e
      replace xe := xe.later hG
      replace hg := hg.trans hG
      have h57 := hG
      have HCH2 := Lib.hid hch2
      clear hG hch1 hch2
      have c_e0 := xe.cell 0 _ rfl
      have c_e1 := xe.cell 1 _ rfl
      have c_e2 := xe.cell 2 _ rfl
      have c_e3 := xe.cell 3 _ rfl
      have c_e4 := xe.cell 4 _ rfl
      have c_e5 := xe.cell 5 _ rfl
      have c_e6 := xe.cell 6 _ rfl
      have c_e7 := xe.cell 7 _ rfl
      have c_e8 := xe.cell 8 _ rfl
      have m_e0 := xe.mark 0 _ rfl
      have m_e1 := xe.mark 1 _ rfl
      have m_e2 := xe.mark 2 _ rfl
      have m_e3 := xe.mark 3 _ rfl
      have m_e4 := xe.mark 4 _ rfl
      have m_e5 := xe.mark 5 _ rfl
      have m_e6 := xe.mark 6 _ rfl
      have m_e7 := xe.mark 7 _ rfl
      have m_e8 := xe.mark 8 _ rfl
      have l_e := xe.lt (Nat.succ_pos _)
      go_wp2_with fail
      refine wp_region_G (.take 0 (.take 1 (.take 2 (.take 4 (.take 5 (.run 3 false (.run 6 false (.run 7 true .nil)))))))) (by kernel_rfl) (by kernel_rfl) ?_
      simp only [pickOps, nthOp]
      intro wq hG
      repeat (first | (refine wpG_skip_take ?_ ?_; (focus rfl); try simp only [Act.put, List.setIfInBounds_toArray, List.set_cons_zero, List.set_cons_succ]) | (refine wpG_skip_run ?_ ?_; (focus rfl); try simp only [Act.put, List.setIfInBounds_toArray, List.set_cons_zero, List.set_cons_succ]) | (refine wpG_take ?_ ?_; (focus rfl); apply Exists.intro; refine ⟨fun w' hw' => ?_, ?_⟩; (focus (have hc := Gr.cells hw'; go_simp; (try rfl); done)); try simp only [Act.put, List.setIfInBounds_toArray, List.set_cons_zero, List.set_cons_succ]) | (refine wpG_run ?_ (fun K hK => ?_); (focus rfl); go_simp; (first | (go_at_call 19; (with_reducible refine (HXB1.out _ (h57.trans hG)).mono ?_); rintro r w8 ⟨e3, rfl, hch3, hb⟩) | (go_at_call 19; (with_reducible refine (HXA.out _ (hg.trans hG) s0 t0 _ e3 hch3).mono ?_); rintro r w9 ⟨e4, rfl, hch4, hb⟩)); (try dsimp only); replace hG := hG.trans hb; refine hK.out _ _ hG ?_; clear hK K hb; try simp only [Act.put, List.setIfInBounds_toArray, List.set_cons_zero, List.set_cons_succ]))
      refine wpG_last ?_ (fun K hK => ?_); (focus rfl)
      have hc := hG.cells
      have hm := hG.marks
      go_simp
      refine hK.out _ _ ?_
      try simp only [Act.put, List.setIfInBounds_toArray, List.set_cons_zero, List.set_cons_succ]
      clear hK K hc hm
      refine wpG_done ?_
      clear c_e0 c_e1 c_e2 c_e3 c_e4 c_e5 c_e6 c_e7 c_e8 m_e0 m_e1 m_e2 m_e3 m_e4 m_e5 m_e6 m_e7 m_e8 l_e
      replace xe := xe.later hG
      replace hg := hg.trans hG
      have h59 := h57.trans hG
      have h49 := HG45.out.trans h59
      have HCA := Lib.hid (HCH2.out.later hG)
      have HCB := Lib.hid hch4
      clear hG hch3 hch4 HCH2 h57
      have c_e0 := xe.cell 0 _ rfl
      have c_e1 := xe.cell 1 _ rfl
      have c_e2 := xe.cell 2 _ rfl
      have c_e3 := xe.cell 3 _ rfl
      have c_e4 := xe.cell 4 _ rfl
      have c_e5 := xe.cell 5 _ rfl
      have c_e6 := xe.cell 6 _ rfl
      have c_e7 := xe.cell 7 _ rfl
      have c_e8 := xe.cell 8 _ rfl
      have m_e0 := xe.mark 0 _ rfl
      have m_e1 := xe.mark 1 _ rfl
      have m_e2 := xe.mark 2 _ rfl
      have m_e3 := xe.mark 3 _ rfl
      have m_e4 := xe.mark 4 _ rfl
      have m_e5 := xe.mark 5 _ rfl
      have m_e6 := xe.mark 6 _ rfl
      have m_e7 := xe.mark 7 _ rfl
      have m_e8 := xe.mark 8 _ rfl
      have l_e := xe.lt (Nat.succ_pos _)
      go_wp2_with fail
      go_at_call 12
      refine (HC0.out w9 h59).mono ?_; rintro r w10 ⟨rfl, hb⟩
      have h9 := hb
      clear c_e0 c_e1 c_e2 c_e3 c_e4 c_e5 c_e6 c_e7 c_e8 m_e0 m_e1 m_e2 m_e3 m_e4 m_e5 m_e6 m_e7 m_e8 l_e
      replace xe := xe.later hb
      clear hb
      go_wp2_with fail
      go_at_call 12
      refine (code_ch HF4.out (h49.trans h9) HBS.out (HCA.out.later h9)).mono ?_; rintro r w11 ⟨rfl, hb⟩
      replace h9 := h9.trans hb
      replace xe := xe.later hb
      clear hb
      go_wp2_with fail
      go_at_call 12
      refine (code_ch HF4.out (h49.trans h9) HBS.out (HCB.out.later h9)).mono ?_; rintro r w12 ⟨rfl, hb⟩
      replace h9 := h9.trans hb
      replace xe := xe.later hb
      clear hb
      by_cases hk : ka = kb
      · have c_e0 := xe.cell 0 _ rfl
        have c_e1 := xe.cell 1 _ rfl
        have c_e2 := xe.cell 2 _ rfl
        have c_e3 := xe.cell 3 _ rfl
        have c_e4 := xe.cell 4 _ rfl
        have c_e5 := xe.cell 5 _ rfl
        have c_e6 := xe.cell 6 _ rfl
        have c_e7 := xe.cell 7 _ rfl
        have c_e8 := xe.cell 8 _ rfl
        have m_e0 := xe.mark 0 _ rfl
        have m_e1 := xe.mark 1 _ rfl
        have m_e2 := xe.mark 2 _ rfl
        have m_e3 := xe.mark 3 _ rfl
        have m_e4 := xe.mark 4 _ rfl
        have m_e5 := xe.mark 5 _ rfl
        have m_e6 := xe.mark 6 _ rfl
        have m_e7 := xe.mark 7 _ rfl
        have m_e8 := xe.mark 8 _ rfl
        have l_e := xe.lt (Nat.succ_pos _)
        have HK := Lib.hid hk
        have hTA := fun w' (hh : Gr w12 w') => tell_ch HF4.out (h49.trans (h9.trans hh)) HBS.out (HCA.out.later (h9.trans hh))
        have hTB := fun w' (hh : Gr w12 w') (e5 : Er) (hc : Ch w' s0 t0 (l ++ [B.1]) e5) => tell_ch HF4.out (h49.trans (h9.trans hh)) HBS.out hc
        have hkk : A.1.kind = B.1.kind := by rw [HKA.out, HKB.out, hk]
        simp only [sayP_over _ l A.1 B.1 hkk, namesP_over l A.1 B.1 hkk] at hTA
        obtain ⟨S, hS⟩ : ∃ S, sayP .staged (l ++ [B.1]) = S := ⟨_, rfl⟩
        obtain ⟨R, hR⟩ : ∃ R, sayP .ruled (l ++ [B.1]) = R := ⟨_, rfl⟩
        obtain ⟨P, hP⟩ : ∃ P, sayP .placed (l ++ [B.1]) = P := ⟨_, rfl⟩
        obtain ⟨N, hN⟩ : ∃ N, namesP (l ++ [B.1]) = N := ⟨_, rfl⟩
        simp only [hS, hR, hP, hN] at hTA hTB
        have HTA := Lib.hid hTA
        have HTB := Lib.hid hTB
        have HXB5 := Lib.hid (fun w' (hh : Gr w12 w') => HXB1.out w' (h59.trans (h9.trans hh)))
        obtain ⟨va, hva⟩ : ∃ va, e2.val = va := ⟨_, rfl⟩
        rw [hva] at HTA ⊢
        clear hTA hTB hkk hS hR hP hN hva
        go_wp2_with fail
        refine wp_region_G (.take 0 (.take 1 (.take 2 (.take 3 (.take 4 (.take 5 (.take 6 (.take 7 (.take 8 (.take 10 (.take 11 (.take 12 (.run 9 false (.run 13 false (.run 14 false (.run 15 false (.take 16 (.take 17 .nil)))))))))))))))))) (by kernel_rfl) (by kernel_rfl) ?_
        simp only [pickOps, nthOp]
        intro wz hG
        repeat' (first
          | (refine wpG_take ?_ ?_; (focus rfl); apply Exists.intro; refine ⟨fun w' hw' => ?_, ?_⟩; (focus (have hc := Gr.cells hw'; go_simp; (try rfl); done)); (try simp only [Act.put, List.setIfInBounds_toArray, List.set_cons_zero, List.set_cons_succ]))
          | (refine wpG_fork3 ?_ ?_ ?_ (fun K hK => ?_) (fun K hK => ?_) (fun K hK => ?_) <;> first | rfl | (first | (go_simp; go_at_call 11; (with_reducible refine (HTA.out _ hG).mono ?_); rintro e' wn ⟨nva, rfl, hsa, hb⟩;  (try replace hsa := hsa.later hb); (try replace hsb := hsb.later hb); (try replace hc5 := hc5.later hb); (try dsimp only); replace hG := hG.trans hb; refine hK.out _ _ hG ?_; clear hb hK K; (try simp only [Act.put, List.setIfInBounds_toArray, List.set_cons_zero, List.set_cons_succ])) | (go_simp; go_at_call 19; (with_reducible refine (HXB5.out _ hG).mono ?_); rintro e' wn ⟨e5, rfl, hc5, hb⟩;  (try replace hsa := hsa.later hb); (try replace hsb := hsb.later hb); (try replace hc5 := hc5.later hb); (try dsimp only); replace hG := hG.trans hb; refine hK.out _ _ hG ?_; clear hb hK K; (try simp only [Act.put, List.setIfInBounds_toArray, List.set_cons_zero, List.set_cons_succ])) | (go_simp; go_at_call 11; (with_reducible refine (HTB.out _ hG e5 hc5).mono ?_); rintro e' wn ⟨nvb, rfl, hsb, hb⟩;  (try replace hsa := hsa.later hb); (try replace hsb := hsb.later hb); (try replace hc5 := hc5.later hb); (try dsimp only); replace hG := hG.trans hb; refine hK.out _ _ hG ?_; clear hb hK K; (try simp only [Act.put, List.setIfInBounds_toArray, List.set_cons_zero, List.set_cons_succ])) | (go_simp; go_at_call 10; (with_reducible refine (eqFault_like code S R P nva nvb N _ hsa hsb).mono ?_); rintro e' wn ⟨rfl, hb⟩;  (try replace hsa := hsa.later hb); (try replace hsb := hsb.later hb); (try replace hc5 := hc5.later hb); (try dsimp only); replace hG := hG.trans hb; refine hK.out _ _ hG ?_; clear hb hK K; (try simp only [Act.put, List.setIfInBounds_toArray, List.set_cons_zero, List.set_cons_succ])) | (go_simp; refine hK.out _ _ hG ?_; clear hK K; (try simp only [Act.put, List.setIfInBounds_toArray, List.set_cons_zero, List.set_cons_succ]))))
          | (refine wpG_fork ?_ ?_ (fun K hK => ?_) (fun K hK => ?_) <;> first | rfl | (first | (go_simp; go_at_call 11; (with_reducible refine (HTA.out _ hG).mono ?_); rintro e' wn ⟨nva, rfl, hsa, hb⟩;  (try replace hsa := hsa.later hb); (try replace hsb := hsb.later hb); (try replace hc5 := hc5.later hb); (try dsimp only); replace hG := hG.trans hb; refine hK.out _ _ hG ?_; clear hb hK K; (try simp only [Act.put, List.setIfInBounds_toArray, List.set_cons_zero, List.set_cons_succ])) | (go_simp; go_at_call 19; (with_reducible refine (HXB5.out _ hG).mono ?_); rintro e' wn ⟨e5, rfl, hc5, hb⟩;  (try replace hsa := hsa.later hb); (try replace hsb := hsb.later hb); (try replace hc5 := hc5.later hb); (try dsimp only); replace hG := hG.trans hb; refine hK.out _ _ hG ?_; clear hb hK K; (try simp only [Act.put, List.setIfInBounds_toArray, List.set_cons_zero, List.set_cons_succ])) | (go_simp; go_at_call 11; (with_reducible refine (HTB.out _ hG e5 hc5).mono ?_); rintro e' wn ⟨nvb, rfl, hsb, hb⟩;  (try replace hsa := hsa.later hb); (try replace hsb := hsb.later hb); (try replace hc5 := hc5.later hb); (try dsimp only); replace hG := hG.trans hb; refine hK.out _ _ hG ?_; clear hb hK K; (try simp only [Act.put, List.setIfInBounds_toArray, List.set_cons_zero, List.set_cons_succ])) | (go_simp; go_at_call 10; (with_reducible refine (eqFault_like code S R P nva nvb N _ hsa hsb).mono ?_); rintro e' wn ⟨rfl, hb⟩;  (try replace hsa := hsa.later hb); (try replace hsb := hsb.later hb); (try replace hc5 := hc5.later hb); (try dsimp only); replace hG := hG.trans hb; refine hK.out _ _ hG ?_; clear hb hK K; (try simp only [Act.put, List.setIfInBounds_toArray, List.set_cons_zero, List.set_cons_succ])) | (go_simp; refine hK.out _ _ hG ?_; clear hK K; (try simp only [Act.put, List.setIfInBounds_toArray, List.set_cons_zero, List.set_cons_succ]))))
          | (refine wpG_run ?_ (fun K hK => ?_); (focus rfl); (first | (go_simp; go_at_call 11; (with_reducible refine (HTA.out _ hG).mono ?_); rintro e' wn ⟨nva, rfl, hsa, hb⟩;  (try replace hsa := hsa.later hb); (try replace hsb := hsb.later hb); (try replace hc5 := hc5.later hb); (try dsimp only); replace hG := hG.trans hb; refine hK.out _ _ hG ?_; clear hb hK K; (try simp only [Act.put, List.setIfInBounds_toArray, List.set_cons_zero, List.set_cons_succ])) | (go_simp; go_at_call 19; (with_reducible refine (HXB5.out _ hG).mono ?_); rintro e' wn ⟨e5, rfl, hc5, hb⟩;  (try replace hsa := hsa.later hb); (try replace hsb := hsb.later hb); (try replace hc5 := hc5.later hb); (try dsimp only); replace hG := hG.trans hb; refine hK.out _ _ hG ?_; clear hb hK K; (try simp only [Act.put, List.setIfInBounds_toArray, List.set_cons_zero, List.set_cons_succ])) | (go_simp; go_at_call 11; (with_reducible refine (HTB.out _ hG e5 hc5).mono ?_); rintro e' wn ⟨nvb, rfl, hsb, hb⟩;  (try replace hsa := hsa.later hb); (try replace hsb := hsb.later hb); (try replace hc5 := hc5.later hb); (try dsimp only); replace hG := hG.trans hb; refine hK.out _ _ hG ?_; clear hb hK K; (try simp only [Act.put, List.setIfInBounds_toArray, List.set_cons_zero, List.set_cons_succ])) | (go_simp; go_at_call 10; (with_reducible refine (eqFault_like code S R P nva nvb N _ hsa hsb).mono ?_); rintro e' wn ⟨rfl, hb⟩;  (try replace hsa := hsa.later hb); (try replace hsb := hsb.later hb); (try replace hc5 := hc5.later hb); (try dsimp only); replace hG := hG.trans hb; refine hK.out _ _ hG ?_; clear hb hK K; (try simp only [Act.put, List.setIfInBounds_toArray, List.set_cons_zero, List.set_cons_succ])) | (go_simp; refine hK.out _ _ hG ?_; clear hK K; (try simp only [Act.put, List.setIfInBounds_toArray, List.set_cons_zero, List.set_cons_succ]))))
          | (refine wpG_last ?_ (fun K hK => ?_); (focus rfl); (first | (go_simp; refine hK.out _ _ ?_; clear hK K; (try simp only [Act.put, List.setIfInBounds_toArray, List.set_cons_zero, List.set_cons_succ])))))
        all_goals
          refine wpG_done ?_
          have hgW := (hg.trans h9).trans hG
          clear c_e0 c_e1 c_e2 c_e3 c_e4 c_e5 c_e6 c_e7 c_e8 m_e0 m_e1 m_e2 m_e3 m_e4 m_e5 m_e6 m_e7 m_e8 l_e
          go_wp2_with fail
          go_at_call 16
          refine (wakesF_any (HF.out.later hgW) (HT.out.later hgW)).mono ?_; rintro r w16 ⟨rfl, hb⟩
          go_wp2_with fail
          go_ret
          exact ⟨rfl, hgW.trans hb⟩
      · have HK := Lib.hid hk
        have hne : A.1.kind ≠ B.1.kind := by rw [HKA.out, HKB.out]; exact hk
        have hTA := fun w' (hh : Gr w12 w') => tell_ch HF4.out (h49.trans (h9.trans hh)) HBS.out (HCA.out.later (h9.trans hh))
        have hTB := fun w' (hh : Gr w12 w') => tell_ch HF4.out (h49.trans (h9.trans hh)) HBS.out (HCB.out.later (h9.trans hh))
        simp only [sayP_swap _ l A.1 B.1 hne, namesP_swap l A.1 B.1 hne] at hTA
        obtain ⟨S, hS⟩ : ∃ S, sayP .staged (l ++ [B.1] ++ [A.1]) = S := ⟨_, rfl⟩
        obtain ⟨R, hR⟩ : ∃ R, sayP .ruled (l ++ [B.1] ++ [A.1]) = R := ⟨_, rfl⟩
        obtain ⟨P, hP⟩ : ∃ P, sayP .placed (l ++ [B.1] ++ [A.1]) = P := ⟨_, rfl⟩
        obtain ⟨N, hN⟩ : ∃ N, namesP (l ++ [B.1] ++ [A.1]) = N := ⟨_, rfl⟩
        rw [hS, hR, hP, hN] at hTB
        rw [hS, hR, hP, hN] at hTA
        have HTA := Lib.hid hTA
        have HTB := Lib.hid hTB
        clear hTA hTB hne hS hR hP hN
        have c_e0 := xe.cell 0 _ rfl
        have c_e1 := xe.cell 1 _ rfl
        have c_e2 := xe.cell 2 _ rfl
        have c_e3 := xe.cell 3 _ rfl
        have c_e4 := xe.cell 4 _ rfl
        have c_e5 := xe.cell 5 _ rfl
        have c_e6 := xe.cell 6 _ rfl
        have c_e7 := xe.cell 7 _ rfl
        have c_e8 := xe.cell 8 _ rfl
        have m_e0 := xe.mark 0 _ rfl
        have m_e1 := xe.mark 1 _ rfl
        have m_e2 := xe.mark 2 _ rfl
        have m_e3 := xe.mark 3 _ rfl
        have m_e4 := xe.mark 4 _ rfl
        have m_e5 := xe.mark 5 _ rfl
        have m_e6 := xe.mark 6 _ rfl
        have m_e7 := xe.mark 7 _ rfl
        have m_e8 := xe.mark 8 _ rfl
        have l_e := xe.lt (Nat.succ_pos _)
        go_wp2_with fail
        go_at_call 11
        refine (HTA.out w12 (Gr.refl _)).mono ?_; rintro r w13 ⟨nva, rfl, hsa, hb⟩
        have h12 := hb
        clear c_e0 c_e1 c_e2 c_e3 c_e4 c_e5 c_e6 c_e7 c_e8 m_e0 m_e1 m_e2 m_e3 m_e4 m_e5 m_e6 m_e7 m_e8 l_e
        replace xe := xe.later hb
        clear hb
        go_wp2_with fail
        go_at_call 11
        refine (HTB.out w13 h12).mono ?_; rintro r w14 ⟨nvb, rfl, hsb, hb⟩
        replace h12 := h12.trans hb
        replace hsa := hsa.later hb
        replace xe := xe.later hb
        clear hb
        go_wp2_with fail
        go_at_call 10
        refine (eqFault_like code S R P nva nvb N w14 hsa hsb).mono ?_; rintro r w15 ⟨rfl, hb⟩
        replace h12 := h12.trans hb
        replace xe := xe.later hb
        clear hb hsa hsb
        have c_e0 := xe.cell 0 _ rfl
        have c_e1 := xe.cell 1 _ rfl
        have c_e2 := xe.cell 2 _ rfl
        have c_e3 := xe.cell 3 _ rfl
        have c_e4 := xe.cell 4 _ rfl
        have c_e5 := xe.cell 5 _ rfl
        have c_e6 := xe.cell 6 _ rfl
        have c_e7 := xe.cell 7 _ rfl
        have c_e8 := xe.cell 8 _ rfl
        have m_e0 := xe.mark 0 _ rfl
        have m_e1 := xe.mark 1 _ rfl
        have m_e2 := xe.mark 2 _ rfl
        have m_e3 := xe.mark 3 _ rfl
        have m_e4 := xe.mark 4 _ rfl
        have m_e5 := xe.mark 5 _ rfl
        have m_e6 := xe.mark 6 _ rfl
        have m_e7 := xe.mark 7 _ rfl
        have m_e8 := xe.mark 8 _ rfl
        have l_e := xe.lt (Nat.succ_pos _)
        go_wp2_with fail
        refine wp_region_G (.take 0 (.take 1 (.take 2 (.take 3 (.take 4 (.take 5 (.take 6 (.take 7 (.take 8 (.take 10 (.take 11 (.take 12 (.run 9 false (.run 13 false (.run 14 false (.run 15 false (.take 16 (.take 17 .nil)))))))))))))))))) (by kernel_rfl) (by kernel_rfl) ?_
        simp only [pickOps, nthOp]
        intro wq hG
        repeat (first | (refine wpG_skip_take ?_ ?_; (focus rfl); try simp only [Act.put, List.setIfInBounds_toArray, List.set_cons_zero, List.set_cons_succ]) | (refine wpG_skip_run ?_ ?_; (focus rfl); try simp only [Act.put, List.setIfInBounds_toArray, List.set_cons_zero, List.set_cons_succ]) | (refine wpG_take ?_ ?_; (focus rfl); apply Exists.intro; refine ⟨fun w' hw' => ?_, ?_⟩; (focus (have hc := Gr.cells hw'; go_simp; (try rfl); done)); try simp only [Act.put, List.setIfInBounds_toArray, List.set_cons_zero, List.set_cons_succ]))
        have hkb : (ka == kb) = false := by rw [beq_eq_false_iff_ne]; exact HK.out
        rw [hkb]
        repeat' (first | (refine wpG_skip_fork ?_ ?_ ?_ ?_; (focus rfl); (focus rfl)) | (refine wpG_skip_take ?_ ?_; (focus rfl); (try simp only [Act.put, List.setIfInBounds_toArray, List.set_cons_zero, List.set_cons_succ])) | (refine wpG_skip_run ?_ ?_; (focus rfl); (try simp only [Act.put, List.setIfInBounds_toArray, List.set_cons_zero, List.set_cons_succ])) | (refine wpG_take ?_ ?_; (focus rfl); apply Exists.intro; refine ⟨fun w' hw' => ?_, ?_⟩; (focus (have hc := Gr.cells hw'; go_simp; (try rfl); done)); (try simp only [Act.put, List.setIfInBounds_toArray, List.set_cons_zero, List.set_cons_succ])))
        all_goals
          refine wpG_done ?_
          have hgW := (hg.trans (h9.trans h12)).trans hG
          clear c_e0 c_e1 c_e2 c_e3 c_e4 c_e5 c_e6 c_e7 c_e8 m_e0 m_e1 m_e2 m_e3 m_e4 m_e5 m_e6 m_e7 m_e8 l_e
          go_wp2_with fail
          go_at_call 16
          refine (wakesF_any (HF.out.later hgW) (HT.out.later hgW)).mono ?_; rintro r w16 ⟨rfl, hb⟩
          go_wp2_with fail
          go_ret
          exact ⟨rfl, hgW.trans hb⟩
    · refine (made_nil code own _ L (H.out.later hg) (by omega)).mono ?_
      rintro r w5 ⟨hg5, rfl⟩
      replace hg := hg.trans hg5
      clear c_e0 c_e1 c_e2 c_e3 c_e4 c_e5 c_e6 c_e7 c_e8 m_e0 m_e1 m_e2 m_e3 m_e4 m_e5 m_e6 m_e7 m_e8 l_e
      go_wp2_with fail
      go_at_call 16
      refine (wakesF_any (HF.out.later hg) (HT.out.later hg)).mono ?_; rintro r w6 ⟨rfl, hg6⟩
      go_wp2_with fail
      go_ret
      exact ⟨rfl, hg.trans hg6⟩

end Go.Proofs.YtndefbkcondmcaaDoor
