/- bolterlaw2.FaultIs answers true. No condition but the errors' variables and a bound of the argument's bulk. -/
import Derived.Test.YtndefbkcondmcaaDoorPWakesF
namespace Go.Proofs.YtndefbkcondmcaaDoor
open Go Go.RowKit

set_option maxRecDepth 100000 in
theorem is_nil (t : TypeId) (v : Value) (w : World) : Calls Tryd.prog 17 #[.nilIface, .iface t v] w fun e w' => e = .returned (.bool false) ∧ Gr w w' := by
  have hnl := fun w' : World => run_eql_iface_nil_left (P := Tryd.prog) w' t v Tryd.underlying28
  go_enter Tryd.func17, Tryd.ntmps17
  go_wp2_with fail
  go_ret
  exact ⟨rfl, Gr.refl _⟩
set_option maxRecDepth 100000 in
set_option maxHeartbeats 8000000 in
theorem made_nil {W : World} (code : Int) (own : List UInt8) (lv : Value) (L : List (WrP × Value)) (h : EIn W own lv L) (hc : code < 1 ∨ 17 < code) :
    Calls Tryd.prog 9 #[.agg #[.int .i64 code, .string (st own), lv]] W fun r w' => Gr W w' ∧ r = .returned .nilIface := by
  obtain ⟨p, c, rfl⟩ := h.row.len
  have H := Lib.hid h
  have hmx := h.row.2.1
  unfold maxLen at hmx
  clear h
  have hc1 : ¬ code = 1 := by omega
  go_enter Tryd.func9, Tryd.ntmps9
  go_wp2_with fail
  go_at_call 18
  refine name_calls (fun W1 hW => ?_)
  have xe : boxAt W1 W.heap.size [.int .i64 code, .string (st own), .slice p L.length c] := boxAt.new _ _ hW
  have hg : Gr W W1 := by rw [hW]; exact Gr.alloc _ _
  clear hW
  refine (of_nil code W1 (by omega)).mono ?_; rintro r w3 ⟨rfl, hg3⟩
  replace xe := xe.later hg3
  replace hg := hg.trans hg3
  have c_e0 := xe.cell 0 _ rfl
  have c_e1 := xe.cell 1 _ rfl
  have c_e2 := xe.cell 2 _ rfl
  have m_e0 := xe.mark 0 _ rfl
  have m_e1 := xe.mark 1 _ rfl
  have m_e2 := xe.mark 2 _ rfl
  have l_e := xe.lt (Nat.succ_pos _)
  go_wp2_with fail
  clear c_e0 c_e1 c_e2 m_e0 m_e1 m_e2 l_e
  try generalize (code == 1) = cb
  go_loopw [3, 4] (fun ev i wr => ∃ (k : Nat), k ≤ L.length ∧ ev = .nilIface ∧ i = .int .i64 (k : Int) ∧ Gr W wr ∧ boxAt wr W.heap.size [.int .i64 code, .string (st own), .slice p L.length c]) (fun _ i _ => L.length - (intOf i).toNat)
  case atStart => exact ⟨0, Nat.zero_le _, rfl, rfl, hg, xe⟩
  case round =>
    clear hg xe
    obtain ⟨k, hk, rfl, rfl, hg, xe⟩ := hrel
    have c_e0 := xe.cell 0 _ rfl
    have c_e1 := xe.cell 1 _ rfl
    have c_e2 := xe.cell 2 _ rfl
    have m_e0 := xe.mark 0 _ rfl
    have m_e1 := xe.mark 1 _ rfl
    have m_e2 := xe.mark 2 _ rfl
    have l_e := xe.lt (Nat.succ_pos _)
    cases hx : L[k]? with
    | none =>
      have hkl : k = L.length := by
        rcases Nat.lt_or_ge k L.length with h | h
        · rw [List.getElem?_eq_getElem h] at hx; cases hx
        · omega
      subst hkl
      clear hx hk
      go_wp2_with fail
      go_ret
      exact ⟨hg, rfl⟩
    | some x =>
      have hkl : k < L.length := (List.getElem?_eq_some_iff.1 hx).1
      obtain ⟨b, off, rfl, hb, hcl⟩ := sl_part wrC_len (H.out.row.later hg) hx
      have a0 := hcl 0 _ (by omega) rfl
      have a1 := hcl 1 _ (by omega) rfl
      have a2 := hcl 2 _ (by omega) rfl
      rw [Nat.add_zero] at a0
      have HWX := Lib.hid ((H.out.each x (List.mem_of_getElem? hx)).later hg)
      have hkI : (k : Int) < (L.length : Int) := by omega
      have HKL := Lib.hid hkl
      obtain ⟨q, d, hq⟩ := HWX.out.names.len
      rw [hq] at a2
      have HW := Lib.hid (wrapped_nil x HWX.out)
      rw [hq] at HW
      clear hx hk hcl hq hkl
      go_wp2_with fail
      go_at_call 19
      refine HW.out.mono ?_; rintro r w5 ⟨rfl, hg5⟩
      replace xe := xe.later hg5
      replace hg := hg.trans hg5
      go_wp2_with fail
      go_roundw
      case rel => exact ⟨k + 1, by have := HKL.out; omega, by first | rfl | trivial, by go_num, hg, xe⟩
      case measure => have := HKL.out; simp [intOf]; omega

set_option maxRecDepth 100000 in
set_option maxHeartbeats 8000000 in
theorem faultIs_any {W : World} {s : Nat → Addr} (hF : FaultsIn W s) (hT : FaultsT W s) (code : Int) (own : List UInt8) (lv : Value) (L : List (WrP × Value)) (h : EIn W own lv L) :
    Calls Tryd.prog 4 #[.agg #[.int .i64 code, .string (st own), lv]] W fun e w' => e = .returned (.bool true) ∧ Gr W w' := by
  obtain ⟨p, c, rfl⟩ := h.row.len
  have H := Lib.hid h
  have HF := Lib.hid hF
  have HT := Lib.hid hT
  clear h hF hT
  go_enter Tryd.func4, Tryd.ntmps4
  go_wp2_with fail
  go_at_call 8
  refine name_calls (fun W1 hW => ?_)
  have xe : boxAt W1 W.heap.size [.int .i64 code, .string (st own), .slice p L.length c] := boxAt.new _ _ hW
  have hg : Gr W W1 := by rw [hW]; exact Gr.alloc _ _
  clear hW
  obtain ⟨sh, hsh⟩ : ∃ sh, shortP own L = sh := ⟨_, rfl⟩
  have hs := short_any W1 code own _ L (H.out.later hg)
  rw [hsh] at hs
  refine hs.mono ?_; clear hs; rintro r w2 ⟨rfl, hg2⟩
  replace xe := xe.later hg2
  replace hg := hg.trans hg2
  clear hg2 hsh
  cases sh with
  | false =>
    go_wp2_with fail
    go_at_call 16
    refine (wakesF_any (HF.out.later hg) (HT.out.later hg)).mono ?_; rintro r w3 ⟨rfl, hg3⟩
    go_wp2_with fail
    go_ret
    exact ⟨rfl, hg.trans hg3⟩
  | true =>
    have c_e0 := xe.cell 0 _ rfl
    have c_e1 := xe.cell 1 _ rfl
    have c_e2 := xe.cell 2 _ rfl
    have m_e0 := xe.mark 0 _ rfl
    have m_e1 := xe.mark 1 _ rfl
    have m_e2 := xe.mark 2 _ rfl
    have l_e := xe.lt (Nat.succ_pos _)
    go_wp2_with fail
    clear c_e0 c_e1 c_e2 m_e0 m_e1 m_e2 l_e
    go_at_call 9
    by_cases hcc : 1 ≤ code ∧ code ≤ 17
    case' pos =>
      refine (made_some (HF.out.later hg) (HT.out.later hg) code own _ L (H.out.later hg) hcc).mono ?_
      rintro r w3 ⟨hg3, e, s0, t0, rfl, hbase, hch⟩
      replace xe := xe.later hg3
      have hIS : ∀ w', Gr w3 w' → ∀ j : Nat, 2 ≤ j → j ≤ 17 → Calls Tryd.prog 17 #[e.val, .iface 82 (.pointer (some (s j)))] w' fun x w'' => x = .returned (.bool ((j : Int) == code)) ∧ Gr w' w'' := fun w' hw j hj1 hj2 => by
        have hFw := HF.out.later (hg.trans (hg3.trans hw))
        obtain ⟨cb, tb, hrow⟩ := hFw.row j hj1 hj2
        have hi := isTop_any (s j) cb tb hrow e (hch.chain.inn.later hw)
        have hd : decide (e.base = s j) = ((j : Int) == code) := by
          rw [hch.chain.base]
          rcases hbase with ⟨k, hk1, hk2, hk3, hk4, _⟩ | ⟨h1, h2, _⟩
          · rw [hk4, hk3]
            by_cases hjk : j = k
            · subst hjk; simp
            · have : ¬ s k = s j := fun hh => hjk (hFw.inj k j hk1 hk2 hj1 hj2 hh).symm
              rw [decide_eq_false this]
              symm; rw [beq_eq_false_iff_ne]; omega
          · have hlt : (s j).block < W.heap.size := by
              obtain ⟨c', t', hr⟩ := HF.out.row j hj1 hj2
              exact (Array.getElem?_eq_some_iff.1 hr).1
            have hle := hg.size
            rw [decide_eq_false (fun hh => by rw [hh] at h2; omega), h1]
            symm; rw [beq_eq_false_iff_ne]; omega
        rw [hd] at hi
        exact hi
      obtain ⟨ev, hev⟩ : ∃ ev, e.val = ev := ⟨_, rfl⟩
      rw [hev] at hIS ⊢
      clear hev hbase hch
    case' neg =>
      refine (made_nil code own _ L (H.out.later hg) (by omega)).mono ?_
      rintro r w3 ⟨hg3, rfl⟩
      replace xe := xe.later hg3
      have hIS : ∀ w', Gr w3 w' → ∀ j : Nat, 2 ≤ j → j ≤ 17 → Calls Tryd.prog 17 #[.nilIface, .iface 82 (.pointer (some (s j)))] w' fun x w'' => x = .returned (.bool ((j : Int) == code)) ∧ Gr w' w'' := fun w' hw j hj1 hj2 => by
        have hi := is_nil 82 (.pointer (some (s j))) w'
        rw [show false = ((j : Int) == code) by symm; rw [beq_eq_false_iff_ne]; omega] at hi
        exact hi
      obtain ⟨ev, hev⟩ : ∃ ev, Value.nilIface = ev := ⟨_, rfl⟩
      rw [hev] at hIS
    all_goals
      replace hg := hg.trans hg3
      have HIS := Lib.hid hIS
      clear hIS hg3 hcc
      have HG3 := Lib.hid (Gr.refl w3)
      try subst hev
      go_wp2_with fail
      go_loopw [4] (fun i wr => ∃ j : Nat, 2 ≤ j ∧ j ≤ 18 ∧ i = .int .i64 (j : Int) ∧ Gr w3 wr) (fun i _ => 18 - (intOf i).toNat)
      case atStart => exact ⟨2, by omega, by omega, rfl, Gr.refl _⟩
      case round =>
        obtain ⟨j, hj1, hj2, rfl, hgr⟩ := hrel
        by_cases hj17 : (j : Int) ≤ 17
        · have hof := fun w' (h : Gr wr w') => faultOf_any (HF.out.later (hg.trans (hgr.trans h))) j hj1 (by omega)
          have his := fun w' (h : Gr wr w') => HIS.out w' (hgr.trans h) j hj1 (by omega)
          have HOF := Lib.hid hof
          have HI := Lib.hid his
          clear hof his
          have xr := xe.later hgr
          have c_e0 := xr.cell 0 _ rfl
          have c_e1 := xr.cell 1 _ rfl
          have c_e2 := xr.cell 2 _ rfl
          have m_e0 := xr.mark 0 _ rfl
          have m_e1 := xr.mark 1 _ rfl
          have m_e2 := xr.mark 2 _ rfl
          have l_e := xr.lt (Nat.succ_pos _)
          have HJ := Lib.hid hj17
          go_wp2_with fail
          refine wp_region_G (.take 0 (.take 1 (.take 4 (.take 5 (.take 6 (.take 7 (.run 2 false (.run 3 false (.take 8 .nil))))))))) (by kernel_rfl) (by kernel_rfl) ?_
          simp only [pickOps, nthOp]
          intro wq hG
          repeat (first | (refine wpG_skip_take ?_ ?_; (focus rfl); try simp only [Act.put, List.setIfInBounds_toArray, List.set_cons_zero, List.set_cons_succ]) | (refine wpG_skip_run ?_ ?_; (focus rfl); try simp only [Act.put, List.setIfInBounds_toArray, List.set_cons_zero, List.set_cons_succ]) | (refine wpG_take ?_ ?_; (focus rfl); apply Exists.intro; refine ⟨fun w' hw' => ?_, ?_⟩; (focus (have hc := Gr.cells hw'; go_simp; (try rfl); done)); try simp only [Act.put, List.setIfInBounds_toArray, List.set_cons_zero, List.set_cons_succ]) | (refine wpG_run ?_ (fun K hK => ?_); (focus rfl); go_simp; (first | (go_at_call 18; (with_reducible refine (HOF.out _ hG).mono ?_); rintro e w' ⟨rfl, hb⟩) | (go_at_call 17; (with_reducible refine (HI.out _ hG).mono ?_); rintro e w' ⟨rfl, hb⟩)); (try dsimp only); replace hG := hG.trans hb; refine hK.out _ _ hG ?_; clear hK K hb; try simp only [Act.put, List.setIfInBounds_toArray, List.set_cons_zero, List.set_cons_succ]))
          refine wpG_done ?_
          go_wp2_with fail
          go_roundw
          case rel => exact ⟨j + 1, by omega, by have := HJ.out; omega, by go_num, hgr.trans hG⟩
          case measure => have := HJ.out; simp [intOf]; omega
        · go_wp2_with fail
          go_at_call 16
          refine (wakesF_any (HF.out.later (hg.trans hgr)) (HT.out.later (hg.trans hgr))).mono ?_; rintro r w5 ⟨rfl, hg5⟩
          go_wp2_with fail
          go_ret
          exact ⟨rfl, hg.trans (hgr.trans hg5)⟩

end Go.Proofs.YtndefbkcondmcaaDoor
