/- bolterlaw2: wrapped of none; fault.Of of no code; made. No condition but the errors' variables. -/
import Derived.Test.YtndefbkcondmcaaDoorPWrapped
namespace Go.Proofs.YtndefbkcondmcaaDoor
open Go Go.RowKit

set_option maxRecDepth 100000 in
set_option maxHeartbeats 8000000 in
theorem wrapped_nil {W : World} (x : WrP × Value) (hx : WrIn W x) :
    Calls Tryd.prog 19 #[.nilIface, .agg #[.int .i64 x.1.kind, .int .i64 x.1.n, x.2]] W fun r w' => r = .returned .nilIface ∧ Gr W w' := by
  have HX := Lib.hid hx
  obtain ⟨q, d, hq⟩ := hx.names.len
  rw [hq]
  have HQ := Lib.hid hq
  obtain ⟨k, hk⟩ : ∃ k, x.1.kind = k := ⟨_, rfl⟩
  obtain ⟨n, hn⟩ : ∃ n, x.1.n = n := ⟨_, rfl⟩
  rw [hk, hn]
  clear hx hq hk hn
  go_enter Tryd.func19, Tryd.ntmps19
  by_cases h1 : k = 1
  · go_wp2_with fail
    go_at_call 29
    refine name_calls (fun W1 hW => ?_)
    have hg : Gr W W1 := by rw [hW]; exact Gr.alloc _ _
    clear hW
    refine (nil_Place n W1).mono ?_; rintro r w2 ⟨rfl, hg2⟩
    go_wp2_with fail
    go_ret
    exact ⟨rfl, hg.trans hg2⟩
  by_cases h2 : k = 2
  · go_wp2_with fail
    go_at_call 32
    refine name_calls (fun W1 hW => ?_)
    have hg : Gr W W1 := by rw [hW]; exact Gr.alloc _ _
    clear hW
    refine (copyTexts_any _ x.1.names W1 (HQ.out ▸ HX.out.names.later hg) (HQ.out ▸ HX.out.nily) HX.out.room).mono ?_
    rintro r w2 ⟨lv, rfl, hown, hg2⟩
    have hgW1 := hg
    replace hg := hg.trans hg2
    have hsl := Sl.of_owns hown
    obtain ⟨p1, c1, rfl⟩ := hsl.len
    go_wp2_with fail
    go_at_call 33
    refine (nil_Named _ w2).mono ?_
    rintro r w3 ⟨rfl, hg3⟩
    have hgl : ∀ g, p1 = some ⟨g, 0, none⟩ → W.heap.size ≤ g ∧ g < w2.heap.size := fun g h => by
      subst h
      have := World.ownsRow.lt hown g rfl
      exact ⟨Nat.le_trans hgW1.size this.1, this.2⟩
    replace hown := owns_later hown hg3
    replace hg := hg.trans hg3
    have hnl := hsl.2.1
    unfold maxLen at hnl
    have HGL := Lib.hid hgl
    clear hsl hg3 hgl
    go_wp2_with fail
    go_loopw [7] (fun i wr => ∃ j : Nat, j ≤ x.1.names.length ∧ i = .int .i64 (j : Int) ∧ Gr W wr ∧ ∃ ls : List (List UInt8), ls.length = x.1.names.length ∧ wr.ownsRow W1.heap.size 9 1 (.slice p1 x.1.names.length c1) x.1.names.length (ls.map vS)) (fun i _ => x.1.names.length - (intOf i).toNat)
    case atStart => exact ⟨0, Nat.zero_le _, rfl, hg, x.1.names, rfl, hown⟩
    case round =>
      clear hg hown
      obtain ⟨j, hj, rfl, hg, ls, hls, hown⟩ := hrel
      rcases Nat.lt_or_ge j x.1.names.length with hjl | hjl
      · obtain ⟨g, cap, hgv, hB, hlt, _⟩ := owns_block hown (by omega)
        injection hgv with hp1 _ hc1
        subst hp1 hc1
        obtain ⟨y, hy⟩ : ∃ y, ls[j]? = some y := ⟨_, List.getElem?_eq_getElem (by omega)⟩
        have hcell := owns_cell hown j (vS y) (by rw [List.getElem?_map, hy]; rfl)
        have hmark := owns_mark hown j
        have hjI : (j : Int) < (x.1.names.length : Int) := by omega
        obtain ⟨hgl1, hgl2⟩ := HGL.out g rfl
        have HALL := Lib.hid (show _ ∧ _ from ⟨hg, hown⟩)
        have HLS := Lib.hid hls
        have HJ := Lib.hid hjl
        unfold vS at hcell
        clear hg hown hls hy hj hjl
        go_wp2_with fail
        go_roundw
        case rel =>
          obtain ⟨hg, hown⟩ := HALL.out
          have hjl := HJ.out
          have hls := HLS.out
          refine ⟨j + 1, by omega, by go_num, hg.setCell (p := ⟨g, j, none⟩) hgl1 _, ls.set j [111, 118, 101, 114], by rw [List.length_set]; exact hls, ?_⟩
          have := owns_set hown j (by rw [List.length_map]; omega) (vS [111, 118, 101, 114])
          rw [vS_set] at this
          exact this
        case measure => have := HJ.out; simp [intOf]; omega
      · have hje : j = x.1.names.length := by omega
        subst hje
        clear hj hjl
        go_wp2_with fail
        go_ret
        exact ⟨rfl, hg⟩
  by_cases h3 : k = 3
  · go_wp2_with fail
    go_at_call 34
    refine name_calls (fun W1 hW => ?_)
    have hg : Gr W W1 := by rw [hW]; exact Gr.alloc _ _
    clear hW
    refine (nil_InRule n W1).mono ?_; rintro r w2 ⟨rfl, hg2⟩
    go_wp2_with fail
    go_ret
    exact ⟨rfl, hg.trans hg2⟩
  by_cases h4 : k = 4
  · go_wp2_with fail
    go_at_call 28
    refine name_calls (fun W1 hW => ?_)
    have hg : Gr W W1 := by rw [hW]; exact Gr.alloc _ _
    clear hW
    refine (nil_InStage n W1).mono ?_; rintro r w2 ⟨rfl, hg2⟩
    go_wp2_with fail
    go_ret
    exact ⟨rfl, hg.trans hg2⟩
  · go_wp2_with fail
    go_ret
    exact ⟨rfl, Gr.alloc _ _⟩

set_option maxRecDepth 100000 in
set_option maxHeartbeats 8000000 in
theorem of_nil (c : Int) (w : World) (h : c < 2 ∨ 17 < c) : Calls Tryd.prog 18 #[.int .i64 c] w fun r w' => r = .returned .nilIface ∧ Gr w w' := by
  have h2 : ¬ c = 2 := by omega
  have h3 : ¬ c = 3 := by omega
  have h4 : ¬ c = 4 := by omega
  have h5 : ¬ c = 5 := by omega
  have h6 : ¬ c = 6 := by omega
  have h7 : ¬ c = 7 := by omega
  have h8 : ¬ c = 8 := by omega
  have h9 : ¬ c = 9 := by omega
  have h10 : ¬ c = 10 := by omega
  have h11 : ¬ c = 11 := by omega
  have h12 : ¬ c = 12 := by omega
  have h13 : ¬ c = 13 := by omega
  have h14 : ¬ c = 14 := by omega
  have h15 : ¬ c = 15 := by omega
  have h16 : ¬ c = 16 := by omega
  have h17 : ¬ c = 17 := by omega
  clear h
  go_enter Tryd.func18, Tryd.ntmps18
  go_wp2_with fail
  go_ret
  exact ⟨rfl, Gr.refl _⟩

/-- The sentinels' texts. -/
def FaultsT (W : World) (s : Nat → Addr) : Prop := ∀ k, 2 ≤ k → k ≤ 17 → W.cell? (s k) = some (.string (st (wordP k)))
theorem FaultsT.later {W W' : World} {s : Nat → Addr} (h : FaultsT W s) (hG : Gr W W') : FaultsT W' s := fun k h1 h2 => hG.cell (h k h1 h2)
/-- What the innermost error is. -/
def BaseIs (W : World) (s : Nat → Addr) (code : Int) (own : List UInt8) (s0 : Addr) (t0 : List UInt8) : Prop :=
  (∃ k : Nat, 2 ≤ k ∧ k ≤ 17 ∧ code = (k : Int) ∧ s0 = s k ∧ t0 = wordP k) ∨ (code = 1 ∧ W.heap.size ≤ s0.block ∧ t0 = own)

set_option maxRecDepth 100000 in
set_option maxHeartbeats 8000000 in
theorem made_some {W : World} {s : Nat → Addr} (hF : FaultsIn W s) (hT : FaultsT W s) (code : Int) (own : List UInt8) (lv : Value) (L : List (WrP × Value)) (h : EIn W own lv L) (hc : 1 ≤ code ∧ code ≤ 17) :
    Calls Tryd.prog 9 #[.agg #[.int .i64 code, .string (st own), lv]] W fun r w' => Gr W w' ∧ ∃ e s0 t0, r = .returned e.val ∧ BaseIs W s code own s0 t0 ∧ Ch w' s0 t0 (L.map (·.1)) e := by
  obtain ⟨p, c, rfl⟩ := h.row.len
  have H := Lib.hid h
  have hmx := h.row.2.1
  unfold maxLen at hmx
  have HF := Lib.hid hF
  have HT := Lib.hid hT
  clear h hF hT
  go_enter Tryd.func9, Tryd.ntmps9
  go_wp2_with fail
  go_at_call 18
  refine name_calls (fun W1 hW => ?_)
  have xe : boxAt W1 W.heap.size [.int .i64 code, .string (st own), .slice p L.length c] := boxAt.new _ _ hW
  have hg : Gr W W1 := by rw [hW]; exact Gr.alloc _ _
  clear hW
  by_cases hc1 : code = 1
  case' pos =>
    refine (of_nil code W1 (by omega)).mono ?_; rintro r w2 ⟨rfl, hg2⟩
    replace xe := xe.later hg2
    replace hg := hg.trans hg2
    have c_e0 := xe.cell 0 _ rfl
    have c_e1 := xe.cell 1 _ rfl
    have c_e2 := xe.cell 2 _ rfl
    have m_e0 := xe.mark 0 _ rfl
    have m_e1 := xe.mark 1 _ rfl
    have m_e2 := xe.mark 2 _ rfl
    have l_e := xe.lt (Nat.succ_pos _)
    go_wp2_with fail
    go_at_call 22
    refine (new_any own w2).mono ?_; rintro r w3 ⟨rfl, hb3, hin, hg3⟩
    replace xe := xe.later hg3
    clear c_e0 c_e1 c_e2 m_e0 m_e1 m_e2 l_e
    have hgs := hg.size
    replace hg := hg.trans hg3
    have hev : Value.iface 82 (.pointer (some ⟨w2.heap.size, 0, none⟩)) = (Er.leaf ⟨w2.heap.size, 0, none⟩).val := rfl
    obtain ⟨s0, hs0⟩ : ∃ s0 : Addr, s0 = ⟨w2.heap.size, 0, none⟩ := ⟨_, rfl⟩
    obtain ⟨t1, ht1⟩ : ∃ t1, t1 = own := ⟨_, rfl⟩
    have hch : Ch w3 s0 t1 [] (.leaf s0) := by rw [hs0, ht1]; exact Ch.leaf hin (hb3.cell 0 _ rfl)
    have hbase : BaseIs W s code own s0 t1 := .inr ⟨hc1, by rw [hs0]; exact hgs, ht1⟩
    rw [← hs0] at hev ⊢
    clear hs0 ht1 hb3 hin hgs hc1
  case' neg =>
    obtain ⟨k, hk⟩ : ∃ k : Nat, code = (k : Int) := ⟨code.toNat, by omega⟩
    have hof := faultOf_any (HF.out.later hg) k (by omega) (by omega)
    rw [← hk] at hof
    refine hof.mono ?_; clear hof; rintro r w3 ⟨rfl, hg3⟩
    replace xe := xe.later hg3
    replace hg := hg.trans hg3
    have hbase : BaseIs W s code own (s k) (wordP k) := .inl ⟨k, by omega, by omega, hk, rfl, rfl⟩
    have hch : Ch w3 (s k) (wordP k) [] (.leaf (s k)) := Ch.leaf ((HF.out.later hg).leaf k (by omega) (by omega)) (HT.out.later hg k (by omega) (by omega))
    have hev : Value.iface 82 (.pointer (some (s k))) = (Er.leaf (s k)).val := rfl
    obtain ⟨s0, hs0⟩ : ∃ s0 : Addr, s0 = s k := ⟨_, rfl⟩
    obtain ⟨t1, ht1⟩ : ∃ t1, t1 = wordP k := ⟨_, rfl⟩
    rw [← hs0, ← ht1] at hch
    rw [← hs0, ← ht1] at hbase
    rw [← hs0] at hev ⊢
    clear hs0 ht1 hk
  all_goals
    have HCH := Lib.hid hch
    have HBS := Lib.hid hbase
    have HEV := Lib.hid hev
    clear hch hbase hev hc
    have c_e0 := xe.cell 0 _ rfl
    have c_e1 := xe.cell 1 _ rfl
    have c_e2 := xe.cell 2 _ rfl
    have m_e0 := xe.mark 0 _ rfl
    have m_e1 := xe.mark 1 _ rfl
    have m_e2 := xe.mark 2 _ rfl
    have l_e := xe.lt (Nat.succ_pos _)
    go_wp2_with fail
    clear c_e0 c_e1 c_e2 m_e0 m_e1 m_e2 l_e
    try generalize (code == 1) = cb
    go_loopw [3, 4] (fun ev i wr => ∃ (k : Nat) (e : Er), k ≤ L.length ∧ ev = e.val ∧ i = .int .i64 (k : Int) ∧ Gr W wr ∧ boxAt wr W.heap.size [.int .i64 code, .string (st own), .slice p L.length c] ∧ Hid (Ch wr s0 t1 ((L.take k).map (·.1)) e)) (fun _ i _ => L.length - (intOf i).toNat)
    case atStart => exact ⟨0, _, Nat.zero_le _, HEV.out, rfl, hg, xe, by rw [List.take_zero]; exact HCH⟩
    case round =>
      clear hg xe
      obtain ⟨k, e, hk, rfl, rfl, hg, xe, hch⟩ := hrel
      have c_e0 := xe.cell 0 _ rfl
      have c_e1 := xe.cell 1 _ rfl
      have c_e2 := xe.cell 2 _ rfl
      have m_e0 := xe.mark 0 _ rfl
      have m_e1 := xe.mark 1 _ rfl
      have m_e2 := xe.mark 2 _ rfl
      have l_e := xe.lt (Nat.succ_pos _)
      cases hx : L[k]? with
      | none =>
        have hkl : k = L.length := by
          rcases Nat.lt_or_ge k L.length with h | h
          · rw [List.getElem?_eq_getElem h] at hx; cases hx
          · omega
        subst hkl
        clear hx hk
        go_wp2_with fail
        go_ret
        rw [List.take_length] at hch
        exact ⟨hg, e, s0, t1, rfl, HBS.out, hch.out⟩
      | some x =>
        have hkl : k < L.length := (List.getElem?_eq_some_iff.1 hx).1
        have HX := Lib.hid hx
        obtain ⟨b, off, rfl, hb, hcl⟩ := sl_part wrC_len (H.out.row.later hg) hx
        have a0 := hcl 0 _ (by omega) rfl
        have a1 := hcl 1 _ (by omega) rfl
        have a2 := hcl 2 _ (by omega) rfl
        rw [Nat.add_zero] at a0
        have HWX := Lib.hid ((H.out.each x (List.mem_of_getElem? hx)).later hg)
        have hkI : (k : Int) < (L.length : Int) := by omega
        have HKL := Lib.hid hkl
        obtain ⟨q, d, hq⟩ := HWX.out.names.len
        have hq0 := hq
        rw [hq] at a2
        have HW := Lib.hid (wrapped_any e x hch.out HWX.out)
        rw [hq] at HW
        clear hx hk hcl hq hq0 hkl
        go_wp2_with fail
        go_at_call 19
        refine HW.out.mono ?_; rintro r w5 ⟨e', rfl, hch5, hg5⟩
        replace xe := xe.later hg5
        replace hg := hg.trans hg5
        have HC5 := Lib.hid hch5
        clear hch5
        go_wp2_with fail
        go_roundw
        case rel =>
          refine ⟨k + 1, e', by have := HKL.out; omega, rfl, by go_num, hg, xe, ?_⟩
          obtain ⟨hk2, hk3⟩ := List.getElem?_eq_some_iff.1 HX.out
          rw [List.take_succ_eq_append_getElem hk2, List.map_append]
          rw [hk3]
          exact HC5
        case measure => have := HKL.out; simp [intOf]; omega

end Go.Proofs.YtndefbkcondmcaaDoor
