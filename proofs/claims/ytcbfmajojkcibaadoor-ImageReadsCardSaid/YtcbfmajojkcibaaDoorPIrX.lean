/- bolterlaw17.ImageExact. Printed by gen_irx.py. No condition but bounds of lengths and that the errors' variables hold them. -/
import Derived.Test.YtcbfmajojkcibaaDoorPGm
import Derived.Test.YtcbfmajojkcibaaDoorPIrF
import Derived.Test.YtcbfmajojkcibaaDoorPImgU
import Derived.Test.YtcbfmajojkcibaaDoorPGb
namespace Go.Proofs.YtcbfmajojkcibaaDoor
open Go Go.RowKit

theorem OwnL.tabs {w : World} {B : Nat} {t : Tb} {v : TbV} (h : OwnL w B (rowsOf t v)) (hlen : v.rows.length = t.acts.length) (ht : ∀ s, s ∈ t.modes ∨ s ∈ t.labels → s.length ≤ 9223372036854775807) : TbIn w t v := by
  have hm : ∀ r ∈ rowsOf t v, Sl w r.v r.k r.n r.xs := fun r hr => Sl.of_owns (h r hr)
  refine ⟨hm _ (by simp [rowsOf]; exact .inl rfl), hm ⟨v.labels, 9, 1, t.labels.length, t.labels.map vS⟩ (by simp [rowsOf]), hm ⟨v.cuts, 58, 2, t.cuts.length, t.cuts.flatMap prC⟩ (by simp [rowsOf]), hm ⟨v.acts, 59, 1, t.acts.length, v.rows⟩ (by simp [rowsOf]), fun k a hk => ?_,
    hm ⟨v.classes, 3, 1, t.classes.length, t.classes.map vI⟩ (by simp [rowsOf]), hm ⟨v.starts, 3, 1, t.starts.length, t.starts.map vI⟩ (by simp [rowsOf]), hm ⟨v.label, 3, 1, t.label.length, t.label.map vI⟩ (by simp [rowsOf]), hm ⟨v.base, 3, 1, t.base.length, t.base.map vI⟩ (by simp [rowsOf]),
    hm ⟨v.dflt, 3, 1, t.dflt.length, t.dflt.map vI⟩ (by simp [rowsOf]), hm ⟨v.next, 3, 1, t.next.length, t.next.map vI⟩ (by simp [rowsOf]), hm ⟨v.check, 3, 1, t.check.length, t.check.map vI⟩ (by simp [rowsOf]), ?_, ht⟩
  · obtain ⟨u, h1, h2⟩ := actRows_get t.acts v.rows k a hlen hk
    exact ⟨u, h1, hm ⟨u, 61, 2, a.length, a.flatMap prC⟩ (List.mem_append_right _ h2)⟩
  · intro p n c hv
    have ho := h ⟨v.modes, 9, 1, t.modes.length, t.modes.map vS⟩ (by simp [rowsOf])
    obtain ⟨_, ⟨h2, h3⟩ | ⟨g, cap, cur, h2, _, _, h3, _⟩⟩ := ho
    · have h2 : v.modes = .slice none 0 0 := h2
      rw [h2] at hv; injection hv with _ e1 e2; omega
    · have h2 : v.modes = .slice (some ⟨g, 0, none⟩) t.modes.length cap := h2
      have h3 : t.modes.length ≤ cap := h3
      rw [h2] at hv; injection hv with _ e1 e2; omega
/-- A card: tables, and where they lie. -/
def cardC (x : Tb × TbV) : List Value := tbC x.1 x.2
theorem cardC_len (x : Tb × TbV) : (cardC x).length = 12 := rfl
def FitB (t : Tb) : Prop := ∀ s, s ∈ t.base → -9223372036854775808 ≤ s ∧ s ≤ 9223372036854775807
/-- What both say of tables. -/
structure Judged (w : World) (t : Tb) (M : Bool) (R : List UInt8) (cd : Int) (er : Value) : Prop where
  may : mayB t = M
  len : R.length ≤ 2097152
  enc : ∀ v w', Gr w w' → TbIn w' t v → Calls Tryd.prog 10 #[tbV t v] w' fun e w2 => ∃ p c, e = .returned (.tuple #[.slice p R.length c, er]) ∧ OwnB w2 w'.heap.size (.slice p R.length c) R ∧ Gr w' w2
  ref : ∀ v w', Gr w w' → TbIn w' t v → Calls Tryd.prog 9 #[tbV t v] w' fun e w2 => ∃ p c, e = .returned (.tuple #[.slice p R.length c, .agg #[.int .i64 cd, .int .i64 0, .int .i64 0, .int .i64 0, .slice none 0 0]]) ∧ OwnB w2 w'.heap.size (.slice p R.length c) R ∧ Gr w' w2
  same : ∀ w', Gr w w' → Calls Tryd.prog 13 #[er, .agg #[.int .i64 cd, .int .i64 0, .int .i64 0, .int .i64 0, .slice none 0 0]] w' fun e w2 => e = .returned (.bool true) ∧ Gr w' w2
theorem own_shape {w : World} {B : Nat} {v : Value} {l : List UInt8} (h : OwnB w B v l) : ∃ p c, v = .slice p l.length c := (Sl.of_owns h).len
theorem judged (w : World) (s : Nat → Addr) (hF : FaultsIn w s) (t : Tb) (hfit : FitB t) : ∃ M R cd er, Judged w t M R cd er := by
  cases hm : mayB t with
  | true =>
    refine ⟨true, encT t, 0, .nilIface, hm, encT_len hm, fun v w' hg h => ?_, fun v w' hg h => ?_, fun w' hg => same_nil w'⟩
    · exact (encI_ok t v w' h hfit hm).mono fun e w2 ⟨u, h1, h2, h3⟩ => by
        obtain ⟨p, c, rfl⟩ := own_shape h2
        exact ⟨p, c, h1, h2, h3⟩
    · exact (enc17_ok t v w' h hfit hm).mono fun e w2 ⟨u, h1, h2, h3⟩ => by
        obtain ⟨p, c, rfl⟩ := own_shape h2
        exact ⟨p, c, h1, h2, h3⟩
  | false =>
    refine ⟨false, [], 15, esI s 15, hm, by simp, fun v w' hg h => ?_, fun v w' hg h => ?_, fun w' hg => leaf_same (hF.later hg) 15 (by omega) (by omega)⟩
    · exact (encI_bad t v w' s (hF.later hg) h hfit hm).mono fun e w2 ⟨h1, h3⟩ => ⟨none, 0, h1, World.ownsRow_nil .., h3⟩
    · exact (enc17_bad t v w' h hfit hm).mono fun e w2 ⟨h1, h3⟩ => ⟨none, 0, h1, World.ownsRow_nil .., h3⟩
theorem eqR (R : List UInt8) (v u : Value) (w : World) (hv : Sl w v 1 R.length (R.map vB)) (hu : Sl w u 1 R.length (R.map vB)) : Calls Tryd.prog 14 #[v, u] w fun e w' => e = .returned (.bool true) ∧ Gr w w' := by
  have := eqB_any R R v u w hv hu
  rw [show (R == R) = true by simp] at this; exact this
theorem card_at {w : World} {p : Option Addr} {c n : Nat} {ts : List (Tb × TbV)} (h : Sl w (.slice p n c) 12 n (ts.flatMap cardC)) {k : Nat} {x : Tb × TbV} (hk : ts[k]? = some x) (hn : 0 < n) :
    ∃ b off, p = some ⟨b, off, none⟩ ∧ b < w.heap.size ∧ ∀ j u, (cardC x)[j]? = some u → w.cell? ⟨b, off + k * 12 + j, none⟩ = some u := by
  obtain ⟨hlen, _, ⟨_, h0⟩ | ⟨b, off, cap, hv, hb, hc⟩⟩ := h
  · omega
  · injection hv with hp _ _
    refine ⟨b, off, hp, hb (by omega), fun j u hj => ?_⟩
    have hj12 : j < 12 := by have := (List.getElem?_eq_some_iff.1 hj).1; rw [cardC_len] at this; exact this
    rw [Nat.add_assoc]
    exact hc (k * 12 + j) u (by rw [flatMap_get cardC 12 cardC_len ts k j x hk hj12]; exact hj)

set_option maxRecDepth 100000 in
set_option maxHeartbeats 16000000 in
theorem imageExact_any (ts : List (Tb × TbV)) (v : Value) (w : World) (s : Nat → Addr) (hF : FaultsIn w s) (h : Sl w v 12 ts.length (ts.flatMap cardC)) (ht : ∀ x ∈ ts, TbCp w x.1 x.2 ∧ FitB x.1) :
    Calls Tryd.prog 3 #[v] w fun e w' => e = .returned (.bool true) ∧ Gr w w' := by
  have HF := Lib.hid hF
  have HT := Lib.hid ht
  have HW := Lib.hid (fun w' (hg : Gr w w') => wakes17_any w' s (hF.later hg))
  have hmx := h.2.1
  unfold maxLen at hmx
  obtain ⟨n, hn⟩ : ∃ n, ts.length = n := ⟨_, rfl⟩
  rw [hn] at h hmx
  obtain ⟨p, c, rfl⟩ := h.len
  have H := Lib.hid h
  have HN := Lib.hid hn
  clear hF ht h hn
  go_enter Tryd.func3, Tryd.ntmps3
  go_wp2_with fail
  go_loopw [3, 4, 5, 6, 7, 8, 9] (fun i _ _ _ _ _ _ wr => ∃ k : Nat, k ≤ 6 ∧ i = .int .i64 (k : Int) ∧ Gr w wr) (fun i _ _ _ _ _ _ _ => 6 - (intOf i).toNat)
  case atStart => exact ⟨0, by omega, rfl, Gr.refl _⟩
  case round =>
    obtain ⟨k, hk6, rfl, hg⟩ := hrel
    by_cases hend : k < n ∧ k < 6
    · obtain ⟨hkn, hk⟩ := hend
      have hkI : (k : Int) < (n : Int) := by omega
      have hkJ : (k : Int) < 6 := by omega
      obtain ⟨x, hx⟩ : ∃ x, ts[k]? = some x := ⟨_, List.getElem?_eq_getElem (by rw [HN.out]; exact hkn)⟩
      obtain ⟨b, off, rfl, hbl, hc⟩ := card_at H.out hx (by omega)
      obtain ⟨hcp, hfit⟩ := HT.out x (List.mem_of_getElem? hx)
      obtain ⟨t, v⟩ := x
      dsimp only at hcp hfit
      obtain ⟨M, R, cd, er, hJ⟩ := judged w s HF.out t hfit
      have hCP := copyTables_any t v w hcp
      obtain ⟨co, hco⟩ : ∃ co, t.count = co := ⟨_, rfl⟩
      obtain ⟨n0, hn0⟩ : ∃ n, t.modes.length = n := ⟨_, rfl⟩
      obtain ⟨n1, hn1⟩ : ∃ n, t.labels.length = n := ⟨_, rfl⟩
      obtain ⟨n2, hn2⟩ : ∃ n, t.cuts.length = n := ⟨_, rfl⟩
      obtain ⟨n3, hn3⟩ : ∃ n, t.acts.length = n := ⟨_, rfl⟩
      obtain ⟨n4, hn4⟩ : ∃ n, t.classes.length = n := ⟨_, rfl⟩
      obtain ⟨n5, hn5⟩ : ∃ n, t.starts.length = n := ⟨_, rfl⟩
      obtain ⟨n6, hn6⟩ : ∃ n, t.label.length = n := ⟨_, rfl⟩
      obtain ⟨n7, hn7⟩ : ∃ n, t.base.length = n := ⟨_, rfl⟩
      obtain ⟨n8, hn8⟩ : ∃ n, t.dflt.length = n := ⟨_, rfl⟩
      obtain ⟨n9, hn9⟩ : ∃ n, t.next.length = n := ⟨_, rfl⟩
      obtain ⟨n10, hn10⟩ : ∃ n, t.check.length = n := ⟨_, rfl⟩
      obtain ⟨v0, v1, v2, v3, vr, v4, v5, v6, v7, v8, v9, v10⟩ := v
      obtain ⟨p0, c0, rfl⟩ : ∃ p c, v0 = .slice p n0 c := by rw [← hn0]; exact hcp.tb.modes.len
      obtain ⟨p1, c1, rfl⟩ : ∃ p c, v1 = .slice p n1 c := by rw [← hn1]; exact hcp.tb.labels.len
      obtain ⟨p2, c2, rfl⟩ : ∃ p c, v2 = .slice p n2 c := by rw [← hn2]; exact hcp.tb.cuts.len
      obtain ⟨p3, c3, rfl⟩ : ∃ p c, v3 = .slice p n3 c := by rw [← hn3]; exact hcp.tb.acts.len
      obtain ⟨p4, c4, rfl⟩ : ∃ p c, v4 = .slice p n4 c := by rw [← hn4]; exact hcp.tb.classes.len
      obtain ⟨p5, c5, rfl⟩ : ∃ p c, v5 = .slice p n5 c := by rw [← hn5]; exact hcp.tb.starts.len
      obtain ⟨p6, c6, rfl⟩ : ∃ p c, v6 = .slice p n6 c := by rw [← hn6]; exact hcp.tb.label.len
      obtain ⟨p7, c7, rfl⟩ : ∃ p c, v7 = .slice p n7 c := by rw [← hn7]; exact hcp.tb.base.len
      obtain ⟨p8, c8, rfl⟩ : ∃ p c, v8 = .slice p n8 c := by rw [← hn8]; exact hcp.tb.dflt.len
      obtain ⟨p9, c9, rfl⟩ : ∃ p c, v9 = .slice p n9 c := by rw [← hn9]; exact hcp.tb.next.len
      obtain ⟨p10, c10, rfl⟩ : ∃ p c, v10 = .slice p n10 c := by rw [← hn10]; exact hcp.tb.check.len
      clear hn0 hn1 hn2 hn3 hn4 hn5 hn6 hn7 hn8 hn9 hn10
      have hTB := hcp.tb
      have HTX := Lib.hid hTB.texts
      have HCPY := Lib.hid (fun w' (hg' : Gr w w') => copyTables_any t ⟨.slice p0 n0 c0, .slice p1 n1 c1, .slice p2 n2 c2, .slice p3 n3 c3, vr, .slice p4 n4 c4, .slice p5 n5 c5, .slice p6 n6 c6, .slice p7 n7 c7, .slice p8 n8 c8, .slice p9 n9 c9, .slice p10 n10 c10⟩ w' (hcp.later hg'))
      have HREF := Lib.hid (fun w' (hg' : Gr w w') => hJ.ref ⟨.slice p0 n0 c0, .slice p1 n1 c1, .slice p2 n2 c2, .slice p3 n3 c3, vr, .slice p4 n4 c4, .slice p5 n5 c5, .slice p6 n6 c6, .slice p7 n7 c7, .slice p8 n8 c8, .slice p9 n9 c9, .slice p10 n10 c10⟩ w' hg' (hTB.later hg'))
      have HMAY := Lib.hid (fun w' (hg' : Gr w w') => may17_any t ⟨.slice p0 n0 c0, .slice p1 n1 c1, .slice p2 n2 c2, .slice p3 n3 c3, vr, .slice p4 n4 c4, .slice p5 n5 c5, .slice p6 n6 c6, .slice p7 n7 c7, .slice p8 n8 c8, .slice p9 n9 c9, .slice p10 n10 c10⟩ w' (hTB.later hg') hfit)
      have HC := Lib.hid hc
      have HJ := Lib.hid hJ
      have HTB := Lib.hid hTB
      have HFIT := Lib.hid hfit
      have hRl := hJ.len
      clear hc hCP hcp
      unfold cardC tbC at HC
      unfold tbV at HCPY HREF HMAY
      dsimp only at HC HCPY HREF HMAY
      rw [hco] at HC HCPY HREF HMAY
      rw [hJ.may] at HMAY
      have HCO := Lib.hid hco
      clear hx hkn hk hk6 hJ hTB hfit hco
      have hbr := Nat.lt_of_lt_of_le hbl hg.size
      have k_0 : wr.cell? ⟨b, off + k * 12, none⟩ = some (.slice p0 n0 c0) := hg.cell (HC.out 0 _ rfl)
      have k_1 : wr.cell? ⟨b, off + k * 12 + 1, none⟩ = some (.slice p1 n1 c1) := hg.cell (HC.out 1 _ rfl)
      have k_2 : wr.cell? ⟨b, off + k * 12 + 2, none⟩ = some (.slice p2 n2 c2) := hg.cell (HC.out 2 _ rfl)
      have k_3 : wr.cell? ⟨b, off + k * 12 + 3, none⟩ = some (.slice p3 n3 c3) := hg.cell (HC.out 3 _ rfl)
      have k_4 : wr.cell? ⟨b, off + k * 12 + 4, none⟩ = some (.slice p4 n4 c4) := hg.cell (HC.out 4 _ rfl)
      have k_5 : wr.cell? ⟨b, off + k * 12 + 5, none⟩ = some (.int .i64 co) := hg.cell (HC.out 5 _ rfl)
      have k_6 : wr.cell? ⟨b, off + k * 12 + 6, none⟩ = some (.slice p5 n5 c5) := hg.cell (HC.out 6 _ rfl)
      have k_7 : wr.cell? ⟨b, off + k * 12 + 7, none⟩ = some (.slice p6 n6 c6) := hg.cell (HC.out 7 _ rfl)
      have k_8 : wr.cell? ⟨b, off + k * 12 + 8, none⟩ = some (.slice p7 n7 c7) := hg.cell (HC.out 8 _ rfl)
      have k_9 : wr.cell? ⟨b, off + k * 12 + 9, none⟩ = some (.slice p8 n8 c8) := hg.cell (HC.out 9 _ rfl)
      have k_10 : wr.cell? ⟨b, off + k * 12 + 10, none⟩ = some (.slice p9 n9 c9) := hg.cell (HC.out 10 _ rfl)
      have k_11 : wr.cell? ⟨b, off + k * 12 + 11, none⟩ = some (.slice p10 n10 c10) := hg.cell (HC.out 11 _ rfl)
      by_cases h5 : (5000 : Int) < (n10 : Int)
      · go_wp2_with fail
        go_roundw
        case rel => exact ⟨k + 1, by omega, by go_num, hg⟩
        case measure => simp [intOf]; omega
      by_cases h2 : (2000 : Int) < (n6 : Int)
      · go_wp2_with fail
        go_roundw
        case rel => exact ⟨k + 1, by omega, by go_num, hg⟩
        case measure => simp [intOf]; omega
      go_wp2_with fail
      go_at_call 8
      (with_reducible refine (HCPY.out wr hg).mono ?_); rintro e w1 ⟨u, rfl, hol, hul, hb⟩
      have hg1 := hg.trans hb
      have hU : TbIn w1 t u := hol.tabs hul HTX.out
      obtain ⟨u0, u1, u2, u3, ur, u4, u5, u6, u7, u8, u9, u10⟩ := u
      obtain ⟨r0, m0, e0, rfl⟩ : ∃ p n c, u0 = .slice p n c := by obtain ⟨p, c, hv⟩ := hU.modes.len; exact ⟨p, _, c, hv⟩
      obtain ⟨r1, m1, e1, rfl⟩ : ∃ p n c, u1 = .slice p n c := by obtain ⟨p, c, hv⟩ := hU.labels.len; exact ⟨p, _, c, hv⟩
      obtain ⟨r2, m2, e2, rfl⟩ : ∃ p n c, u2 = .slice p n c := by obtain ⟨p, c, hv⟩ := hU.cuts.len; exact ⟨p, _, c, hv⟩
      obtain ⟨r3, m3, e3, rfl⟩ : ∃ p n c, u3 = .slice p n c := by obtain ⟨p, c, hv⟩ := hU.acts.len; exact ⟨p, _, c, hv⟩
      obtain ⟨r4, m4, e4, rfl⟩ : ∃ p n c, u4 = .slice p n c := by obtain ⟨p, c, hv⟩ := hU.classes.len; exact ⟨p, _, c, hv⟩
      obtain ⟨r5, m5, e5, rfl⟩ : ∃ p n c, u5 = .slice p n c := by obtain ⟨p, c, hv⟩ := hU.starts.len; exact ⟨p, _, c, hv⟩
      obtain ⟨r6, m6, e6, rfl⟩ : ∃ p n c, u6 = .slice p n c := by obtain ⟨p, c, hv⟩ := hU.label.len; exact ⟨p, _, c, hv⟩
      obtain ⟨r7, m7, e7, rfl⟩ : ∃ p n c, u7 = .slice p n c := by obtain ⟨p, c, hv⟩ := hU.base.len; exact ⟨p, _, c, hv⟩
      obtain ⟨r8, m8, e8, rfl⟩ : ∃ p n c, u8 = .slice p n c := by obtain ⟨p, c, hv⟩ := hU.dflt.len; exact ⟨p, _, c, hv⟩
      obtain ⟨r9, m9, e9, rfl⟩ : ∃ p n c, u9 = .slice p n c := by obtain ⟨p, c, hv⟩ := hU.next.len; exact ⟨p, _, c, hv⟩
      obtain ⟨r10, m10, e10, rfl⟩ : ∃ p n c, u10 = .slice p n c := by obtain ⟨p, c, hv⟩ := hU.check.len; exact ⟨p, _, c, hv⟩
      have HU := Lib.hid hU
      try unfold tbV
      try dsimp only
      try rw [HCO.out]
      clear hU hol hul hb
      clear k_0 k_1 k_2 k_3 k_4 k_5 k_6 k_7 k_8 k_9 k_10 k_11
      have hbr1 := Nat.lt_of_lt_of_le hbl hg1.size
      have k_0 : w1.cell? ⟨b, off + k * 12, none⟩ = some (.slice p0 n0 c0) := hg1.cell (HC.out 0 _ rfl)
      have k_1 : w1.cell? ⟨b, off + k * 12 + 1, none⟩ = some (.slice p1 n1 c1) := hg1.cell (HC.out 1 _ rfl)
      have k_2 : w1.cell? ⟨b, off + k * 12 + 2, none⟩ = some (.slice p2 n2 c2) := hg1.cell (HC.out 2 _ rfl)
      have k_3 : w1.cell? ⟨b, off + k * 12 + 3, none⟩ = some (.slice p3 n3 c3) := hg1.cell (HC.out 3 _ rfl)
      have k_4 : w1.cell? ⟨b, off + k * 12 + 4, none⟩ = some (.slice p4 n4 c4) := hg1.cell (HC.out 4 _ rfl)
      have k_5 : w1.cell? ⟨b, off + k * 12 + 5, none⟩ = some (.int .i64 co) := hg1.cell (HC.out 5 _ rfl)
      have k_6 : w1.cell? ⟨b, off + k * 12 + 6, none⟩ = some (.slice p5 n5 c5) := hg1.cell (HC.out 6 _ rfl)
      have k_7 : w1.cell? ⟨b, off + k * 12 + 7, none⟩ = some (.slice p6 n6 c6) := hg1.cell (HC.out 7 _ rfl)
      have k_8 : w1.cell? ⟨b, off + k * 12 + 8, none⟩ = some (.slice p7 n7 c7) := hg1.cell (HC.out 8 _ rfl)
      have k_9 : w1.cell? ⟨b, off + k * 12 + 9, none⟩ = some (.slice p8 n8 c8) := hg1.cell (HC.out 9 _ rfl)
      have k_10 : w1.cell? ⟨b, off + k * 12 + 10, none⟩ = some (.slice p9 n9 c9) := hg1.cell (HC.out 10 _ rfl)
      have k_11 : w1.cell? ⟨b, off + k * 12 + 11, none⟩ = some (.slice p10 n10 c10) := hg1.cell (HC.out 11 _ rfl)
      go_wp2_with fail
      clear k_0 k_1 k_2 k_3 k_4 k_5 k_6 k_7 k_8 k_9 k_10 k_11
      refine name_calls (fun W2 hW2 => ?_)
      have hb : Gr w1 W2 := by rw [hW2]; exact Gr.alloc _ _
      have xt : boxAt W2 w1.heap.size [.slice r0 m0 e0, .slice r1 m1 e1, .slice r2 m2 e2, .slice r3 m3 e3, .slice r4 m4 e4, .int .i64 co, .slice r5 m5 e5, .slice r6 m6 e6, .slice r7 m7 e7, .slice r8 m8 e8, .slice r9 m9 e9, .slice r10 m10 e10] := by rw [hW2]; exact boxAt.new_at [.slice r0 m0 e0, .slice r1 m1 e1, .slice r2 m2 e2, .slice r3 m3 e3, .slice r4 m4 e4, .int .i64 co, .slice r5 m5 e5, .slice r6 m6 e6, .slice r7 m7 e7, .slice r8 m8 e8, .slice r9 m9 e9, .slice r10 m10 e10] _ _ rfl rfl
      have hg2 := hg1.trans hb
      have hU2 := HU.out.later hb
      clear hW2 hb hg1 hg HU
      go_at_call 9
      (with_reducible refine (HREF.out W2 hg2).mono ?_); rintro e w3 ⟨pw, cw, rfl, how, hb⟩
      have hg3 := hg2.trans hb
      have xt3 := xt.later hb
      have HU3 := Lib.hid (hU2.later hb)
      have HOW := Lib.hid (Sl.of_owns how)
      clear xt hg2 hU2 how hb
      go_wp2_with fail
      refine name_world (fun W4 hW4 => ?_)
      have hb : Gr w3 W4 := by rw [hW4]; exact Gr.alloc _ _
      have xf : boxAt W4 w3.heap.size [.int .i64 cd, .int .i64 0, .int .i64 0, .int .i64 0, .slice none 0 0] := by rw [hW4]; exact boxAt.new_at [.int .i64 cd, .int .i64 0, .int .i64 0, .int .i64 0, .slice none 0 0] _ _ rfl rfl
      have xt := xt3.later hb
      have hg4 := hg3.trans hb
      have HU4 := Lib.hid (HU3.out.later hb)
      have HOW4 := Lib.hid (Sl.later HOW.out hb)
      clear hW4 hb hg3 xt3 HU3 HOW
      have HEI := Lib.hid (fun w' (hg' : Gr W4 w') => HJ.out.enc ⟨.slice r0 m0 e0, .slice r1 m1 e1, .slice r2 m2 e2, .slice r3 m3 e3, ur, .slice r4 m4 e4, .slice r5 m5 e5, .slice r6 m6 e6, .slice r7 m7 e7, .slice r8 m8 e8, .slice r9 m9 e9, .slice r10 m10 e10⟩ w' (hg4.trans hg') (HU4.out.later hg'))
      have HCK := Lib.hid (fun w' (hg' : Gr W4 w') => checkI_any t ⟨.slice r0 m0 e0, .slice r1 m1 e1, .slice r2 m2 e2, .slice r3 m3 e3, ur, .slice r4 m4 e4, .slice r5 m5 e5, .slice r6 m6 e6, .slice r7 m7 e7, .slice r8 m8 e8, .slice r9 m9 e9, .slice r10 m10 e10⟩ w' (HU4.out.later hg') HFIT.out)
      have HEQ := Lib.hid (fun w' (hg' : Gr W4 w') => eqTables17 t ⟨.slice r0 m0 e0, .slice r1 m1 e1, .slice r2 m2 e2, .slice r3 m3 e3, ur, .slice r4 m4 e4, .slice r5 m5 e5, .slice r6 m6 e6, .slice r7 m7 e7, .slice r8 m8 e8, .slice r9 m9 e9, .slice r10 m10 e10⟩ ⟨.slice p0 n0 c0, .slice p1 n1 c1, .slice p2 n2 c2, .slice p3 n3 c3, vr, .slice p4 n4 c4, .slice p5 n5 c5, .slice p6 n6 c6, .slice p7 n7 c7, .slice p8 n8 c8, .slice p9 n9 c9, .slice p10 n10 c10⟩ w' (HU4.out.later hg') (HTB.out.later (hg4.trans hg')))
      have HSA := Lib.hid (fun w' (hg' : Gr W4 w') => HJ.out.same w' (hg4.trans hg'))
      unfold tbV at HEI HCK HEQ
      dsimp only at HEI HCK HEQ
      rw [HCO.out] at HEI HCK HEQ
      rw [HJ.out.may] at HCK
      go_loopw [7, 8, 9] (fun i _ _ wr => ∃ j : Nat, j ≤ 2 ∧ i = .int .i64 (j : Int) ∧ Gr W4 wr) (fun i _ _ _ => 2 - (intOf i).toNat)
      case atStart => exact ⟨0, by omega, rfl, Gr.refl _⟩
      case round =>
        obtain ⟨j, hj2, rfl, hr⟩ := hrel
        by_cases hjl : j < 2
        · have hjI : (j : Int) < 2 := by omega
          have xt5 := xt.later hr
          have c_e0 := xt5.cell 0 _ rfl
          have c_e1 := xt5.cell 1 _ rfl
          have c_e2 := xt5.cell 2 _ rfl
          have c_e3 := xt5.cell 3 _ rfl
          have c_e4 := xt5.cell 4 _ rfl
          have c_e5 := xt5.cell 5 _ rfl
          have c_e6 := xt5.cell 6 _ rfl
          have c_e7 := xt5.cell 7 _ rfl
          have c_e8 := xt5.cell 8 _ rfl
          have c_e9 := xt5.cell 9 _ rfl
          have c_e10 := xt5.cell 10 _ rfl
          have c_e11 := xt5.cell 11 _ rfl
          have m_e0 := xt5.mark 0 _ rfl
          have m_e1 := xt5.mark 1 _ rfl
          have m_e2 := xt5.mark 2 _ rfl
          have m_e3 := xt5.mark 3 _ rfl
          have m_e4 := xt5.mark 4 _ rfl
          have m_e5 := xt5.mark 5 _ rfl
          have m_e6 := xt5.mark 6 _ rfl
          have m_e7 := xt5.mark 7 _ rfl
          have m_e8 := xt5.mark 8 _ rfl
          have m_e9 := xt5.mark 9 _ rfl
          have m_e10 := xt5.mark 10 _ rfl
          have m_e11 := xt5.mark 11 _ rfl
          have l_e := xt5.lt (Nat.succ_pos _)
          go_wp2_with fail
          clear c_e0 c_e1 c_e2 c_e3 c_e4 c_e5 c_e6 c_e7 c_e8 c_e9 c_e10 c_e11 m_e0 m_e1 m_e2 m_e3 m_e4 m_e5 m_e6 m_e7 m_e8 m_e9 m_e10 m_e11 l_e
          go_at_call 10
          (with_reducible refine (HEI.out wr hr).mono ?_); rintro e w6 ⟨pe, ce, rfl, hoe, hb⟩
          have xt6 := xt5.later hb
          have xf6 := (xf.later hr).later hb
          have hr6 := hr.trans hb
          have hg6 := hg4.trans hr6
          have hbr6 := Nat.lt_of_lt_of_le hbl hg6.size
          have hs6q := hb
          have HOE := Lib.hid hoe
          have HSE := Lib.hid (Sl.of_owns hoe)
          have HOW6 := Lib.hid (Sl.later HOW4.out hr6)
          clear hoe xt5
          have k_0 : w6.cell? ⟨b, off + k * 12, none⟩ = some (.slice p0 n0 c0) := hg6.cell (HC.out 0 _ rfl)
          have k_1 : w6.cell? ⟨b, off + k * 12 + 1, none⟩ = some (.slice p1 n1 c1) := hg6.cell (HC.out 1 _ rfl)
          have k_2 : w6.cell? ⟨b, off + k * 12 + 2, none⟩ = some (.slice p2 n2 c2) := hg6.cell (HC.out 2 _ rfl)
          have k_3 : w6.cell? ⟨b, off + k * 12 + 3, none⟩ = some (.slice p3 n3 c3) := hg6.cell (HC.out 3 _ rfl)
          have k_4 : w6.cell? ⟨b, off + k * 12 + 4, none⟩ = some (.slice p4 n4 c4) := hg6.cell (HC.out 4 _ rfl)
          have k_5 : w6.cell? ⟨b, off + k * 12 + 5, none⟩ = some (.int .i64 co) := hg6.cell (HC.out 5 _ rfl)
          have k_6 : w6.cell? ⟨b, off + k * 12 + 6, none⟩ = some (.slice p5 n5 c5) := hg6.cell (HC.out 6 _ rfl)
          have k_7 : w6.cell? ⟨b, off + k * 12 + 7, none⟩ = some (.slice p6 n6 c6) := hg6.cell (HC.out 7 _ rfl)
          have k_8 : w6.cell? ⟨b, off + k * 12 + 8, none⟩ = some (.slice p7 n7 c7) := hg6.cell (HC.out 8 _ rfl)
          have k_9 : w6.cell? ⟨b, off + k * 12 + 9, none⟩ = some (.slice p8 n8 c8) := hg6.cell (HC.out 9 _ rfl)
          have k_10 : w6.cell? ⟨b, off + k * 12 + 10, none⟩ = some (.slice p9 n9 c9) := hg6.cell (HC.out 10 _ rfl)
          have k_11 : w6.cell? ⟨b, off + k * 12 + 11, none⟩ = some (.slice p10 n10 c10) := hg6.cell (HC.out 11 _ rfl)
          have c_e0 := xt6.cell 0 _ rfl
          have c_e1 := xt6.cell 1 _ rfl
          have c_e2 := xt6.cell 2 _ rfl
          have c_e3 := xt6.cell 3 _ rfl
          have c_e4 := xt6.cell 4 _ rfl
          have c_e5 := xt6.cell 5 _ rfl
          have c_e6 := xt6.cell 6 _ rfl
          have c_e7 := xt6.cell 7 _ rfl
          have c_e8 := xt6.cell 8 _ rfl
          have c_e9 := xt6.cell 9 _ rfl
          have c_e10 := xt6.cell 10 _ rfl
          have c_e11 := xt6.cell 11 _ rfl
          have m_e0 := xt6.mark 0 _ rfl
          have m_e1 := xt6.mark 1 _ rfl
          have m_e2 := xt6.mark 2 _ rfl
          have m_e3 := xt6.mark 3 _ rfl
          have m_e4 := xt6.mark 4 _ rfl
          have m_e5 := xt6.mark 5 _ rfl
          have m_e6 := xt6.mark 6 _ rfl
          have m_e7 := xt6.mark 7 _ rfl
          have m_e8 := xt6.mark 8 _ rfl
          have m_e9 := xt6.mark 9 _ rfl
          have m_e10 := xt6.mark 10 _ rfl
          have m_e11 := xt6.mark 11 _ rfl
          have l_e := xt6.lt (Nat.succ_pos _)
          have c_f0 := xf6.cell 0 _ rfl
          have c_f1 := xf6.cell 1 _ rfl
          have c_f2 := xf6.cell 2 _ rfl
          have c_f3 := xf6.cell 3 _ rfl
          have c_f4 := xf6.cell 4 _ rfl
          have m_f0 := xf6.mark 0 _ rfl
          have m_f1 := xf6.mark 1 _ rfl
          have m_f2 := xf6.mark 2 _ rfl
          have m_f3 := xf6.mark 3 _ rfl
          have m_f4 := xf6.mark 4 _ rfl
          have l_f := xf6.lt (Nat.succ_pos _)
          go_wp2_with fail
          refine wp_region_S (Gr w6) (.take 0 (.take 2 (.take 3 (.take 4 (.take 5 (.run 1 false (.run 6 false (.take 7 (.take 8 (.take 9 (.take 10 (.run 11 false (.take 12 (.take 13 (.take 14 (.take 15 (.take 16 (.run 17 false (.take 18 (.take 19 .nil)))))))))))))))))))) ((Gr.refl _).trans (Gr.drew _)) (by kernel_rfl) (by kernel_rfl) ?_
          simp only [pickOps, nthOp]
          intro wq hN hG
          repeat (first | (refine wpG_skip_take ?_ ?_; (focus rfl); try simp only [Act.put, List.setIfInBounds_toArray, List.set_cons_zero, List.set_cons_succ]) | (refine wpG_skip_run ?_ ?_; (focus rfl); try simp only [Act.put, List.setIfInBounds_toArray, List.set_cons_zero, List.set_cons_succ]) | (refine wpG_take ?_ ?_; (focus rfl); apply Exists.intro; refine ⟨fun w' hw' => ?_, ?_⟩; (focus (have hc := Gr.cells hw'; go_simp; (try rfl); done)); try simp only [Act.put, List.setIfInBounds_toArray, List.set_cons_zero, List.set_cons_succ]) | (refine wpG_run ?_ (fun K hK => ?_); (focus rfl); go_simp; (first | (go_at_call 11; (with_reducible refine (HCK.out _ (hr6.trans hG)).mono ?_); rintro e w7 ⟨rfl, hb⟩) | (go_at_call 12; (with_reducible refine (HMAY.out _ (hg6.trans hG)).mono ?_); rintro e w7 ⟨rfl, hb⟩) | (go_at_call 13; (with_reducible refine (HSA.out _ (hr6.trans hG)).mono ?_); rintro e w7 ⟨rfl, hb⟩) | (go_at_call 14; (with_reducible refine (eqR R _ _ _ (HSE.out.later hG) (Sl.later HOW6.out hG)).mono ?_); rintro e w7 ⟨rfl, hb⟩)); (try dsimp only); replace hG := hG.trans hb; refine hK.out _ _ hG ?_; clear hK K hb; try simp only [Act.put, List.setIfInBounds_toArray, List.set_cons_zero, List.set_cons_succ]))
          refine wpG_done ?_
          clear c_e0 c_e1 c_e2 c_e3 c_e4 c_e5 c_e6 c_e7 c_e8 c_e9 c_e10 c_e11 m_e0 m_e1 m_e2 m_e3 m_e4 m_e5 m_e6 m_e7 m_e8 m_e9 m_e10 m_e11 l_e
          clear c_f0 c_f1 c_f2 c_f3 c_f4 m_f0 m_f1 m_f2 m_f3 m_f4 l_f
          clear k_0 k_1 k_2 k_3 k_4 k_5 k_6 k_7 k_8 k_9 k_10 k_11
          have hrG : Gr wr w7 := hs6q.trans hG
          have hown := HOE.out
          unfold OwnB at hown
          go_wp2_with fail
          go_at_call 15
          (with_reducible refine (over17_any wr.heap.size R.length _ _ _ (by omega) hrG.size (owns_later hown hG)).mono ?_); rintro e w9 ⟨rfl, hbo⟩
          have hr9 : Gr W4 w9 := hr.trans (Below.trans hrG hbo)
          clear hbo
          go_wp2_with fail
          go_roundw
          case rel => exact ⟨j + 1, by omega, by go_num, hr9⟩
          case measure => simp [intOf]; omega
        · have hj2e : j = 2 := by omega
          subst hj2e
          have hg6 := hg4.trans hr
          have hbr6 := Nat.lt_of_lt_of_le hbl hg6.size
          have xt6 := xt.later hr
          have k_0 : wr.cell? ⟨b, off + k * 12, none⟩ = some (.slice p0 n0 c0) := hg6.cell (HC.out 0 _ rfl)
          have k_1 : wr.cell? ⟨b, off + k * 12 + 1, none⟩ = some (.slice p1 n1 c1) := hg6.cell (HC.out 1 _ rfl)
          have k_2 : wr.cell? ⟨b, off + k * 12 + 2, none⟩ = some (.slice p2 n2 c2) := hg6.cell (HC.out 2 _ rfl)
          have k_3 : wr.cell? ⟨b, off + k * 12 + 3, none⟩ = some (.slice p3 n3 c3) := hg6.cell (HC.out 3 _ rfl)
          have k_4 : wr.cell? ⟨b, off + k * 12 + 4, none⟩ = some (.slice p4 n4 c4) := hg6.cell (HC.out 4 _ rfl)
          have k_5 : wr.cell? ⟨b, off + k * 12 + 5, none⟩ = some (.int .i64 co) := hg6.cell (HC.out 5 _ rfl)
          have k_6 : wr.cell? ⟨b, off + k * 12 + 6, none⟩ = some (.slice p5 n5 c5) := hg6.cell (HC.out 6 _ rfl)
          have k_7 : wr.cell? ⟨b, off + k * 12 + 7, none⟩ = some (.slice p6 n6 c6) := hg6.cell (HC.out 7 _ rfl)
          have k_8 : wr.cell? ⟨b, off + k * 12 + 8, none⟩ = some (.slice p7 n7 c7) := hg6.cell (HC.out 8 _ rfl)
          have k_9 : wr.cell? ⟨b, off + k * 12 + 9, none⟩ = some (.slice p8 n8 c8) := hg6.cell (HC.out 9 _ rfl)
          have k_10 : wr.cell? ⟨b, off + k * 12 + 10, none⟩ = some (.slice p9 n9 c9) := hg6.cell (HC.out 10 _ rfl)
          have k_11 : wr.cell? ⟨b, off + k * 12 + 11, none⟩ = some (.slice p10 n10 c10) := hg6.cell (HC.out 11 _ rfl)
          have c_e0 := xt6.cell 0 _ rfl
          have c_e1 := xt6.cell 1 _ rfl
          have c_e2 := xt6.cell 2 _ rfl
          have c_e3 := xt6.cell 3 _ rfl
          have c_e4 := xt6.cell 4 _ rfl
          have c_e5 := xt6.cell 5 _ rfl
          have c_e6 := xt6.cell 6 _ rfl
          have c_e7 := xt6.cell 7 _ rfl
          have c_e8 := xt6.cell 8 _ rfl
          have c_e9 := xt6.cell 9 _ rfl
          have c_e10 := xt6.cell 10 _ rfl
          have c_e11 := xt6.cell 11 _ rfl
          have m_e0 := xt6.mark 0 _ rfl
          have m_e1 := xt6.mark 1 _ rfl
          have m_e2 := xt6.mark 2 _ rfl
          have m_e3 := xt6.mark 3 _ rfl
          have m_e4 := xt6.mark 4 _ rfl
          have m_e5 := xt6.mark 5 _ rfl
          have m_e6 := xt6.mark 6 _ rfl
          have m_e7 := xt6.mark 7 _ rfl
          have m_e8 := xt6.mark 8 _ rfl
          have m_e9 := xt6.mark 9 _ rfl
          have m_e10 := xt6.mark 10 _ rfl
          have m_e11 := xt6.mark 11 _ rfl
          have l_e := xt6.lt (Nat.succ_pos _)
          go_wp2_with fail
          refine wp_region_S (Gr wr) (.take 0 (.take 1 (.take 2 (.take 3 (.take 4 (.run 5 false (.take 6 .nil))))))) ((Gr.refl _).trans (Gr.drew _)) (by kernel_rfl) (by kernel_rfl) ?_
          simp only [pickOps, nthOp]
          intro wq hN hG
          repeat (first | (refine wpG_skip_take ?_ ?_; (focus rfl); try simp only [Act.put, List.setIfInBounds_toArray, List.set_cons_zero, List.set_cons_succ]) | (refine wpG_skip_run ?_ ?_; (focus rfl); try simp only [Act.put, List.setIfInBounds_toArray, List.set_cons_zero, List.set_cons_succ]) | (refine wpG_take ?_ ?_; (focus rfl); apply Exists.intro; refine ⟨fun w' hw' => ?_, ?_⟩; (focus (have hc := Gr.cells hw'; go_simp; (try rfl); done)); try simp only [Act.put, List.setIfInBounds_toArray, List.set_cons_zero, List.set_cons_succ]) | (refine wpG_run ?_ (fun K hK => ?_); (focus rfl); go_simp; (first | (go_at_call 16; (with_reducible refine (HEQ.out _ (hr.trans hG)).mono ?_); rintro e w7 ⟨rfl, hb⟩)); (try dsimp only); replace hG := hG.trans hb; refine hK.out _ _ hG ?_; clear hK K hb; try simp only [Act.put, List.setIfInBounds_toArray, List.set_cons_zero, List.set_cons_succ]))
          refine wpG_done ?_
          clear c_e0 c_e1 c_e2 c_e3 c_e4 c_e5 c_e6 c_e7 c_e8 c_e9 c_e10 c_e11 m_e0 m_e1 m_e2 m_e3 m_e4 m_e5 m_e6 m_e7 m_e8 m_e9 m_e10 m_e11 l_e
          clear k_0 k_1 k_2 k_3 k_4 k_5 k_6 k_7 k_8 k_9 k_10 k_11
          go_wp2_with fail
          go_roundw
          case rel => exact ⟨k + 1, by omega, by go_num, hg6.trans hG⟩
          case measure => simp [intOf]; omega
    · by_cases hkn : (k : Int) < (n : Int)
      · have hkJ : ¬ (k : Int) < 6 := by omega
        go_wp2_with fail
        go_at_call 17
        (with_reducible refine (HW.out wr hg).mono ?_); rintro e w9 ⟨rfl, hb⟩
        go_wp2_with fail
        go_ret
        exact ⟨rfl, hg.trans hb⟩
      · go_wp2_with fail
        go_at_call 17
        (with_reducible refine (HW.out wr hg).mono ?_); rintro e w9 ⟨rfl, hb⟩
        go_wp2_with fail
        go_ret
        exact ⟨rfl, hg.trans hb⟩

end Go.Proofs.YtcbfmajojkcibaaDoor
