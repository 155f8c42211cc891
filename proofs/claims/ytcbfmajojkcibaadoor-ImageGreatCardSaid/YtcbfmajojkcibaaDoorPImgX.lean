/- bolterlaw17.ImageHurt. No condition but that the errors' variables hold them. -/
import Derived.Test.YtcbfmajojkcibaaDoorPImgW
namespace Go.Proofs.YtcbfmajojkcibaaDoor
open Go Go.RowKit

/-- What stays from round to round: all that was there, the argument's box, the bytes. -/
structure HurtI (w : World) (B g cb N tb : Nat) (cs : List Value) (wr : World) (L : List UInt8) : Prop where
  gr : Gr w wr
  box : boxAt wr tb cs
  own : OwnB wr B (.slice (some ⟨g, 0, none⟩) N cb) L
  len : L.length = N
theorem HurtI.later {w : World} {B g cb N tb : Nat} {cs : List Value} {wr w2 : World} {L : List UInt8} (h : HurtI w B g cb N tb cs wr L) (hG : Gr wr w2) : HurtI w B g cb N tb cs w2 L :=
  ⟨h.gr.trans hG, h.box.later hG, h.own.later hG, h.len⟩
theorem HurtI.own' {w : World} {B g cb N tb : Nat} {cs : List Value} {wr : World} {L : List UInt8} (h : HurtI w B g cb N tb cs wr L) : wr.ownsRow B 5 1 (.slice (some ⟨g, 0, none⟩) N cb) N (L.map vB) := by
  have := h.own; unfold OwnB at this; rw [h.len] at this; exact this
theorem HurtI.cell {w : World} {B g cb N tb : Nat} {cs : List Value} {wr : World} {L : List UInt8} (h : HurtI w B g cb N tb cs wr L) {k : Nat} {z : UInt8} (hk : L[k]? = some z) : wr.cell? ⟨g, k, none⟩ = some (.int .u8 (z.toNat : Int)) :=
  owns_cell h.own' k _ (by rw [List.getElem?_map, hk]; rfl)
theorem HurtI.mark {w : World} {B g cb N tb : Nat} {cs : List Value} {wr : World} {L : List UInt8} (h : HurtI w B g cb N tb cs wr L) (k : Nat) : wr.frozen? ⟨g, k, none⟩ = false := owns_mark h.own' k
theorem HurtI.lt {w : World} {B g cb N tb : Nat} {cs : List Value} {wr : World} {L : List UInt8} (h : HurtI w B g cb N tb cs wr L) : g < wr.heap.size := (World.ownsRow.lt h.own' g rfl).2
theorem HurtI.base {w : World} {B g cb N tb : Nat} {cs : List Value} {wr : World} {L : List UInt8} (h : HurtI w B g cb N tb cs wr L) : B ≤ g := (World.ownsRow.lt h.own' g rfl).1
theorem HurtI.put {w : World} {B g cb N tb : Nat} {cs : List Value} {wr : World} {L : List UInt8} (h : HurtI w B g cb N tb cs wr L) (hB : w.heap.size ≤ B) (htb : tb < B) (k : Nat) (hk : k < N) (x : UInt8) : HurtI w B g cb N tb cs (wr.setCell ⟨g, k, none⟩ (.int .u8 (x.toNat : Int))) (L.set k x) := by
  have hb := h.base
  refine ⟨Below.setCell (p := ⟨g, k, none⟩) h.gr (Nat.le_trans hB hb) _, h.box.far _ _ (by show g ≠ tb; omega), ?_, by rw [List.length_set]; exact h.len⟩
  have h1 := owns_set h.own' k (by rw [List.length_map, h.len]; exact hk) (vB x)
  unfold OwnB
  rw [List.length_set, h.len, List.map_set]
  exact h1

theorem may_fit {t : Tb} (h : mayB t = true) : (∀ s, s ∈ t.modes ∨ s ∈ t.labels → s.length ≤ 9223372036854775807) ∧ (∀ s, s ∈ t.base → -9223372036854775808 ≤ s ∧ s ≤ 9223372036854775807) := by
  obtain ⟨⟨⟨_, m2⟩, ⟨_, r2⟩, _, _, ⟨_, s2⟩, _⟩, e⟩ := may_prc h 2 3 255 (by omega) (by omega) (by omega)
  rw [← e]
  refine ⟨fun u hu => ?_, fun u hu => ?_⟩
  · rcases hu with hu | hu
    · obtain ⟨a, ha, rfl⟩ := List.mem_map.1 hu
      have := (m2 a ha).1; omega
    · obtain ⟨a, ha, rfl⟩ := List.mem_map.1 hu
      have := (r2 a ha).1; omega
  · obtain ⟨a, ha, rfl⟩ := List.mem_map.1 hu
    obtain ⟨_, ⟨h5, h6⟩, _⟩ := s2 a ha
    omega

set_option maxRecDepth 100000 in
set_option maxHeartbeats 16000000 in
theorem imageHurt_any (t : Tb) (v : TbV) (A : List Int) (Y : List UInt8) (va vy : Value) (w : World) (s : Nat → Addr) (hF : FaultsIn w s) (h : TbIn w t v) (hfit : ∀ s, s ∈ t.base → -9223372036854775808 ≤ s ∧ s ≤ 9223372036854775807)
    (hA : Sl w va 1 A.length (A.map vI)) (hAf : ∀ x ∈ A, -9223372036854775808 ≤ x ∧ x ≤ 9223372036854775807) (hY : Sl w vy 1 Y.length (Y.map vB)) :
    Calls Tryd.prog 7 #[.agg #[v.modes, v.labels, v.cuts, v.acts, v.classes, .int .i64 t.count, v.starts, v.label, v.base, v.dflt, v.next, v.check, va, vy]] w fun e w' => e = .returned (.bool true) ∧ Gr w w' := by
  have HF := Lib.hid hF
  have HW := Lib.hid (fun w' (hg : Gr w w') => wakes17_any w' s (hF.later hg))
  obtain ⟨co, hco⟩ : ∃ co, t.count = co := ⟨_, rfl⟩
  obtain ⟨n0, hn0⟩ : ∃ n, t.modes.length = n := ⟨_, rfl⟩
  obtain ⟨n1, hn1⟩ : ∃ n, t.labels.length = n := ⟨_, rfl⟩
  obtain ⟨n2, hn2⟩ : ∃ n, t.cuts.length = n := ⟨_, rfl⟩
  obtain ⟨n3, hn3⟩ : ∃ n, t.acts.length = n := ⟨_, rfl⟩
  obtain ⟨n4, hn4⟩ : ∃ n, t.classes.length = n := ⟨_, rfl⟩
  obtain ⟨n5, hn5⟩ : ∃ n, t.starts.length = n := ⟨_, rfl⟩
  obtain ⟨n6, hn6⟩ : ∃ n, t.label.length = n := ⟨_, rfl⟩
  obtain ⟨n7, hn7⟩ : ∃ n, t.base.length = n := ⟨_, rfl⟩
  obtain ⟨n8, hn8⟩ : ∃ n, t.dflt.length = n := ⟨_, rfl⟩
  obtain ⟨n9, hn9⟩ : ∃ n, t.next.length = n := ⟨_, rfl⟩
  obtain ⟨n10, hn10⟩ : ∃ n, t.check.length = n := ⟨_, rfl⟩
  have hb6 : n6 ≤ 9223372036854775807 := by rw [← hn6]; exact h.label.2.1
  have hb10 : n10 ≤ 9223372036854775807 := by rw [← hn10]; exact h.check.2.1
  have hbA : A.length ≤ 9223372036854775807 := hA.2.1
  have hbY : Y.length ≤ 9223372036854775807 := hY.2.1
  obtain ⟨v0, v1, v2, v3, vr, v4, v5, v6, v7, v8, v9, v10⟩ := v
  try dsimp only at h
  obtain ⟨p0, c0, rfl⟩ : ∃ p c, v0 = .slice p n0 c := by rw [← hn0]; exact h.modes.len
  obtain ⟨p1, c1, rfl⟩ : ∃ p c, v1 = .slice p n1 c := by rw [← hn1]; exact h.labels.len
  obtain ⟨p2, c2, rfl⟩ : ∃ p c, v2 = .slice p n2 c := by rw [← hn2]; exact h.cuts.len
  obtain ⟨p3, c3, rfl⟩ : ∃ p c, v3 = .slice p n3 c := by rw [← hn3]; exact h.acts.len
  obtain ⟨p4, c4, rfl⟩ : ∃ p c, v4 = .slice p n4 c := by rw [← hn4]; exact h.classes.len
  obtain ⟨p5, c5, rfl⟩ : ∃ p c, v5 = .slice p n5 c := by rw [← hn5]; exact h.starts.len
  obtain ⟨p6, c6, rfl⟩ : ∃ p c, v6 = .slice p n6 c := by rw [← hn6]; exact h.label.len
  obtain ⟨p7, c7, rfl⟩ : ∃ p c, v7 = .slice p n7 c := by rw [← hn7]; exact h.base.len
  obtain ⟨p8, c8, rfl⟩ : ∃ p c, v8 = .slice p n8 c := by rw [← hn8]; exact h.dflt.len
  obtain ⟨p9, c9, rfl⟩ : ∃ p c, v9 = .slice p n9 c := by rw [← hn9]; exact h.next.len
  obtain ⟨p10, c10, rfl⟩ : ∃ p c, v10 = .slice p n10 c := by rw [← hn10]; exact h.check.len
  obtain ⟨pa, ca, rfl⟩ := hA.len
  obtain ⟨py, cy, rfl⟩ := hY.len
  have HEB := Lib.hid (fun (hm : mayB t = false) (w' : World) (hg : Gr w w') => encI_bad t ⟨.slice p0 n0 c0, .slice p1 n1 c1, .slice p2 n2 c2, .slice p3 n3 c3, vr, .slice p4 n4 c4, .slice p5 n5 c5, .slice p6 n6 c6, .slice p7 n7 c7, .slice p8 n8 c8, .slice p9 n9 c9, .slice p10 n10 c10⟩ w' s (hF.later hg) (h.later hg) hfit hm)
  have HEG := Lib.hid (fun (hm : mayB t = true) (w' : World) (hg : Gr w w') => encI_ok t ⟨.slice p0 n0 c0, .slice p1 n1 c1, .slice p2 n2 c2, .slice p3 n3 c3, vr, .slice p4 n4 c4, .slice p5 n5 c5, .slice p6 n6 c6, .slice p7 n7 c7, .slice p8 n8 c8, .slice p9 n9 c9, .slice p10 n10 c10⟩ w' (h.later hg) hfit hm)
  unfold tbV at HEB HEG
  dsimp only at HEB HEG
  rw [hco] at HEB HEG ⊢
  obtain ⟨na, hna⟩ : ∃ n, A.length = n := ⟨_, rfl⟩
  obtain ⟨ny, hny⟩ : ∃ n, Y.length = n := ⟨_, rfl⟩
  have HSA := Lib.hid hA
  have HSY := Lib.hid hY
  have HAF := Lib.hid hAf
  have HNA := Lib.hid hna
  have HNY := Lib.hid hny
  rw [hna] at hbA HSA ⊢
  rw [hny] at hbY HSY ⊢
  clear h hF hfit hco hA hY hAf hna hny hn0 hn1 hn2 hn3 hn4 hn5 hn6 hn7 hn8 hn9 hn10
  by_cases h5 : (5000 : Int) < (n10 : Int)
  · go_enter Tryd.func7, Tryd.ntmps7
    go_wp2_with fail
    go_at_call 17
    refine name_calls (fun W0 hW0 => ?_)
    have hg : Gr w W0 := by rw [hW0]; exact Gr.alloc _ _
    clear hW0
    (with_reducible refine (HW.out W0 hg).mono ?_); rintro e w9 ⟨rfl, hb⟩
    go_wp2_with fail
    go_ret
    exact ⟨rfl, hg.trans hb⟩
  by_cases h2 : (2000 : Int) < (n6 : Int)
  · go_enter Tryd.func7, Tryd.ntmps7
    go_wp2_with fail
    go_at_call 17
    refine name_calls (fun W0 hW0 => ?_)
    have hg : Gr w W0 := by rw [hW0]; exact Gr.alloc _ _
    clear hW0
    (with_reducible refine (HW.out W0 hg).mono ?_); rintro e w9 ⟨rfl, hb⟩
    go_wp2_with fail
    go_ret
    exact ⟨rfl, hg.trans hb⟩
  go_enter Tryd.func7, Tryd.ntmps7
  go_wp2_with fail
  go_at_call 10
  refine name_calls (fun W0 hW0 => ?_)
  have hg : Gr w W0 := by rw [hW0]; exact Gr.alloc _ _
  have xt : boxAt W0 w.heap.size [.slice p0 n0 c0, .slice p1 n1 c1, .slice p2 n2 c2, .slice p3 n3 c3, .slice p4 n4 c4, .int .i64 co, .slice p5 n5 c5, .slice p6 n6 c6, .slice p7 n7 c7, .slice p8 n8 c8, .slice p9 n9 c9, .slice p10 n10 c10, .slice pa na ca, .slice py ny cy] := by rw [hW0]; exact boxAt.new_at [.slice p0 n0 c0, .slice p1 n1 c1, .slice p2 n2 c2, .slice p3 n3 c3, .slice p4 n4 c4, .int .i64 co, .slice p5 n5 c5, .slice p6 n6 c6, .slice p7 n7 c7, .slice p8 n8 c8, .slice p9 n9 c9, .slice p10 n10 c10, .slice pa na ca, .slice py ny cy] _ _ rfl rfl
  clear hW0
  cases hm : mayB t with
  | false =>
    (with_reducible refine (HEB.out hm W0 hg).mono ?_); rintro e w1 ⟨rfl, hb⟩
    replace hg := hg.trans hb
    clear hb
    go_wp2_with fail
    go_at_call 17
    (with_reducible refine (HW.out w1 hg).mono ?_); rintro e w9 ⟨rfl, hb⟩
    go_wp2_with fail
    go_ret
    exact ⟨rfl, hg.trans hb⟩
  | true =>
    (with_reducible refine (HEG.out hm W0 hg).mono ?_); rintro e w1 ⟨ub, rfl, hob, hb⟩
    have hbl := encT_len hm
    have hpos : 4 ≤ (encT t).length := by
      unfold encT headB; simp only [List.length_append, List.length_cons, List.length_nil]; omega
    obtain ⟨g, cb, rfl, hgB, hgl, _⟩ := owns_block hob (by omega)
    obtain ⟨N, hN⟩ : ∃ N, (encT t).length = N := ⟨_, rfl⟩
    have hI0 : HurtI w W0.heap.size g cb N w.heap.size [.slice p0 n0 c0, .slice p1 n1 c1, .slice p2 n2 c2, .slice p3 n3 c3, .slice p4 n4 c4, .int .i64 co, .slice p5 n5 c5, .slice p6 n6 c6, .slice p7 n7 c7, .slice p8 n8 c8, .slice p9 n9 c9, .slice p10 n10 c10, .slice pa na ca, .slice py ny cy] w1 (encT t) := ⟨hg.trans hb, xt.later hb, by rw [← hN]; exact hob, hN⟩
    have hBw : w.heap.size ≤ W0.heap.size := hg.size
    have htB : w.heap.size < W0.heap.size := xt.lt (by simp)
    rw [hN] at hbl hpos ⊢
    clear hob xt hb hg hN hgB hgl HEB HEG hm
    have hN0 : (0 : Int) < (N : Int) := by omega
    go_wp2_with fail
    go_loopw [5] (fun i wr => ∃ (k : Nat) (L : List UInt8), i = .int .i64 (k : Int) ∧ k ≤ 40 ∧ Hid (HurtI w W0.heap.size g cb N w.heap.size [.slice p0 n0 c0, .slice p1 n1 c1, .slice p2 n2 c2, .slice p3 n3 c3, .slice p4 n4 c4, .int .i64 co, .slice p5 n5 c5, .slice p6 n6 c6, .slice p7 n7 c7, .slice p8 n8 c8, .slice p9 n9 c9, .slice p10 n10 c10, .slice pa na ca, .slice py ny cy] wr L)) (fun i _ => 40 - (intOf i).toNat)
    case atStart => exact ⟨0, encT t, rfl, by omega, Lib.hid hI0⟩
    case round =>
      obtain ⟨i, L, rfl, hi40, HI⟩ := hrel
      have hbx := HI.out.box
      have c_e0 := hbx.cell 0 _ rfl
      have c_e1 := hbx.cell 1 _ rfl
      have c_e2 := hbx.cell 2 _ rfl
      have c_e3 := hbx.cell 3 _ rfl
      have c_e4 := hbx.cell 4 _ rfl
      have c_e5 := hbx.cell 5 _ rfl
      have c_e6 := hbx.cell 6 _ rfl
      have c_e7 := hbx.cell 7 _ rfl
      have c_e8 := hbx.cell 8 _ rfl
      have c_e9 := hbx.cell 9 _ rfl
      have c_e10 := hbx.cell 10 _ rfl
      have c_e11 := hbx.cell 11 _ rfl
      have c_e12 := hbx.cell 12 _ rfl
      have c_e13 := hbx.cell 13 _ rfl
      have m_e0 := hbx.mark 0 _ rfl
      have m_e1 := hbx.mark 1 _ rfl
      have m_e2 := hbx.mark 2 _ rfl
      have m_e3 := hbx.mark 3 _ rfl
      have m_e4 := hbx.mark 4 _ rfl
      have m_e5 := hbx.mark 5 _ rfl
      have m_e6 := hbx.mark 6 _ rfl
      have m_e7 := hbx.mark 7 _ rfl
      have m_e8 := hbx.mark 8 _ rfl
      have m_e9 := hbx.mark 9 _ rfl
      have m_e10 := hbx.mark 10 _ rfl
      have m_e11 := hbx.mark 11 _ rfl
      have m_e12 := hbx.mark 12 _ rfl
      have m_e13 := hbx.mark 13 _ rfl
      have l_e := hbx.lt (Nat.succ_pos _)
      by_cases hcond : i < na ∧ i < ny ∧ i < 40
      · obtain ⟨ha, hy, h40⟩ := hcond
        have haI : (i : Int) < (na : Int) := by omega
        have hyI : (i : Int) < (ny : Int) := by omega
        have h4I : (i : Int) < 40 := by omega
        have haN : i < na := ha
        have hyN : i < ny := hy
        obtain ⟨x, hx⟩ : ∃ x, A[i]? = some x := ⟨_, List.getElem?_eq_getElem (by rw [HNA.out]; exact ha)⟩
        obtain ⟨y, hyy⟩ : ∃ y, Y[i]? = some y := ⟨_, List.getElem?_eq_getElem (by rw [HNY.out]; exact hy)⟩
        have hgw := HI.out.gr
        obtain ⟨ba, oa, rfl, hba, hca⟩ : ∃ b off, pa = some ⟨b, off, none⟩ ∧ b < w.heap.size ∧ w.cell? ⟨b, off + i, none⟩ = some (.int .i64 x) := by
          obtain ⟨_, _, ⟨_, h0⟩ | ⟨b, off, cap, hv, hb, hc⟩⟩ := HSA.out
          · omega
          · injection hv with hp _ _
            exact ⟨b, off, hp, hb (by omega), hc i _ (by rw [List.getElem?_map, hx]; rfl)⟩
        obtain ⟨by_, oy, rfl, hby, hcy⟩ : ∃ b off, py = some ⟨b, off, none⟩ ∧ b < w.heap.size ∧ w.cell? ⟨b, off + i, none⟩ = some (.int .u8 (y.toNat : Int)) := by
          obtain ⟨_, _, ⟨_, h0⟩ | ⟨b, off, cap, hv, hb, hc⟩⟩ := HSY.out
          · omega
          · injection hv with hp _ _
            exact ⟨b, off, hp, hb (by omega), hc i _ (by rw [List.getElem?_map, hyy]; rfl)⟩
        have hcaw := hgw.cell hca
        have HXF := Lib.hid (HAF.out x (List.mem_of_getElem? hx))
        have HCY := Lib.hid hcy
        have HBY := Lib.hid hby
        have hbaw : ba < wr.heap.size := Nat.lt_of_lt_of_le hba hgw.size
        clear hx hyy hca hcy hba hby hgw
        go_wp2_with fail
        clear c_e0 c_e1 c_e2 c_e3 c_e4 c_e5 c_e6 c_e7 c_e8 c_e9 c_e10 c_e11 c_e12 c_e13 m_e0 m_e1 m_e2 m_e3 m_e4 m_e5 m_e6 m_e7 m_e8 m_e9 m_e10 m_e11 m_e12 m_e13 l_e
        go_at_call 26
        (with_reducible refine (within_kit x N wr (by omega) (by omega) HXF.out).mono ?_); rintro e w2 ⟨⟨k, hk, rfl⟩, rfl⟩
        clear hcaw hbaw
        obtain ⟨z, hz⟩ : ∃ z, L[k]? = some z := ⟨_, List.getElem?_eq_getElem (by rw [HI.out.len]; exact hk)⟩
        have HZ := Lib.hid hz
        have hkI : (k : Int) < (N : Int) := by omega
        obtain ⟨q, hq⟩ : ∃ q, z ^^^ y = q := ⟨_, rfl⟩
        have hxor := u8_xor_byte z y
        rw [hq] at hxor
        have HQ := Lib.hid hq
        clear hq
        have HK := Lib.hid hk
        clear hz
        have hbx := HI.out.box
        have hgc := HI.out.cell HZ.out
        have hgl := HI.out.lt
        have hyc := HI.out.gr.cell HCY.out
        have hyl : by_ < wr.heap.size := Nat.lt_of_lt_of_le HBY.out HI.out.gr.size
        have c_e0 := hbx.cell 0 _ rfl
        have c_e1 := hbx.cell 1 _ rfl
        have c_e2 := hbx.cell 2 _ rfl
        have c_e3 := hbx.cell 3 _ rfl
        have c_e4 := hbx.cell 4 _ rfl
        have c_e5 := hbx.cell 5 _ rfl
        have c_e6 := hbx.cell 6 _ rfl
        have c_e7 := hbx.cell 7 _ rfl
        have c_e8 := hbx.cell 8 _ rfl
        have c_e9 := hbx.cell 9 _ rfl
        have c_e10 := hbx.cell 10 _ rfl
        have c_e11 := hbx.cell 11 _ rfl
        have c_e12 := hbx.cell 12 _ rfl
        have c_e13 := hbx.cell 13 _ rfl
        have m_e0 := hbx.mark 0 _ rfl
        have m_e1 := hbx.mark 1 _ rfl
        have m_e2 := hbx.mark 2 _ rfl
        have m_e3 := hbx.mark 3 _ rfl
        have m_e4 := hbx.mark 4 _ rfl
        have m_e5 := hbx.mark 5 _ rfl
        have m_e6 := hbx.mark 6 _ rfl
        have m_e7 := hbx.mark 7 _ rfl
        have m_e8 := hbx.mark 8 _ rfl
        have m_e9 := hbx.mark 9 _ rfl
        have m_e10 := hbx.mark 10 _ rfl
        have m_e11 := hbx.mark 11 _ rfl
        have m_e12 := hbx.mark 12 _ rfl
        have m_e13 := hbx.mark 13 _ rfl
        have l_e := hbx.lt (Nat.succ_pos _)
        go_wp2_with fail
        refine wp_region_T (fun _ _ => False) (fun w' => Gr wr w') (.take 0 (.take 1 (.take 2 (.take 3 (.take 4 (.take 5 (.take 6 (.take 7 (.take 8 (.take 9 (.take 10 (.take 11 (.take 12 (.run 13 true .nil)))))))))))))) (fun _ _ _ _ h => h.elim) (Gr.drew _) (by kernel_rfl) (by kernel_rfl) ?_
        simp only [pickOps, nthOp]
        intro wq hG hSq
        clear hSq
        repeat (first | (refine wpP_skip_take ?_ ?_; (focus rfl); try simp only [Act.put, List.setIfInBounds_toArray, List.set_cons_zero, List.set_cons_succ]) | (refine wpP_skip_run ?_ ?_; (focus rfl); try simp only [Act.put, List.setIfInBounds_toArray, List.set_cons_zero, List.set_cons_succ]) | (refine wpP_take ?_ ?_; (focus rfl); apply Exists.intro; refine ⟨fun w' hw' => ?_, ?_⟩; (focus (have hc := Gr.cells hw'; go_simp; (try rfl); done)); try simp only [Act.put, List.setIfInBounds_toArray, List.set_cons_zero, List.set_cons_succ]))
        clear c_e0 c_e1 c_e2 c_e3 c_e4 c_e5 c_e6 c_e7 c_e8 c_e9 c_e10 c_e11 c_e12 c_e13 m_e0 m_e1 m_e2 m_e3 m_e4 m_e5 m_e6 m_e7 m_e8 m_e9 m_e10 m_e11 m_e12 m_e13 l_e
        have hI4 := HI.out.later hG
        have zg := hI4.cell HZ.out
        have yg := hI4.mark k
        have lg := hI4.lt
        refine wpP_last ?_ (fun K hK => ?_); (focus rfl)
        go_simp
        refine hK.out _ _ ?_
        clear hK K zg yg lg hbx hgc hgl hyc hyl
        try simp only [Act.put, List.setIfInBounds_toArray, List.set_cons_zero, List.set_cons_succ]
        refine wpP_done ?_
        have HI1 := Lib.hid (hI4.put hBw htB k HK.out q)
        clear hG hI4
        go_wp2_with fail
        refine name_calls (fun W5 hW5 => ?_)
        rw [← hW5] at HI1
        clear hW5
        clear hxor
        obtain ⟨L1, hL1⟩ : ∃ L1, L.set k q = L1 := ⟨_, rfl⟩
        rw [hL1] at HI1
        have HL1 := Lib.hid hL1
        have HSB := Lib.hid (Sl.of_owns HI1.out.own')
        have HCP := Lib.hid (copyB_any L1 (.slice (some ⟨g, 0, none⟩) N cb) W5 (by rw [HI1.out.len]; exact HSB.out) (.inr ⟨_, _, _, rfl⟩) (by have := HI1.out.len; omega))
        clear hL1
        go_at_call 22
        (with_reducible refine HCP.out.mono ?_); rintro e w6 ⟨uc, rfl, hoc, hb⟩
        have HI2 := Lib.hid (HI1.out.later hb)
        have hu : uc = uc := rfl
        have HDX := Lib.hid (fun p c (hv : uc = .slice p L1.length c) => decode_any w6 p c L1 s (HF.out.later HI2.out.gr) (by rw [← hv]; exact Sl.of_owns hoc) (by have := HI1.out.len; omega) (hoc.cap _ _ _ hv))
        obtain ⟨pc, cc, rfl⟩ := (Sl.of_owns hoc).len
        have HDC := Lib.hid (HDX.out pc cc rfl)
        rw [HI1.out.len] at HDC ⊢
        clear hb hoc HDX hu HCP
        go_wp2_with fail
        go_at_call 19
        (with_reducible refine HDC.out.mono ?_); rintro e w7 ⟨hb, hE⟩
        have HI3 := Lib.hid (HI2.out.later hb)
        clear hb HDC
        cases hd : decT 2 3 255 L1 with
        | none =>
          rw [hd] at hE
          obtain rfl := hE
          unfold tbV tb0 v0
          dsimp only
          clear hd
          go_wp2_with fail
          refine name_world (fun W8 hW8 => ?_)
          have HI4 := Lib.hid (HI3.out.later (show Gr w7 W8 by rw [hW8]; exact Gr.alloc _ _))
          clear hW8
          have HZ1 := Lib.hid (show L1[k]? = some q by rw [← HL1.out]; exact List.getElem?_set_self (by rw [HI.out.len]; exact HK.out))
          have hxor := u8_xor_byte q y
          rw [show q ^^^ y = z by rw [← HQ.out]; exact xor_back z y] at hxor
          have hbx := HI4.out.box
          have hgc := HI4.out.cell HZ1.out
          have hgl := HI4.out.lt
          have hyc := HI4.out.gr.cell HCY.out
          have hyl : by_ < W8.heap.size := Nat.lt_of_lt_of_le HBY.out HI4.out.gr.size
          have c_e0 := hbx.cell 0 _ rfl
          have c_e1 := hbx.cell 1 _ rfl
          have c_e2 := hbx.cell 2 _ rfl
          have c_e3 := hbx.cell 3 _ rfl
          have c_e4 := hbx.cell 4 _ rfl
          have c_e5 := hbx.cell 5 _ rfl
          have c_e6 := hbx.cell 6 _ rfl
          have c_e7 := hbx.cell 7 _ rfl
          have c_e8 := hbx.cell 8 _ rfl
          have c_e9 := hbx.cell 9 _ rfl
          have c_e10 := hbx.cell 10 _ rfl
          have c_e11 := hbx.cell 11 _ rfl
          have c_e12 := hbx.cell 12 _ rfl
          have c_e13 := hbx.cell 13 _ rfl
          have m_e0 := hbx.mark 0 _ rfl
          have m_e1 := hbx.mark 1 _ rfl
          have m_e2 := hbx.mark 2 _ rfl
          have m_e3 := hbx.mark 3 _ rfl
          have m_e4 := hbx.mark 4 _ rfl
          have m_e5 := hbx.mark 5 _ rfl
          have m_e6 := hbx.mark 6 _ rfl
          have m_e7 := hbx.mark 7 _ rfl
          have m_e8 := hbx.mark 8 _ rfl
          have m_e9 := hbx.mark 9 _ rfl
          have m_e10 := hbx.mark 10 _ rfl
          have m_e11 := hbx.mark 11 _ rfl
          have m_e12 := hbx.mark 12 _ rfl
          have m_e13 := hbx.mark 13 _ rfl
          have l_e := hbx.lt (Nat.succ_pos _)
          go_wp2_with fail
          refine wp_region_T (fun _ _ => False) (fun w' => Gr W8 w') (.take 0 (.take 1 (.take 2 (.take 3 (.take 4 (.take 5 (.take 6 (.take 7 (.take 8 (.take 9 (.take 10 (.take 11 (.take 12 (.run 13 true .nil)))))))))))))) (fun _ _ _ _ h => h.elim) (Gr.drew _) (by kernel_rfl) (by kernel_rfl) ?_
          simp only [pickOps, nthOp]
          intro wq hG hSq
          clear hSq
          repeat (first | (refine wpP_skip_take ?_ ?_; (focus rfl); try simp only [Act.put, List.setIfInBounds_toArray, List.set_cons_zero, List.set_cons_succ]) | (refine wpP_skip_run ?_ ?_; (focus rfl); try simp only [Act.put, List.setIfInBounds_toArray, List.set_cons_zero, List.set_cons_succ]) | (refine wpP_take ?_ ?_; (focus rfl); apply Exists.intro; refine ⟨fun w' hw' => ?_, ?_⟩; (focus (have hc := Gr.cells hw'; go_simp; (try rfl); done)); try simp only [Act.put, List.setIfInBounds_toArray, List.set_cons_zero, List.set_cons_succ]))
          clear c_e0 c_e1 c_e2 c_e3 c_e4 c_e5 c_e6 c_e7 c_e8 c_e9 c_e10 c_e11 c_e12 c_e13 m_e0 m_e1 m_e2 m_e3 m_e4 m_e5 m_e6 m_e7 m_e8 m_e9 m_e10 m_e11 m_e12 m_e13 l_e
          have hI4 := HI4.out.later hG
          have zg := hI4.cell HZ1.out
          have yg := hI4.mark k
          have lg := hI4.lt
          refine wpP_last ?_ (fun K hK => ?_); (focus rfl)
          go_simp
          refine hK.out _ _ ?_
          clear hK K zg yg lg hbx hgc hgl hyc hyl
          try simp only [Act.put, List.setIfInBounds_toArray, List.set_cons_zero, List.set_cons_succ]
          refine wpP_done ?_
          have HI5 := Lib.hid (hI4.put hBw htB k HK.out z)
          clear hG hI4 hxor
          go_wp2_with fail
          go_roundw
          case rel => exact ⟨i + 1, L1.set k z, by go_num, by omega, HI5⟩
          case measure => simp [intOf]; omega
        | some t2 =>
          rw [hd] at hE
          obtain ⟨⟨u0, u1, u2_, u3, ur, u4, u5_, u6, u7_, u8_, u9_, u10_⟩, rfl, hTO⟩ := hE
          obtain ⟨hm2, hen2⟩ := enc_dec hd
          obtain ⟨htx, hft⟩ := may_fit hm2
          have hU := hTO.tabs htx
          obtain ⟨r0, m0, e0, rfl⟩ : ∃ p n c, u0 = .slice p n c := by obtain ⟨p, c, hv⟩ := hU.modes.len; exact ⟨p, _, c, hv⟩
          obtain ⟨r1, m1, e1, rfl⟩ : ∃ p n c, u1 = .slice p n c := by obtain ⟨p, c, hv⟩ := hU.labels.len; exact ⟨p, _, c, hv⟩
          obtain ⟨r2, m2, e2, rfl⟩ : ∃ p n c, u2_ = .slice p n c := by obtain ⟨p, c, hv⟩ := hU.cuts.len; exact ⟨p, _, c, hv⟩
          obtain ⟨r3, m3, e3, rfl⟩ : ∃ p n c, u3 = .slice p n c := by obtain ⟨p, c, hv⟩ := hU.acts.len; exact ⟨p, _, c, hv⟩
          obtain ⟨r4, m4, e4, rfl⟩ : ∃ p n c, u4 = .slice p n c := by obtain ⟨p, c, hv⟩ := hU.classes.len; exact ⟨p, _, c, hv⟩
          obtain ⟨r5, m5, e5, rfl⟩ : ∃ p n c, u5_ = .slice p n c := by obtain ⟨p, c, hv⟩ := hU.starts.len; exact ⟨p, _, c, hv⟩
          obtain ⟨r6, m6, e6, rfl⟩ : ∃ p n c, u6 = .slice p n c := by obtain ⟨p, c, hv⟩ := hU.label.len; exact ⟨p, _, c, hv⟩
          obtain ⟨r7, m7, e7, rfl⟩ : ∃ p n c, u7_ = .slice p n c := by obtain ⟨p, c, hv⟩ := hU.base.len; exact ⟨p, _, c, hv⟩
          obtain ⟨r8, m8, e8, rfl⟩ : ∃ p n c, u8_ = .slice p n c := by obtain ⟨p, c, hv⟩ := hU.dflt.len; exact ⟨p, _, c, hv⟩
          obtain ⟨r9, m9, e9, rfl⟩ : ∃ p n c, u9_ = .slice p n c := by obtain ⟨p, c, hv⟩ := hU.next.len; exact ⟨p, _, c, hv⟩
          obtain ⟨r10, m10, e10, rfl⟩ : ∃ p n c, u10_ = .slice p n c := by obtain ⟨p, c, hv⟩ := hU.check.len; exact ⟨p, _, c, hv⟩
          obtain ⟨cu, hcu⟩ : ∃ cu, t2.count = cu := ⟨_, rfl⟩
          have HU := Lib.hid hU
          have HFT := Lib.hid hft
          have HM2 := Lib.hid hm2
          have HEN2 := Lib.hid hen2
          unfold tbV
          dsimp only
          rw [hcu]
          have HCU_ := Lib.hid hcu
          clear hU hTO htx hft hm2 hen2 hd hcu
          go_wp2_with fail
          refine name_calls (fun W8 hW8 => ?_)
          have hb : Gr w7 W8 := by rw [hW8]; exact Gr.alloc _ _
          have xu : boxAt W8 w7.heap.size [.slice r0 m0 e0, .slice r1 m1 e1, .slice r2 m2 e2, .slice r3 m3 e3, .slice r4 m4 e4, .int .i64 cu, .slice r5 m5 e5, .slice r6 m6 e6, .slice r7 m7 e7, .slice r8 m8 e8, .slice r9 m9 e9, .slice r10 m10 e10] := by rw [hW8]; exact boxAt.new_at [.slice r0 m0 e0, .slice r1 m1 e1, .slice r2 m2 e2, .slice r3 m3 e3, .slice r4 m4 e4, .int .i64 cu, .slice r5 m5 e5, .slice r6 m6 e6, .slice r7 m7 e7, .slice r8 m8 e8, .slice r9 m9 e9, .slice r10 m10 e10] _ _ rfl rfl
          have HI4 := Lib.hid (HI3.out.later hb)
          have HU8 := Lib.hid (HU.out.later hb)
          clear hb hW8
          have HE8 := Lib.hid (encI_ok t2 ⟨.slice r0 m0 e0, .slice r1 m1 e1, .slice r2 m2 e2, .slice r3 m3 e3, ur, .slice r4 m4 e4, .slice r5 m5 e5, .slice r6 m6 e6, .slice r7 m7 e7, .slice r8 m8 e8, .slice r9 m9 e9, .slice r10 m10 e10⟩ W8 HU8.out HFT.out HM2.out)
          have HC8 := Lib.hid (fun (w' : World) (hg' : Gr W8 w') => checkI_any t2 ⟨.slice r0 m0 e0, .slice r1 m1 e1, .slice r2 m2 e2, .slice r3 m3 e3, ur, .slice r4 m4 e4, .slice r5 m5 e5, .slice r6 m6 e6, .slice r7 m7 e7, .slice r8 m8 e8, .slice r9 m9 e9, .slice r10 m10 e10⟩ w' (HU8.out.later hg') HFT.out)
          unfold tbV at HE8 HC8
          dsimp only at HE8 HC8
          rw [HCU_.out] at HE8 HC8
          rw [HM2.out] at HC8
          rw [HEN2.out] at HE8
          go_at_call 10
          (with_reducible refine HE8.out.mono ?_); rintro e w9 ⟨ud, rfl, hod, hb⟩
          have HI5 := Lib.hid (HI4.out.later hb)
          have xu9 := xu.later hb
          have hsd := Sl.of_owns hod
          obtain ⟨pd, cd, rfl⟩ := hsd.len
          have HSD := Lib.hid hsd
          rw [HI1.out.len] at HSD ⊢
          have hg89 := hb
          clear hb hod HE8 hsd xu
          have c_f0 := xu9.cell 0 _ rfl
          have c_f1 := xu9.cell 1 _ rfl
          have c_f2 := xu9.cell 2 _ rfl
          have c_f3 := xu9.cell 3 _ rfl
          have c_f4 := xu9.cell 4 _ rfl
          have c_f5 := xu9.cell 5 _ rfl
          have c_f6 := xu9.cell 6 _ rfl
          have c_f7 := xu9.cell 7 _ rfl
          have c_f8 := xu9.cell 8 _ rfl
          have c_f9 := xu9.cell 9 _ rfl
          have c_f10 := xu9.cell 10 _ rfl
          have c_f11 := xu9.cell 11 _ rfl
          have m_f0 := xu9.mark 0 _ rfl
          have m_f1 := xu9.mark 1 _ rfl
          have m_f2 := xu9.mark 2 _ rfl
          have m_f3 := xu9.mark 3 _ rfl
          have m_f4 := xu9.mark 4 _ rfl
          have m_f5 := xu9.mark 5 _ rfl
          have m_f6 := xu9.mark 6 _ rfl
          have m_f7 := xu9.mark 7 _ rfl
          have m_f8 := xu9.mark 8 _ rfl
          have m_f9 := xu9.mark 9 _ rfl
          have m_f10 := xu9.mark 10 _ rfl
          have m_f11 := xu9.mark 11 _ rfl
          have l_f := xu9.lt (Nat.succ_pos _)
          go_wp2_with fail
          clear c_f0 c_f1 c_f2 c_f3 c_f4 c_f5 c_f6 c_f7 c_f8 c_f9 c_f10 c_f11 m_f0 m_f1 m_f2 m_f3 m_f4 m_f5 m_f6 m_f7 m_f8 m_f9 m_f10 m_f11 l_f
          go_at_call 11
          (with_reducible refine (HC8.out w9 hg89).mono ?_); rintro e w10 ⟨rfl, hb⟩
          have HI6 := Lib.hid (HI5.out.later hb)
          have HSD1 := Lib.hid (HSD.out.later hb)
          clear hb xu9 hg89
          go_wp2_with fail
          go_at_call 14
          have HQB := Lib.hid (eqB_any L1 L1 (.slice pd N cd) (.slice (some ⟨g, 0, none⟩) N cb) w10 (by rw [HI1.out.len]; exact HSD1.out) (by rw [HI1.out.len]; exact Sl.of_owns HI6.out.own'))
          rw [show (L1 == L1) = true by simp] at HQB
          (with_reducible refine HQB.out.mono ?_); rintro e w11 ⟨rfl, hb⟩
          have HI7 := Lib.hid (HI6.out.later hb)
          clear hb HQB
          go_wp2_with fail
          go_roundw
          case rel => exact ⟨i + 1, L1, by go_num, by omega, HI7⟩
          case measure => simp [intOf]; omega
      · have hgw := HI.out.gr
        have HG := Lib.hid hgw
        by_cases ha : (i : Int) < (na : Int)
        · by_cases hy : (i : Int) < (ny : Int)
          · have h40 : ¬ (i : Int) < 40 := by omega
            clear hcond hgw
            go_wp2_with fail
            clear c_e0 c_e1 c_e2 c_e3 c_e4 c_e5 c_e6 c_e7 c_e8 c_e9 c_e10 c_e11 c_e12 c_e13 m_e0 m_e1 m_e2 m_e3 m_e4 m_e5 m_e6 m_e7 m_e8 m_e9 m_e10 m_e11 m_e12 m_e13 l_e
            go_at_call 17
            (with_reducible refine (HW.out wr HG.out).mono ?_); rintro e w9 ⟨rfl, hb⟩
            go_wp2_with fail
            go_ret
            exact ⟨rfl, HG.out.trans hb⟩
          · clear hcond hgw
            go_wp2_with fail
            clear c_e0 c_e1 c_e2 c_e3 c_e4 c_e5 c_e6 c_e7 c_e8 c_e9 c_e10 c_e11 c_e12 c_e13 m_e0 m_e1 m_e2 m_e3 m_e4 m_e5 m_e6 m_e7 m_e8 m_e9 m_e10 m_e11 m_e12 m_e13 l_e
            go_at_call 17
            (with_reducible refine (HW.out wr HG.out).mono ?_); rintro e w9 ⟨rfl, hb⟩
            go_wp2_with fail
            go_ret
            exact ⟨rfl, HG.out.trans hb⟩
        · clear hcond hgw
          go_wp2_with fail
          clear c_e0 c_e1 c_e2 c_e3 c_e4 c_e5 c_e6 c_e7 c_e8 c_e9 c_e10 c_e11 c_e12 c_e13 m_e0 m_e1 m_e2 m_e3 m_e4 m_e5 m_e6 m_e7 m_e8 m_e9 m_e10 m_e11 m_e12 m_e13 l_e
          go_at_call 17
          (with_reducible refine (HW.out wr HG.out).mono ?_); rintro e w9 ⟨rfl, hb⟩
          go_wp2_with fail
          go_ret
          exact ⟨rfl, HG.out.trans hb⟩

end Go.Proofs.YtcbfmajojkcibaaDoor
