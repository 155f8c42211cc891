/- Texts of mine, put together: IrV, IrU, IrZ. No condition but what each says. -/
import Derived.Test.YtcbfmajojkcibaaDoorPGm
import Derived.Test.YtcbfmajojkcibaaDoorPImgG
import Derived.Test.YtcbfmajojkcibaaDoorPGb
import Derived.Laws.OwnMore
import Derived.OwnWalk
import Derived.Laws.MakeOwn
import Derived.Test.YtcbfmajojkcibaaDoorPIrT
import Derived.Test.YtcbfmajojkcibaaDoorPIrX
import Derived.Test.YtcbfmajojkcibaaDoorPImgU

/- bolterkit.Lend, Back: as in XLend, XBack, over this chapter's texts. No condition but a length's bound. -/
namespace Go.Proofs.YtcbfmajojkcibaaDoor
open Go Go.RowKit

theorem new1_cell (w : World) (a : Value) (e : TypeId) : ∀ (j : Nat) (u : Value), [a][j]? = some u → (w.alloc (.cells #[a] e)).cell? ((⟨w.heap.size, 0, none⟩ : Addr).add j) = some u := fun j u hj => by
  match j, hj with
  | 0, hj => simp at hj; subst hj; simp [Addr.add]
theorem one_one (x : Int) : ∀ u ∈ [Value.int .u8 x], u.oneCell' = true := fun u hu => by simp at hu; subst hu; rfl

theorem eqRR (R : List UInt8) (v u : Value) (w : World) (hv : Sl w v 1 R.length (R.map vB)) (hu : Sl w u 1 R.length (R.map vB)) : Calls Tryd.prog 14 #[v, u] w fun e w' => e = .returned (.bool true) ∧ Gr w w' := by
  have := eqB_any R R v u w hv hu
  rw [show (R == R) = true by simp] at this; exact this
/-- Bytes in a row of their own, seven marks behind them. -/
def Lent (l : List UInt8) (w : World) (e : Ending) (w' : World) : Prop :=
  ∃ g cap, e = .returned (.slice (some ⟨g, 0, none⟩) l.length cap) ∧ w'.ownsRow w.heap.size 5 1 (.slice (some ⟨g, 0, none⟩) (l.length + 7) cap) (l.length + 7) (l.map vB ++ List.replicate 7 (.int .u8 165)) ∧ Gr w w'

theorem repl_snoc (k : Nat) (v : Value) : List.replicate k v ++ [v] = List.replicate (k + 1) v := (List.replicate_succ' ..).symm

set_option maxRecDepth 100000 in
set_option maxHeartbeats 2000000 in
theorem lend_any (l : List UInt8) (ao : Option Addr) (c : Nat) (w : World) (hn : l.length ≤ 140737488351232) (hnone : ao = none → l.length = 0 ∧ c = 0) (hlt : ∀ ad, ao = some ad → l.length ≠ 0 → ad.block < w.heap.size)
    (hc : ∀ ad, ao = some ad → ∀ (j : Nat) (u : Value), (l.map vB)[j]? = some u → w.cell? (ad.add j) = some u) :
    Calls Tryd.prog 18 #[.slice ao l.length c] w (Lent l w) := by
  obtain ⟨i0, hi, hz0, hz1, hz2⟩ := info_parts info_byte
  have en : IntKind.i64.wrap ((l.length : Int) + 7) = (l.length : Int) + 7 := IntWalk.i64_in _ (by omega)
  have hmk : ∀ w : World, (Instr.makeSlice 32 (.int .i64 0) (.int .i64 ((l.length : Int) + 7))).run Tryd.prog w = .ok (.slice (some ⟨w.heap.size, 0, none⟩) 0 (l.length + 7)) (w.alloc (.cells (madeCells #[.int .u8 0] (l.length + 7)) 5)) := fun w => by
    have := run_make (P := Tryd.prog) w 32 5 i0 (.int .u8 0) Tryd.underlying32 hi hz0 .i64 .i64 0 ((l.length : Int) + 7) (by omega) (by omega) (by rw [hz2]; omega) (by omega)
    rw [this, hz1]
    have h1 : ((l.length : Int) + 7).toNat = l.length + 7 := by omega
    rw [h1, Nat.mul_one]; rfl
  have hml : l.length + 7 ≤ maxLen := by unfold maxLen; omega
  have HC := Lib.hid hc
  have HN := Lib.hid hnone
  have HLT := Lib.hid hlt
  clear hc hnone hlt
  go_enter Tryd.func18, Tryd.ntmps18
  go_wp2_with (at_builtin; refine wpList_append_fits_any _ rfl (.tmp 9) (.tmp 10) 32 rfl w.heap.size 5 i0 1 Tryd.underlying32 hi hz1 w.heap.size 0 (l.length + 7) [] rfl (World.ownsRow_made w (madeCells #[.int .u8 0] (l.length + 7)) (l.length + 7) (Nat.le_refl _) hml (by rw [size_madeCells, Nat.mul_one])) ao l.length c (l.map vB) rfl (by rw [List.length_map, Nat.mul_one]) HN.out ?c1 ?c2 (by omega) ?_)
  case c1 =>
    intro ad had j u hj
    exact (Gr.alloc w _).cell (HC.out ad had j u hj)
  case c2 => intro u hu; obtain ⟨x, _, rfl⟩ := List.mem_map.1 hu; rfl
  intro w1 hown hgrow
  have hg : Gr w w1 := Gr.grown (Gr.alloc w _) hgrow (fun k hk => by injection hk with hk; omega)
  have hsz : w.heap.size < w1.heap.size := (World.ownsRow.lt hown _ rfl).2
  clear hgrow hmk en
  go_wp2_with fail
  go_loopw [3, 4] (fun v i wr => ∃ k : Nat, k ≤ 7 ∧ i = .int .i64 (k : Int) ∧ v = .slice (some ⟨w.heap.size, 0, none⟩) (l.length + k) (l.length + 7) ∧ wr.ownsRow w.heap.size 5 1 (.slice (some ⟨w.heap.size, 0, none⟩) (l.length + k) (l.length + 7)) (l.length + k) (l.map vB ++ List.replicate k (.int .u8 165)) ∧ Gr w wr) (fun _ i _ => 7 - (intOf i).toNat)
  case atStart => exact ⟨0, by omega, rfl, rfl, by simpa using hown, hg⟩
  case round =>
    obtain ⟨k, hk, rfl, rfl, hownk, hgk⟩ := hrel
    clear hown hg hsz
    by_cases hlt : k < 7
    · have hkI : (k : Int) < 7 := by omega
      have HK := Lib.hid hlt
      clear hlt hk
      go_wp2_with (at_builtin; refine wpList_append_fits _ rfl (.tmp 16) (.tmp 17) 32 rfl w.heap.size 5 i0 1 Tryd.underlying32 hi hz1 w.heap.size (l.length + k) (l.length + 7) _ rfl (hownk.alloc _) ⟨wr.heap.size, 0, none⟩ 1 1 [.int .u8 165] rfl rfl ?c1 ?c2 (by have := HK.out; omega) ?_)
      case c1 => exact new1_cell _ _ _
      case c2 => exact one_one _
      intro w2 hown2 hgrow2
      have hg2 : Gr w w2 := Gr.grown (hgk.trans (Gr.alloc _ _)) hgrow2 (fun k hk => by injection hk with hk; omega)
      rw [repl_snoc] at hown2
      clear hgrow2 hownk hgk
      go_wp2_with fail
      go_roundw
      case rel => exact ⟨k + 1, by have := HK.out; omega, by go_num, rfl, hown2, hg2⟩
      case measure => have := HK.out; simp [intOf]; omega
    · obtain rfl : k = 7 := by omega
      clear hlt hk
      have h1 : (l.length : Int) ≤ (l.length + 7 : Nat) := by omega
      go_wp2_with fail
      go_ret
      exact ⟨w.heap.size, l.length + 7, rfl, hownk, hgk⟩


/-- What a row of its own holds at its head. -/
theorem Sl.of_head {w : World} {B e g cap n m : Nat} {xs ys : List Value} (h : w.ownsRow B e 1 (.slice (some ⟨g, 0, none⟩) m cap) m (xs ++ ys)) (hx : xs.length = n) (hnm : n < m) : Sl w (.slice (some ⟨g, 0, none⟩) n cap) 1 n xs := by
  obtain ⟨g', cap', hv, _, hgl, hm⟩ := owns_block h (by omega)
  simp only [Value.slice.injEq, Option.some.injEq, Addr.mk.injEq, and_true, true_and] at hv
  obtain ⟨rfl, rfl⟩ := hv
  refine ⟨by omega, by omega, .inr ⟨g, 0, cap, rfl, fun _ => hgl, fun j u hj => ?_⟩⟩
  rw [Nat.zero_add]
  refine owns_cell h j u ?_
  rw [List.getElem?_append_left (List.getElem?_eq_some_iff.1 hj).1]; exact hj
theorem owns_cap {w : World} {B e g cap n : Nat} {xs : List Value} (h : w.ownsRow B e 1 (.slice (some ⟨g, 0, none⟩) n cap) n xs) : n ≤ cap ∧ cap ≤ maxLen := by
  obtain ⟨_, ⟨h2, _⟩ | ⟨g', cap', cur, hv, hb, hh, h3, h4, _⟩⟩ := h
  · cases h2
  · simp only [Value.slice.injEq, Option.some.injEq, Addr.mk.injEq, and_true, true_and] at hv
    obtain ⟨rfl, rfl⟩ := hv
    exact ⟨h3, h4⟩
theorem mark_at (xs : List Value) (n q : Nat) (u : Value) (hx : xs.length = n) (h1 : n ≤ q) (h2 : q < n + 7) : (xs ++ List.replicate 7 u)[q]? = some u := by
  rw [List.getElem?_append_right (by omega), List.getElem?_replicate, if_pos (by omega)]

set_option maxRecDepth 100000 in
set_option maxHeartbeats 2000000 in
theorem back17_any (l : List UInt8) (B g cap : Nat) (v : Value) (w : World) (hn : l.length ≤ 140737488351232)
    (hown : w.ownsRow B 5 1 (.slice (some ⟨g, 0, none⟩) (l.length + 7) cap) (l.length + 7) (l.map vB ++ List.replicate 7 (.int .u8 165))) (hsl : Sl w v 1 l.length (l.map vB)) :
    Calls Tryd.prog 21 #[.slice (some ⟨g, 0, none⟩) l.length cap, v] w fun e w' => e = .returned (.bool true) ∧ KpP g w w' := by
  obtain ⟨p, c, rfl⟩ := hsl.len
  have hx := Sl.of_head (n := l.length) hown (by simp) (by omega)
  have hcap := owns_cap hown
  have hB := (World.ownsRow.lt hown g rfl)
  have en : IntKind.i64.wrap ((l.length : Int) + 7) = (l.length : Int) + 7 := IntWalk.i64_in _ (by omega)
  have hcI : (l.length : Int) + 7 ≤ (cap : Int) := by omega
  have HB := Lib.hid hB
  have hml : cap ≤ 9223372036854775807 := by have := hcap.2; unfold maxLen at this; omega
  clear hcap hB
  go_enter Tryd.func21, Tryd.ntmps21
  go_wp2_with fail
  go_at_call 14
  refine (eqRR l _ _ _ hx hsl).mono ?_; rintro e w1 ⟨rfl, hb⟩
  have hown1 := owns_later hown hb
  have hbB : KpP g w w1 := KpP.gr hb
  have HO := Lib.hid hown1
  clear hown hsl hx hown1 hb
  have e7 : ((l.length : Int) + 7).toNat = l.length + 7 := by omega
  go_wp2_with fail
  go_loopw [5, 7] (fun ok i wr => ∃ q : Nat, l.length ≤ q ∧ q ≤ l.length + 7 ∧ ok = .bool true ∧ i = .int .i64 (q : Int) ∧ Gr w1 wr) (fun _ i _ => l.length + 7 - (intOf i).toNat)
  case atStart => exact ⟨l.length, by omega, by omega, rfl, rfl, Gr.refl _⟩
  case round =>
    obtain ⟨q, hq1, hq2, rfl, rfl, hg⟩ := hrel
    by_cases hlt : q < l.length + 7
    · have hqI : (q : Int) < (l.length : Int) + 7 := by omega
      have c1 := hg.cell (owns_cell HO.out q _ (mark_at _ _ q _ (by simp) hq1 hlt))
      have hgr : g < wr.heap.size := by have := HB.out; have := hbB.size; have := hg.size; omega
      have HLT := Lib.hid hlt
      have HQ1 := Lib.hid hq1
      clear hlt hq1 hq2
      go_wp2_with fail
      go_roundw
      case rel => exact ⟨q + 1, by have := HQ1.out; omega, by have := HLT.out; omega, rfl, by go_num, hg⟩
      case measure => have := HLT.out; have := HQ1.out; simp [intOf]; omega
    · obtain rfl : q = l.length + 7 := by omega
      have hg3 : KpP g w wr := hbB.trans (KpP.gr hg)
      have HO3 := Lib.hid (owns_later HO.out hg)
      clear hlt hq1 hq2 hg hbB
      go_wp2_with fail
      go_loopw [8] (fun i w2 => ∃ (k : Nat) (xs : List Value), k ≤ l.length + 7 ∧ i = .int .i64 (k : Int) ∧ Hid (w2.ownsRow B 5 1 (.slice (some ⟨g, 0, none⟩) (l.length + 7) cap) (l.length + 7) xs) ∧ KpP g w w2) (fun i _ => l.length + 7 - (intOf i).toNat)
      case atStart => exact ⟨0, _, by omega, rfl, HO3, hg3⟩
      case round =>
        obtain ⟨k, xs, hk, rfl, HX, hbk⟩ := hrel
        by_cases hlt : k < l.length + 7
        · have hkI : (k : Int) < (l.length : Int) + 7 := by omega
          have hxl : k < xs.length := by have := HX.out.1; omega
          obtain ⟨old, hold⟩ : ∃ x, xs[k]? = some x := ⟨_, List.getElem?_eq_getElem hxl⟩
          have c1 := owns_cell HX.out k old hold
          have m1 := owns_mark HX.out k
          have hgr := (World.ownsRow.lt HX.out g rfl).2
          have HLT := Lib.hid hlt
          have HXL := Lib.hid hxl
          clear hlt hk hxl hold
          go_wp2_with fail
          go_roundw
          case rel => exact ⟨k + 1, _, by have := HLT.out; omega, by go_num, Lib.hid (owns_set HX.out k HXL.out (.int .u8 90)), hbk.at_p k _⟩
          case measure => have := HLT.out; simp [intOf]; omega
        · have hkE : k = l.length + 7 := by omega
          clear hk hlt
          subst hkE
          go_wp2_with fail
          go_ret
          exact ⟨rfl, hbk⟩

end Go.Proofs.YtcbfmajojkcibaaDoor

/- bolterref17.Decode. Printed by gen_iru.py. No condition but that the bytes are no more than a machine holds. -/
namespace Go.Proofs.YtcbfmajojkcibaaDoor
open Go Go.RowKit

theorem rcS_ok {l : List UInt8} (h : (rcS (l, false)).2.2 = false) : rcR 9 9 256 l = some ((rcS (l, false)).1, (rcS (l, false)).2.1) := by
  have h1 := agr_rcS.1 l
  cases e : rcR 9 9 256 l with
  | none => rw [e] at h1; rw [h1] at h; cases h
  | some y => obtain ⟨a, r⟩ := y; rw [e] at h1; dsimp only at h1; rw [h1]
/-- What the reader said is within bounds. -/
theorem rcS_fit {l : List UInt8} (h : (rcS (l, false)).2.2 = false) : (∀ s, s ∈ (tbOf (rcS (l, false)).1).modes ∨ s ∈ (tbOf (rcS (l, false)).1).labels → s.length ≤ 9223372036854775807) ∧ FitB (tbOf (rcS (l, false)).1) := by
  have hP := ((cod_rc 9 9 256).2 _ _ _ (rcS_ok h)).2
  generalize (rcS (l, false)).1 = x at *
  obtain ⟨⟨_, m2⟩, ⟨_, r2⟩, _, _, ⟨_, s2⟩, _⟩ := hP
  refine ⟨fun u hu => ?_, fun u hu => ?_⟩
  · rcases hu with hu | hu
    · obtain ⟨a, ha, rfl⟩ := List.mem_map.1 hu
      have := (m2 a ha).1; omega
    · obtain ⟨a, ha, rfl⟩ := List.mem_map.1 hu
      have := (r2 a ha).1; omega
  · obtain ⟨a, ha, rfl⟩ := List.mem_map.1 hu
    obtain ⟨_, ⟨h5, h6⟩, _⟩ := s2 a ha
    omega
set_option maxRecDepth 100000 in
theorem slice4 (b off n c : Nat) (h4 : 4 ≤ n) (hn : n ≤ c) : ∃ a, (a = off + 4 ∨ c = 4) ∧ ∀ wx : World, (Instr.slice 32 (.slice (some ⟨b, off, none⟩) n c) (some (.int .i64 4)) none none).run Tryd.prog wx = .ok (.slice (some ⟨b, a, none⟩) (n - 4) (c - 4)) wx := by
  have h1 : (4 : Int) ≤ (n : Int) := by omega
  have h2 : (4 : Int) ≤ (c : Int) := by omega
  by_cases hc : c = 4
  · refine ⟨off, .inr hc, fun wx => ?_⟩
    subst hc
    go_simp
    try rfl
  · refine ⟨off + 4, .inl rfl, fun wx => ?_⟩
    go_simp
    try rfl
def hdrB (bs : List UInt8) : Bool := decide (4 ≤ bs.length ∧ bs.length ≤ 2097152 ∧ bs.take 4 = headB)
theorem hdr_no {bs : List UInt8} (h : hdrB bs = false) : decT 2 3 255 bs = none := by
  unfold decT; rw [if_neg (of_decide_eq_false h)]
/-- How Decode ends. -/
def Dec17 (w : World) (bs : List UInt8) (e : Ending) (w' : World) : Prop := Gr w w' ∧ match decT 2 3 255 bs with
  | some t => ∃ v, e = .returned (.tuple #[tbV t v, .agg #[.int .i64 0, .int .i64 0, .int .i64 0, .int .i64 0, .slice none 0 0]]) ∧ OwnL w' w.heap.size (rowsOf t v) ∧ v.rows.length = t.acts.length
  | none => e = .returned (.tuple #[tbV tb0 v0, .agg #[.int .i64 12, .int .i64 0, .int .i64 0, .int .i64 0, .slice none 0 0]])

set_option maxRecDepth 100000 in
set_option maxHeartbeats 8000000 in
theorem decode17_any (w : World) (bs : List UInt8) (v : Value) (hsl : Sl w v 1 bs.length (bs.map vB)) (hsm : bs.length ≤ 70368744177664) (hcap : CapOk v) : Calls Tryd.prog 20 #[v] w (Dec17 w bs) := by
  obtain ⟨pb, c, rfl⟩ := hsl.len
  obtain ⟨n, hnn⟩ : ∃ n, bs.length = n := ⟨_, rfl⟩
  have HNN := Lib.hid hnn
  rw [hnn] at hsl hsm hcap ⊢
  have hroom := hcap _ _ _ rfl
  have hsmn := hsm
  have HSL := Lib.hid hsl
  have NONE := Lib.hid (fun (hn : decT 2 3 255 bs = none) (w' : World) (hg : Gr w w') => (show Dec17 w bs (.returned (.tuple #[.agg #[.slice none 0 0, .slice none 0 0, .slice none 0 0, .slice none 0 0, .slice none 0 0, .int .i64 0, .slice none 0 0, .slice none 0 0, .slice none 0 0, .slice none 0 0, .slice none 0 0, .slice none 0 0], .agg #[.int .i64 12, .int .i64 0, .int .i64 0, .int .i64 0, .slice none 0 0]])) w' from ⟨hg, by rw [hn]; rfl⟩))
  clear hsl hcap hnn hsm
  go_enter Tryd.func20, Tryd.ntmps20
  go_wp2_with fail
  refine name_calls (fun W0 hW0 => ?_)
  have hg0 : Gr w W0 := by rw [hW0]; exact (Gr.alloc _ _).trans (Gr.alloc _ _)
  have ya0 : boxAt W0 w.heap.size [.slice none 0 0, .slice none 0 0, .slice none 0 0, .slice none 0 0, .slice none 0 0, .int .i64 0, .slice none 0 0, .slice none 0 0, .slice none 0 0, .slice none 0 0, .slice none 0 0, .slice none 0 0] := by rw [hW0]; exact (boxAt.new_at [.slice none 0 0, .slice none 0 0, .slice none 0 0, .slice none 0 0, .slice none 0 0, .int .i64 0, .slice none 0 0, .slice none 0 0, .slice none 0 0, .slice none 0 0, .slice none 0 0, .slice none 0 0] _ _ rfl rfl).later (Gr.alloc _ _)
  have yb0 : boxAt W0 (w.heap.size + 1) [.int .i64 0, .int .i64 0, .int .i64 0, .int .i64 0, .slice none 0 0] := by rw [hW0]; exact boxAt.new_at _ _ _ rfl (by simp)
  have hs0 : W0.heap.size = w.heap.size + 2 := by rw [hW0]; simp
  generalize hta0 : w.heap.size = ta at *
  generalize htf0 : ta + 1 = tf at *
  clear hW0
  go_at_call 25
  (with_reducible refine (is17_any 12 W0).mono ?_); rintro e w1 ⟨rfl, hb⟩
  have hs1 := hb.size
  go_upto_region 2 with fail
  refine name_world (fun W1 hW1 => ?_)
  have hb1 : Gr w1 W1 := by rw [hW1]; exact Gr.alloc _ _
  generalize hfb0 : w1.heap.size = fb at *
  have yf : boxAt W1 fb [.int .i64 12, .int .i64 0, .int .i64 0, .int .i64 0, .slice none 0 0] := by rw [hW1]; exact boxAt.new_at _ _ _ rfl hfb0.symm
  have ya := (ya0.later hb).later hb1
  have yb := (yb0.later hb).later hb1
  have hG : Gr w W1 := (hg0.trans hb).trans hb1
  have haf : ta ≠ tf := by omega
  have har : ta ≠ fb := by omega
  have hbr : tf ≠ fb := by omega
  have hta : w.heap.size ≤ ta := by omega
  have htf : w.heap.size ≤ tf := by omega
  have hfb : w.heap.size ≤ fb := by omega
  have hfW : fb < W1.heap.size := yf.lt (by simp)
  clear hW1 hb hb1 hg0 ya0 yb0 hs0 hs1 hta0 htf0 hfb0
  by_cases h1 : (2097152 : Int) < (n : Int)
  · have hno := Lib.hid (hdr_no (show hdrB bs = false from decide_eq_false (by rw [HNN.out]; omega)))
    clear hsmn hroom
    have Z := Lib.hid (NONE.out hno.out)
    go_wp2_with fail
    refine wp_region_T (fun _ _ => False) (fun w' => boxAt w' fb [.int .i64 12, .int .i64 0, .int .i64 0, .int .i64 0, .slice none 0 0]) (.take 0 (.take 1 (.run 2 false (.run 3 true .nil)))) (fun _ _ _ _ h => h.elim) (yf.later (Gr.drew _)) (by kernel_rfl) (by kernel_rfl) ?_
    simp only [pickOps, nthOp]
    intro wq hGq hSq
    have za := ya.later hGq
    have zb := yb.later hGq
    have hgq := hG.trans hGq
    clear hGq
    repeat (first | (refine wpP_skip_take ?_ ?_; (focus rfl); try simp only [Act.put, List.setIfInBounds_toArray, List.set_cons_zero, List.set_cons_succ]) | (refine wpP_skip_run ?_ ?_; (focus rfl); try simp only [Act.put, List.setIfInBounds_toArray, List.set_cons_zero, List.set_cons_succ]) | (refine wpP_take ?_ ?_; (focus rfl); apply Exists.intro; refine ⟨fun w' hw' => ?_, ?_⟩; (focus (have z0 := hw'.cell 0 _ rfl; have z1 := hw'.cell 1 _ rfl; have z2 := hw'.cell 2 _ rfl; have z3 := hw'.cell 3 _ rfl; have z4 := hw'.cell 4 _ rfl; go_simp; (try rfl); done)); try simp only [Act.put, List.setIfInBounds_toArray, List.set_cons_zero, List.set_cons_succ]))
    have c_e0 := za.cell 0 _ rfl
    have c_e1 := za.cell 1 _ rfl
    have c_e2 := za.cell 2 _ rfl
    have c_e3 := za.cell 3 _ rfl
    have c_e4 := za.cell 4 _ rfl
    have c_e5 := za.cell 5 _ rfl
    have c_e6 := za.cell 6 _ rfl
    have c_e7 := za.cell 7 _ rfl
    have c_e8 := za.cell 8 _ rfl
    have c_e9 := za.cell 9 _ rfl
    have c_e10 := za.cell 10 _ rfl
    have c_e11 := za.cell 11 _ rfl
    have m_e0 := za.mark 0 _ rfl
    have m_e1 := za.mark 1 _ rfl
    have m_e2 := za.mark 2 _ rfl
    have m_e3 := za.mark 3 _ rfl
    have m_e4 := za.mark 4 _ rfl
    have m_e5 := za.mark 5 _ rfl
    have m_e6 := za.mark 6 _ rfl
    have m_e7 := za.mark 7 _ rfl
    have m_e8 := za.mark 8 _ rfl
    have m_e9 := za.mark 9 _ rfl
    have m_e10 := za.mark 10 _ rfl
    have m_e11 := za.mark 11 _ rfl
    have l_e := za.lt (Nat.succ_pos _)
    refine wpP_run ?_ (fun K hK => ?_); (focus rfl)
    go_simp
    clear c_e0 c_e1 c_e2 c_e3 c_e4 c_e5 c_e6 c_e7 c_e8 c_e9 c_e10 c_e11 m_e0 m_e1 m_e2 m_e3 m_e4 m_e5 m_e6 m_e7 m_e8 m_e9 m_e10 m_e11 l_e
    refine name_K (fun wz hW => ?_)
    have xs : boxAt wz fb [.int .i64 12, .int .i64 0, .int .i64 0, .int .i64 0, .slice none 0 0] := by rw [hW]; exact ((((((((((((hSq).far ⟨ta, 0, none⟩ _ har).far ⟨ta, 1, none⟩ _ har).far ⟨ta, 2, none⟩ _ har).far ⟨ta, 3, none⟩ _ har).far ⟨ta, 4, none⟩ _ har).far ⟨ta, 5, none⟩ _ har).far ⟨ta, 6, none⟩ _ har).far ⟨ta, 7, none⟩ _ har).far ⟨ta, 8, none⟩ _ har).far ⟨ta, 9, none⟩ _ har).far ⟨ta, 10, none⟩ _ har).far ⟨ta, 11, none⟩ _ har
    have xa : boxAt wz ta [.slice none 0 0, .slice none 0 0, .slice none 0 0, .slice none 0 0, .slice none 0 0, .int .i64 0, .slice none 0 0, .slice none 0 0, .slice none 0 0, .slice none 0 0, .slice none 0 0, .slice none 0 0] := by rw [hW]; exact ((((((((((((za).put 0 _ (by simp)).put 1 _ (by simp)).put 2 _ (by simp)).put 3 _ (by simp)).put 4 _ (by simp)).put 5 _ (by simp)).put 6 _ (by simp)).put 7 _ (by simp)).put 8 _ (by simp)).put 9 _ (by simp)).put 10 _ (by simp)).put 11 _ (by simp)
    have xb : boxAt wz tf [.int .i64 0, .int .i64 0, .int .i64 0, .int .i64 0, .slice none 0 0] := by rw [hW]; exact ((((((((((((zb).far ⟨ta, 0, none⟩ _ haf).far ⟨ta, 1, none⟩ _ haf).far ⟨ta, 2, none⟩ _ haf).far ⟨ta, 3, none⟩ _ haf).far ⟨ta, 4, none⟩ _ haf).far ⟨ta, 5, none⟩ _ haf).far ⟨ta, 6, none⟩ _ haf).far ⟨ta, 7, none⟩ _ haf).far ⟨ta, 8, none⟩ _ haf).far ⟨ta, 9, none⟩ _ haf).far ⟨ta, 10, none⟩ _ haf).far ⟨ta, 11, none⟩ _ haf
    have hgz : Gr w wz := by rw [hW]; exact Below.setCell (Below.setCell (Below.setCell (Below.setCell (Below.setCell (Below.setCell (Below.setCell (Below.setCell (Below.setCell (Below.setCell (Below.setCell (Below.setCell (hgq) hta _) hta _) hta _) hta _) hta _) hta _) hta _) hta _) hta _) hta _) hta _) hta _
    refine hK.out _ _ xs ?_
    clear hK K hW za zb hgq hSq
    try simp only [Act.put, List.setIfInBounds_toArray, List.set_cons_zero, List.set_cons_succ]
    repeat (first | (refine wpP_skip_take ?_ ?_; (focus rfl); try simp only [Act.put, List.setIfInBounds_toArray, List.set_cons_zero, List.set_cons_succ]) | (refine wpP_skip_run ?_ ?_; (focus rfl); try simp only [Act.put, List.setIfInBounds_toArray, List.set_cons_zero, List.set_cons_succ]) | (refine wpP_take ?_ ?_; (focus rfl); apply Exists.intro; refine ⟨fun w' hw' => ?_, ?_⟩; (focus (have z0 := hw'.cell 0 _ rfl; go_simp; (try rfl); done)); try simp only [Act.put, List.setIfInBounds_toArray, List.set_cons_zero, List.set_cons_succ]))
    have c_f0 := xb.cell 0 _ rfl
    have c_f1 := xb.cell 1 _ rfl
    have c_f2 := xb.cell 2 _ rfl
    have c_f3 := xb.cell 3 _ rfl
    have c_f4 := xb.cell 4 _ rfl
    have m_f0 := xb.mark 0 _ rfl
    have m_f1 := xb.mark 1 _ rfl
    have m_f2 := xb.mark 2 _ rfl
    have m_f3 := xb.mark 3 _ rfl
    have m_f4 := xb.mark 4 _ rfl
    have l_f := xb.lt (Nat.succ_pos _)
    refine wpP_last ?_ (fun K hK => ?_); (focus rfl)
    go_simp
    clear c_f0 c_f1 c_f2 c_f3 c_f4 m_f0 m_f1 m_f2 m_f3 m_f4 l_f
    refine name_K (fun wy hW => ?_)
    have xa2 : boxAt wy ta [.slice none 0 0, .slice none 0 0, .slice none 0 0, .slice none 0 0, .slice none 0 0, .int .i64 0, .slice none 0 0, .slice none 0 0, .slice none 0 0, .slice none 0 0, .slice none 0 0, .slice none 0 0] := by rw [hW]; exact (((((xa).far ⟨tf, 0, none⟩ _ haf.symm).far ⟨tf, 1, none⟩ _ haf.symm).far ⟨tf, 2, none⟩ _ haf.symm).far ⟨tf, 3, none⟩ _ haf.symm).far ⟨tf, 4, none⟩ _ haf.symm
    have xb2 : boxAt wy tf [.int .i64 12, .int .i64 0, .int .i64 0, .int .i64 0, .slice none 0 0] := by rw [hW]; exact (((((xb).put 0 _ (by simp)).put 1 _ (by simp)).put 2 _ (by simp)).put 3 _ (by simp)).put 4 _ (by simp)
    have hgy : Gr w wy := by rw [hW]; exact Below.setCell (Below.setCell (Below.setCell (Below.setCell (Below.setCell (hgz) htf _) htf _) htf _) htf _) htf _
    have Z2 := Lib.hid (Z.out wy hgy)
    refine hK.out _ _ ?_
    clear hK K hW xa xb hgz hgy xs Z
    try simp only [Act.put, List.setIfInBounds_toArray, List.set_cons_zero, List.set_cons_succ]
    refine wpP_done ?_
    go_wp2_with fail
    have c_e0 := xa2.cell 0 _ rfl
    have c_e1 := xa2.cell 1 _ rfl
    have c_e2 := xa2.cell 2 _ rfl
    have c_e3 := xa2.cell 3 _ rfl
    have c_e4 := xa2.cell 4 _ rfl
    have c_e5 := xa2.cell 5 _ rfl
    have c_e6 := xa2.cell 6 _ rfl
    have c_e7 := xa2.cell 7 _ rfl
    have c_e8 := xa2.cell 8 _ rfl
    have c_e9 := xa2.cell 9 _ rfl
    have c_e10 := xa2.cell 10 _ rfl
    have c_e11 := xa2.cell 11 _ rfl
    have m_e0 := xa2.mark 0 _ rfl
    have m_e1 := xa2.mark 1 _ rfl
    have m_e2 := xa2.mark 2 _ rfl
    have m_e3 := xa2.mark 3 _ rfl
    have m_e4 := xa2.mark 4 _ rfl
    have m_e5 := xa2.mark 5 _ rfl
    have m_e6 := xa2.mark 6 _ rfl
    have m_e7 := xa2.mark 7 _ rfl
    have m_e8 := xa2.mark 8 _ rfl
    have m_e9 := xa2.mark 9 _ rfl
    have m_e10 := xa2.mark 10 _ rfl
    have m_e11 := xa2.mark 11 _ rfl
    have l_e := xa2.lt (Nat.succ_pos _)
    have c_f0 := xb2.cell 0 _ rfl
    have c_f1 := xb2.cell 1 _ rfl
    have c_f2 := xb2.cell 2 _ rfl
    have c_f3 := xb2.cell 3 _ rfl
    have c_f4 := xb2.cell 4 _ rfl
    have m_f0 := xb2.mark 0 _ rfl
    have m_f1 := xb2.mark 1 _ rfl
    have m_f2 := xb2.mark 2 _ rfl
    have m_f3 := xb2.mark 3 _ rfl
    have m_f4 := xb2.mark 4 _ rfl
    have l_f := xb2.lt (Nat.succ_pos _)
    refine bodyPost_ret (v := .tuple #[.agg #[.slice none 0 0, .slice none 0 0, .slice none 0 0, .slice none 0 0, .slice none 0 0, .int .i64 0, .slice none 0 0, .slice none 0 0, .slice none 0 0, .slice none 0 0, .slice none 0 0, .slice none 0 0], .agg #[.int .i64 12, .int .i64 0, .int .i64 0, .int .i64 0, .slice none 0 0]]) (by simp [results, Tryd.results20, go_sem, c_e0, c_e1, c_e2, c_e3, c_e4, c_e5, c_e6, c_e7, c_e8, c_e9, c_e10, c_e11, c_f0, c_f1, c_f2, c_f3, c_f4]) rfl ?_
    exact Z2.out
  by_cases h2 : (n : Int) < 4
  · have hno := Lib.hid (hdr_no (show hdrB bs = false from decide_eq_false (by rw [HNN.out]; omega)))
    clear hsmn hroom
    have Z := Lib.hid (NONE.out hno.out)
    go_wp2_with fail
    refine wp_region_T (fun _ _ => False) (fun w' => boxAt w' fb [.int .i64 12, .int .i64 0, .int .i64 0, .int .i64 0, .slice none 0 0]) (.take 0 (.take 1 (.run 2 false (.run 3 true .nil)))) (fun _ _ _ _ h => h.elim) (yf.later (Gr.drew _)) (by kernel_rfl) (by kernel_rfl) ?_
    simp only [pickOps, nthOp]
    intro wq hGq hSq
    have za := ya.later hGq
    have zb := yb.later hGq
    have hgq := hG.trans hGq
    clear hGq
    repeat (first | (refine wpP_skip_take ?_ ?_; (focus rfl); try simp only [Act.put, List.setIfInBounds_toArray, List.set_cons_zero, List.set_cons_succ]) | (refine wpP_skip_run ?_ ?_; (focus rfl); try simp only [Act.put, List.setIfInBounds_toArray, List.set_cons_zero, List.set_cons_succ]) | (refine wpP_take ?_ ?_; (focus rfl); apply Exists.intro; refine ⟨fun w' hw' => ?_, ?_⟩; (focus (have z0 := hw'.cell 0 _ rfl; have z1 := hw'.cell 1 _ rfl; have z2 := hw'.cell 2 _ rfl; have z3 := hw'.cell 3 _ rfl; have z4 := hw'.cell 4 _ rfl; go_simp; (try rfl); done)); try simp only [Act.put, List.setIfInBounds_toArray, List.set_cons_zero, List.set_cons_succ]))
    have c_e0 := za.cell 0 _ rfl
    have c_e1 := za.cell 1 _ rfl
    have c_e2 := za.cell 2 _ rfl
    have c_e3 := za.cell 3 _ rfl
    have c_e4 := za.cell 4 _ rfl
    have c_e5 := za.cell 5 _ rfl
    have c_e6 := za.cell 6 _ rfl
    have c_e7 := za.cell 7 _ rfl
    have c_e8 := za.cell 8 _ rfl
    have c_e9 := za.cell 9 _ rfl
    have c_e10 := za.cell 10 _ rfl
    have c_e11 := za.cell 11 _ rfl
    have m_e0 := za.mark 0 _ rfl
    have m_e1 := za.mark 1 _ rfl
    have m_e2 := za.mark 2 _ rfl
    have m_e3 := za.mark 3 _ rfl
    have m_e4 := za.mark 4 _ rfl
    have m_e5 := za.mark 5 _ rfl
    have m_e6 := za.mark 6 _ rfl
    have m_e7 := za.mark 7 _ rfl
    have m_e8 := za.mark 8 _ rfl
    have m_e9 := za.mark 9 _ rfl
    have m_e10 := za.mark 10 _ rfl
    have m_e11 := za.mark 11 _ rfl
    have l_e := za.lt (Nat.succ_pos _)
    refine wpP_run ?_ (fun K hK => ?_); (focus rfl)
    go_simp
    clear c_e0 c_e1 c_e2 c_e3 c_e4 c_e5 c_e6 c_e7 c_e8 c_e9 c_e10 c_e11 m_e0 m_e1 m_e2 m_e3 m_e4 m_e5 m_e6 m_e7 m_e8 m_e9 m_e10 m_e11 l_e
    refine name_K (fun wz hW => ?_)
    have xs : boxAt wz fb [.int .i64 12, .int .i64 0, .int .i64 0, .int .i64 0, .slice none 0 0] := by rw [hW]; exact ((((((((((((hSq).far ⟨ta, 0, none⟩ _ har).far ⟨ta, 1, none⟩ _ har).far ⟨ta, 2, none⟩ _ har).far ⟨ta, 3, none⟩ _ har).far ⟨ta, 4, none⟩ _ har).far ⟨ta, 5, none⟩ _ har).far ⟨ta, 6, none⟩ _ har).far ⟨ta, 7, none⟩ _ har).far ⟨ta, 8, none⟩ _ har).far ⟨ta, 9, none⟩ _ har).far ⟨ta, 10, none⟩ _ har).far ⟨ta, 11, none⟩ _ har
    have xa : boxAt wz ta [.slice none 0 0, .slice none 0 0, .slice none 0 0, .slice none 0 0, .slice none 0 0, .int .i64 0, .slice none 0 0, .slice none 0 0, .slice none 0 0, .slice none 0 0, .slice none 0 0, .slice none 0 0] := by rw [hW]; exact ((((((((((((za).put 0 _ (by simp)).put 1 _ (by simp)).put 2 _ (by simp)).put 3 _ (by simp)).put 4 _ (by simp)).put 5 _ (by simp)).put 6 _ (by simp)).put 7 _ (by simp)).put 8 _ (by simp)).put 9 _ (by simp)).put 10 _ (by simp)).put 11 _ (by simp)
    have xb : boxAt wz tf [.int .i64 0, .int .i64 0, .int .i64 0, .int .i64 0, .slice none 0 0] := by rw [hW]; exact ((((((((((((zb).far ⟨ta, 0, none⟩ _ haf).far ⟨ta, 1, none⟩ _ haf).far ⟨ta, 2, none⟩ _ haf).far ⟨ta, 3, none⟩ _ haf).far ⟨ta, 4, none⟩ _ haf).far ⟨ta, 5, none⟩ _ haf).far ⟨ta, 6, none⟩ _ haf).far ⟨ta, 7, none⟩ _ haf).far ⟨ta, 8, none⟩ _ haf).far ⟨ta, 9, none⟩ _ haf).far ⟨ta, 10, none⟩ _ haf).far ⟨ta, 11, none⟩ _ haf
    have hgz : Gr w wz := by rw [hW]; exact Below.setCell (Below.setCell (Below.setCell (Below.setCell (Below.setCell (Below.setCell (Below.setCell (Below.setCell (Below.setCell (Below.setCell (Below.setCell (Below.setCell (hgq) hta _) hta _) hta _) hta _) hta _) hta _) hta _) hta _) hta _) hta _) hta _) hta _
    refine hK.out _ _ xs ?_
    clear hK K hW za zb hgq hSq
    try simp only [Act.put, List.setIfInBounds_toArray, List.set_cons_zero, List.set_cons_succ]
    repeat (first | (refine wpP_skip_take ?_ ?_; (focus rfl); try simp only [Act.put, List.setIfInBounds_toArray, List.set_cons_zero, List.set_cons_succ]) | (refine wpP_skip_run ?_ ?_; (focus rfl); try simp only [Act.put, List.setIfInBounds_toArray, List.set_cons_zero, List.set_cons_succ]) | (refine wpP_take ?_ ?_; (focus rfl); apply Exists.intro; refine ⟨fun w' hw' => ?_, ?_⟩; (focus (have z0 := hw'.cell 0 _ rfl; go_simp; (try rfl); done)); try simp only [Act.put, List.setIfInBounds_toArray, List.set_cons_zero, List.set_cons_succ]))
    have c_f0 := xb.cell 0 _ rfl
    have c_f1 := xb.cell 1 _ rfl
    have c_f2 := xb.cell 2 _ rfl
    have c_f3 := xb.cell 3 _ rfl
    have c_f4 := xb.cell 4 _ rfl
    have m_f0 := xb.mark 0 _ rfl
    have m_f1 := xb.mark 1 _ rfl
    have m_f2 := xb.mark 2 _ rfl
    have m_f3 := xb.mark 3 _ rfl
    have m_f4 := xb.mark 4 _ rfl
    have l_f := xb.lt (Nat.succ_pos _)
    refine wpP_last ?_ (fun K hK => ?_); (focus rfl)
    go_simp
    clear c_f0 c_f1 c_f2 c_f3 c_f4 m_f0 m_f1 m_f2 m_f3 m_f4 l_f
    refine name_K (fun wy hW => ?_)
    have xa2 : boxAt wy ta [.slice none 0 0, .slice none 0 0, .slice none 0 0, .slice none 0 0, .slice none 0 0, .int .i64 0, .slice none 0 0, .slice none 0 0, .slice none 0 0, .slice none 0 0, .slice none 0 0, .slice none 0 0] := by rw [hW]; exact (((((xa).far ⟨tf, 0, none⟩ _ haf.symm).far ⟨tf, 1, none⟩ _ haf.symm).far ⟨tf, 2, none⟩ _ haf.symm).far ⟨tf, 3, none⟩ _ haf.symm).far ⟨tf, 4, none⟩ _ haf.symm
    have xb2 : boxAt wy tf [.int .i64 12, .int .i64 0, .int .i64 0, .int .i64 0, .slice none 0 0] := by rw [hW]; exact (((((xb).put 0 _ (by simp)).put 1 _ (by simp)).put 2 _ (by simp)).put 3 _ (by simp)).put 4 _ (by simp)
    have hgy : Gr w wy := by rw [hW]; exact Below.setCell (Below.setCell (Below.setCell (Below.setCell (Below.setCell (hgz) htf _) htf _) htf _) htf _) htf _
    have Z2 := Lib.hid (Z.out wy hgy)
    refine hK.out _ _ ?_
    clear hK K hW xa xb hgz hgy xs Z
    try simp only [Act.put, List.setIfInBounds_toArray, List.set_cons_zero, List.set_cons_succ]
    refine wpP_done ?_
    go_wp2_with fail
    have c_e0 := xa2.cell 0 _ rfl
    have c_e1 := xa2.cell 1 _ rfl
    have c_e2 := xa2.cell 2 _ rfl
    have c_e3 := xa2.cell 3 _ rfl
    have c_e4 := xa2.cell 4 _ rfl
    have c_e5 := xa2.cell 5 _ rfl
    have c_e6 := xa2.cell 6 _ rfl
    have c_e7 := xa2.cell 7 _ rfl
    have c_e8 := xa2.cell 8 _ rfl
    have c_e9 := xa2.cell 9 _ rfl
    have c_e10 := xa2.cell 10 _ rfl
    have c_e11 := xa2.cell 11 _ rfl
    have m_e0 := xa2.mark 0 _ rfl
    have m_e1 := xa2.mark 1 _ rfl
    have m_e2 := xa2.mark 2 _ rfl
    have m_e3 := xa2.mark 3 _ rfl
    have m_e4 := xa2.mark 4 _ rfl
    have m_e5 := xa2.mark 5 _ rfl
    have m_e6 := xa2.mark 6 _ rfl
    have m_e7 := xa2.mark 7 _ rfl
    have m_e8 := xa2.mark 8 _ rfl
    have m_e9 := xa2.mark 9 _ rfl
    have m_e10 := xa2.mark 10 _ rfl
    have m_e11 := xa2.mark 11 _ rfl
    have l_e := xa2.lt (Nat.succ_pos _)
    have c_f0 := xb2.cell 0 _ rfl
    have c_f1 := xb2.cell 1 _ rfl
    have c_f2 := xb2.cell 2 _ rfl
    have c_f3 := xb2.cell 3 _ rfl
    have c_f4 := xb2.cell 4 _ rfl
    have m_f0 := xb2.mark 0 _ rfl
    have m_f1 := xb2.mark 1 _ rfl
    have m_f2 := xb2.mark 2 _ rfl
    have m_f3 := xb2.mark 3 _ rfl
    have m_f4 := xb2.mark 4 _ rfl
    have l_f := xb2.lt (Nat.succ_pos _)
    refine bodyPost_ret (v := .tuple #[.agg #[.slice none 0 0, .slice none 0 0, .slice none 0 0, .slice none 0 0, .slice none 0 0, .int .i64 0, .slice none 0 0, .slice none 0 0, .slice none 0 0, .slice none 0 0, .slice none 0 0, .slice none 0 0], .agg #[.int .i64 12, .int .i64 0, .int .i64 0, .int .i64 0, .slice none 0 0]]) (by simp [results, Tryd.results20, go_sem, c_e0, c_e1, c_e2, c_e3, c_e4, c_e5, c_e6, c_e7, c_e8, c_e9, c_e10, c_e11, c_f0, c_f1, c_f2, c_f3, c_f4]) rfl ?_
    exact Z2.out
  obtain ⟨b, off, rfl, hbl, hcs⟩ : ∃ b off, pb = some ⟨b, off, none⟩ ∧ b < w.heap.size ∧ ∀ j u, (bs.map vB)[j]? = some u → w.cell? ⟨b, off + j, none⟩ = some u := by
    obtain ⟨_, _, ⟨_, h0⟩ | ⟨b, off, cap, hv, hb, hc⟩⟩ := HSL.out
    · omega
    · injection hv with hp _ _
      exact ⟨b, off, hp, hb (by omega), hc⟩
  have HCS := Lib.hid hcs
  obtain ⟨a, hak, hslc⟩ := slice4 b off n c (by omega) hroom
  have hbW := Nat.lt_of_lt_of_le hbl hG.size
  have h4I : (4 : Int) ≤ (n : Int) := by omega
  have h4c : (4 : Int) ≤ (c : Int) := by omega
  clear hcs
  go_cut [41] from 10 to 41 (fun v wx => v = .bool (!hdrB bs) ∧ W1 = wx)
  case first =>
    obtain ⟨x0, x1, x2, x3, l, hbs⟩ : ∃ x0 x1 x2 x3 l, bs = x0 :: x1 :: x2 :: x3 :: l := by
      have h3 := HNN.out
      match bs, h3 with
      | [], h => simp at h; omega
      | [_], h => simp at h; omega
      | [_, _], h => simp at h; omega
      | [_, _, _], h => simp at h; omega
      | x0 :: x1 :: x2 :: x3 :: l, _ => exact ⟨x0, x1, x2, x3, l, rfl⟩
    have k0 : W1.cell? ⟨b, off, none⟩ = some (.int .u8 (x0.toNat : Int)) := hG.cell (HCS.out 0 _ (by rw [hbs]; rfl))
    have k1 : W1.cell? ⟨b, off + 1, none⟩ = some (.int .u8 (x1.toNat : Int)) := hG.cell (HCS.out 1 _ (by rw [hbs]; rfl))
    have k2 : W1.cell? ⟨b, off + 2, none⟩ = some (.int .u8 (x2.toNat : Int)) := hG.cell (HCS.out 2 _ (by rw [hbs]; rfl))
    have k3 : W1.cell? ⟨b, off + 3, none⟩ = some (.int .u8 (x3.toNat : Int)) := hG.cell (HCS.out 3 _ (by rw [hbs]; rfl))
    have HH := Lib.hid (show hdrB bs = (decide (x0 = 66) && (decide (x1 = 76) && (decide (x2 = 84) && decide (x3 = 1)))) from by
      have h3 := HNN.out
      rw [hbs] at h3 ⊢
      unfold hdrB headB
      rw [Bool.eq_iff_iff]
      simp only [decide_eq_true_eq, Bool.and_eq_true, List.take_succ_cons, List.take_zero, List.cons.injEq, and_true]
      constructor
      · rintro ⟨_, _, h⟩; exact h
      · intro h; exact ⟨by omega, by omega, h⟩)
    obtain ⟨m0, hm0⟩ : ∃ m, x0.toNat = m := ⟨_, rfl⟩
    obtain ⟨m1, hm1⟩ : ∃ m, x1.toNat = m := ⟨_, rfl⟩
    obtain ⟨m2, hm2⟩ : ∃ m, x2.toNat = m := ⟨_, rfl⟩
    obtain ⟨m3, hm3⟩ : ∃ m, x3.toNat = m := ⟨_, rfl⟩
    have e0 : (x0 = 66) = (m0 = 66) := by rw [← hm0]; exact propext ⟨fun h => by rw [h]; rfl, fun h => UInt8.toNat_inj.1 h⟩
    have e1 : (x1 = 76) = (m1 = 76) := by rw [← hm1]; exact propext ⟨fun h => by rw [h]; rfl, fun h => UInt8.toNat_inj.1 h⟩
    have e2 : (x2 = 84) = (m2 = 84) := by rw [← hm2]; exact propext ⟨fun h => by rw [h]; rfl, fun h => UInt8.toNat_inj.1 h⟩
    have e3 : (x3 = 1) = (m3 = 1) := by rw [← hm3]; exact propext ⟨fun h => by rw [h]; rfl, fun h => UInt8.toNat_inj.1 h⟩
    rw [hm0] at k0
    rw [hm1] at k1
    rw [hm2] at k2
    rw [hm3] at k3
    have HE := Lib.hid (show _ ∧ _ ∧ _ ∧ _ from ⟨e0, e1, e2, e3⟩)
    have h01 : (0 : Int) < (n : Int) := by omega
    have h11 : (1 : Int) < (n : Int) := by omega
    have h21 : (2 : Int) < (n : Int) := by omega
    have h31 : (3 : Int) < (n : Int) := by omega
    clear hbs hm0 hm1 hm2 hm3 e0 e1 e2 e3 HSL NONE
    by_cases q0 : (m0 : Int) = 66
    rotate_left
    · have HX := Lib.hid (show hdrB bs = false from by
        rw [HH.out]; simp only [HE.out.1, HE.out.2.1, HE.out.2.2.1, HE.out.2.2.2]
        rw [Bool.eq_false_iff]; intro h; simp only [Bool.and_eq_true, decide_eq_true_eq] at h; omega)
      have y0 : ((m0 : Int) != 66) = true := by rw [bne_iff_ne]; exact q0
      clear q0
      go_wp2_with fail
      go_meet
      case rel => exact ⟨by rw [HX.out]; rfl, rfl⟩
    have y0 : ((m0 : Int) != 66) = false := by rw [q0]; rfl
    by_cases q1 : (m1 : Int) = 76
    rotate_left
    · have HX := Lib.hid (show hdrB bs = false from by
        rw [HH.out]; simp only [HE.out.1, HE.out.2.1, HE.out.2.2.1, HE.out.2.2.2]
        rw [Bool.eq_false_iff]; intro h; simp only [Bool.and_eq_true, decide_eq_true_eq] at h; omega)
      have y1 : ((m1 : Int) != 76) = true := by rw [bne_iff_ne]; exact q1
      clear q1
      go_wp2_with fail
      go_meet
      case rel => exact ⟨by rw [HX.out]; rfl, rfl⟩
    have y1 : ((m1 : Int) != 76) = false := by rw [q1]; rfl
    by_cases q2 : (m2 : Int) = 84
    rotate_left
    · have HX := Lib.hid (show hdrB bs = false from by
        rw [HH.out]; simp only [HE.out.1, HE.out.2.1, HE.out.2.2.1, HE.out.2.2.2]
        rw [Bool.eq_false_iff]; intro h; simp only [Bool.and_eq_true, decide_eq_true_eq] at h; omega)
      have y2 : ((m2 : Int) != 84) = true := by rw [bne_iff_ne]; exact q2
      clear q2
      go_wp2_with fail
      go_meet
      case rel => exact ⟨by rw [HX.out]; rfl, rfl⟩
    have y2 : ((m2 : Int) != 84) = false := by rw [q2]; rfl
    by_cases q3 : (m3 : Int) = 1
    rotate_left
    · have HX := Lib.hid (show hdrB bs = false from by
        rw [HH.out]; simp only [HE.out.1, HE.out.2.1, HE.out.2.2.1, HE.out.2.2.2]
        rw [Bool.eq_false_iff]; intro h; simp only [Bool.and_eq_true, decide_eq_true_eq] at h; omega)
      have y3 : ((m3 : Int) != 1) = true := by rw [bne_iff_ne]; exact q3
      clear q3
      go_wp2_with fail
      go_meet
      case rel => exact ⟨by rw [HX.out]; rfl, rfl⟩
    have y3 : ((m3 : Int) != 1) = false := by rw [q3]; rfl
    have HX := Lib.hid (show hdrB bs = true from by
      rw [HH.out]; simp only [HE.out.1, HE.out.2.1, HE.out.2.2.1, HE.out.2.2.2]
      simp only [Bool.and_eq_true, decide_eq_true_eq]; exact ⟨by omega, by omega, by omega, by omega⟩)
    go_wp2_with fail
    go_meet
    case rel => exact ⟨by rw [HX.out]; rfl, rfl⟩
  case rest =>
  obtain ⟨rfl, rfl⟩ := hcut
  cases hh : hdrB bs with
  | false =>
    have hno := Lib.hid (hdr_no hh)
    clear hh
    have Z := Lib.hid (NONE.out hno.out)
    go_wp2_with fail
    refine wp_region_T (fun _ _ => False) (fun w' => boxAt w' fb [.int .i64 12, .int .i64 0, .int .i64 0, .int .i64 0, .slice none 0 0]) (.take 0 (.take 1 (.run 2 false (.run 3 true .nil)))) (fun _ _ _ _ h => h.elim) (yf.later (Gr.drew _)) (by kernel_rfl) (by kernel_rfl) ?_
    simp only [pickOps, nthOp]
    intro wq hGq hSq
    have za := ya.later hGq
    have zb := yb.later hGq
    have hgq := hG.trans hGq
    clear hGq
    repeat (first | (refine wpP_skip_take ?_ ?_; (focus rfl); try simp only [Act.put, List.setIfInBounds_toArray, List.set_cons_zero, List.set_cons_succ]) | (refine wpP_skip_run ?_ ?_; (focus rfl); try simp only [Act.put, List.setIfInBounds_toArray, List.set_cons_zero, List.set_cons_succ]) | (refine wpP_take ?_ ?_; (focus rfl); apply Exists.intro; refine ⟨fun w' hw' => ?_, ?_⟩; (focus (have z0 := hw'.cell 0 _ rfl; have z1 := hw'.cell 1 _ rfl; have z2 := hw'.cell 2 _ rfl; have z3 := hw'.cell 3 _ rfl; have z4 := hw'.cell 4 _ rfl; go_simp; (try rfl); done)); try simp only [Act.put, List.setIfInBounds_toArray, List.set_cons_zero, List.set_cons_succ]))
    have c_e0 := za.cell 0 _ rfl
    have c_e1 := za.cell 1 _ rfl
    have c_e2 := za.cell 2 _ rfl
    have c_e3 := za.cell 3 _ rfl
    have c_e4 := za.cell 4 _ rfl
    have c_e5 := za.cell 5 _ rfl
    have c_e6 := za.cell 6 _ rfl
    have c_e7 := za.cell 7 _ rfl
    have c_e8 := za.cell 8 _ rfl
    have c_e9 := za.cell 9 _ rfl
    have c_e10 := za.cell 10 _ rfl
    have c_e11 := za.cell 11 _ rfl
    have m_e0 := za.mark 0 _ rfl
    have m_e1 := za.mark 1 _ rfl
    have m_e2 := za.mark 2 _ rfl
    have m_e3 := za.mark 3 _ rfl
    have m_e4 := za.mark 4 _ rfl
    have m_e5 := za.mark 5 _ rfl
    have m_e6 := za.mark 6 _ rfl
    have m_e7 := za.mark 7 _ rfl
    have m_e8 := za.mark 8 _ rfl
    have m_e9 := za.mark 9 _ rfl
    have m_e10 := za.mark 10 _ rfl
    have m_e11 := za.mark 11 _ rfl
    have l_e := za.lt (Nat.succ_pos _)
    refine wpP_run ?_ (fun K hK => ?_); (focus rfl)
    go_simp
    clear c_e0 c_e1 c_e2 c_e3 c_e4 c_e5 c_e6 c_e7 c_e8 c_e9 c_e10 c_e11 m_e0 m_e1 m_e2 m_e3 m_e4 m_e5 m_e6 m_e7 m_e8 m_e9 m_e10 m_e11 l_e
    refine name_K (fun wz hW => ?_)
    have xs : boxAt wz fb [.int .i64 12, .int .i64 0, .int .i64 0, .int .i64 0, .slice none 0 0] := by rw [hW]; exact ((((((((((((hSq).far ⟨ta, 0, none⟩ _ har).far ⟨ta, 1, none⟩ _ har).far ⟨ta, 2, none⟩ _ har).far ⟨ta, 3, none⟩ _ har).far ⟨ta, 4, none⟩ _ har).far ⟨ta, 5, none⟩ _ har).far ⟨ta, 6, none⟩ _ har).far ⟨ta, 7, none⟩ _ har).far ⟨ta, 8, none⟩ _ har).far ⟨ta, 9, none⟩ _ har).far ⟨ta, 10, none⟩ _ har).far ⟨ta, 11, none⟩ _ har
    have xa : boxAt wz ta [.slice none 0 0, .slice none 0 0, .slice none 0 0, .slice none 0 0, .slice none 0 0, .int .i64 0, .slice none 0 0, .slice none 0 0, .slice none 0 0, .slice none 0 0, .slice none 0 0, .slice none 0 0] := by rw [hW]; exact ((((((((((((za).put 0 _ (by simp)).put 1 _ (by simp)).put 2 _ (by simp)).put 3 _ (by simp)).put 4 _ (by simp)).put 5 _ (by simp)).put 6 _ (by simp)).put 7 _ (by simp)).put 8 _ (by simp)).put 9 _ (by simp)).put 10 _ (by simp)).put 11 _ (by simp)
    have xb : boxAt wz tf [.int .i64 0, .int .i64 0, .int .i64 0, .int .i64 0, .slice none 0 0] := by rw [hW]; exact ((((((((((((zb).far ⟨ta, 0, none⟩ _ haf).far ⟨ta, 1, none⟩ _ haf).far ⟨ta, 2, none⟩ _ haf).far ⟨ta, 3, none⟩ _ haf).far ⟨ta, 4, none⟩ _ haf).far ⟨ta, 5, none⟩ _ haf).far ⟨ta, 6, none⟩ _ haf).far ⟨ta, 7, none⟩ _ haf).far ⟨ta, 8, none⟩ _ haf).far ⟨ta, 9, none⟩ _ haf).far ⟨ta, 10, none⟩ _ haf).far ⟨ta, 11, none⟩ _ haf
    have hgz : Gr w wz := by rw [hW]; exact Below.setCell (Below.setCell (Below.setCell (Below.setCell (Below.setCell (Below.setCell (Below.setCell (Below.setCell (Below.setCell (Below.setCell (Below.setCell (Below.setCell (hgq) hta _) hta _) hta _) hta _) hta _) hta _) hta _) hta _) hta _) hta _) hta _) hta _
    refine hK.out _ _ xs ?_
    clear hK K hW za zb hgq hSq
    try simp only [Act.put, List.setIfInBounds_toArray, List.set_cons_zero, List.set_cons_succ]
    repeat (first | (refine wpP_skip_take ?_ ?_; (focus rfl); try simp only [Act.put, List.setIfInBounds_toArray, List.set_cons_zero, List.set_cons_succ]) | (refine wpP_skip_run ?_ ?_; (focus rfl); try simp only [Act.put, List.setIfInBounds_toArray, List.set_cons_zero, List.set_cons_succ]) | (refine wpP_take ?_ ?_; (focus rfl); apply Exists.intro; refine ⟨fun w' hw' => ?_, ?_⟩; (focus (have z0 := hw'.cell 0 _ rfl; go_simp; (try rfl); done)); try simp only [Act.put, List.setIfInBounds_toArray, List.set_cons_zero, List.set_cons_succ]))
    have c_f0 := xb.cell 0 _ rfl
    have c_f1 := xb.cell 1 _ rfl
    have c_f2 := xb.cell 2 _ rfl
    have c_f3 := xb.cell 3 _ rfl
    have c_f4 := xb.cell 4 _ rfl
    have m_f0 := xb.mark 0 _ rfl
    have m_f1 := xb.mark 1 _ rfl
    have m_f2 := xb.mark 2 _ rfl
    have m_f3 := xb.mark 3 _ rfl
    have m_f4 := xb.mark 4 _ rfl
    have l_f := xb.lt (Nat.succ_pos _)
    refine wpP_last ?_ (fun K hK => ?_); (focus rfl)
    go_simp
    clear c_f0 c_f1 c_f2 c_f3 c_f4 m_f0 m_f1 m_f2 m_f3 m_f4 l_f
    refine name_K (fun wy hW => ?_)
    have xa2 : boxAt wy ta [.slice none 0 0, .slice none 0 0, .slice none 0 0, .slice none 0 0, .slice none 0 0, .int .i64 0, .slice none 0 0, .slice none 0 0, .slice none 0 0, .slice none 0 0, .slice none 0 0, .slice none 0 0] := by rw [hW]; exact (((((xa).far ⟨tf, 0, none⟩ _ haf.symm).far ⟨tf, 1, none⟩ _ haf.symm).far ⟨tf, 2, none⟩ _ haf.symm).far ⟨tf, 3, none⟩ _ haf.symm).far ⟨tf, 4, none⟩ _ haf.symm
    have xb2 : boxAt wy tf [.int .i64 12, .int .i64 0, .int .i64 0, .int .i64 0, .slice none 0 0] := by rw [hW]; exact (((((xb).put 0 _ (by simp)).put 1 _ (by simp)).put 2 _ (by simp)).put 3 _ (by simp)).put 4 _ (by simp)
    have hgy : Gr w wy := by rw [hW]; exact Below.setCell (Below.setCell (Below.setCell (Below.setCell (Below.setCell (hgz) htf _) htf _) htf _) htf _) htf _
    have Z2 := Lib.hid (Z.out wy hgy)
    refine hK.out _ _ ?_
    clear hK K hW xa xb hgz hgy xs Z
    try simp only [Act.put, List.setIfInBounds_toArray, List.set_cons_zero, List.set_cons_succ]
    refine wpP_done ?_
    go_wp2_with fail
    have c_e0 := xa2.cell 0 _ rfl
    have c_e1 := xa2.cell 1 _ rfl
    have c_e2 := xa2.cell 2 _ rfl
    have c_e3 := xa2.cell 3 _ rfl
    have c_e4 := xa2.cell 4 _ rfl
    have c_e5 := xa2.cell 5 _ rfl
    have c_e6 := xa2.cell 6 _ rfl
    have c_e7 := xa2.cell 7 _ rfl
    have c_e8 := xa2.cell 8 _ rfl
    have c_e9 := xa2.cell 9 _ rfl
    have c_e10 := xa2.cell 10 _ rfl
    have c_e11 := xa2.cell 11 _ rfl
    have m_e0 := xa2.mark 0 _ rfl
    have m_e1 := xa2.mark 1 _ rfl
    have m_e2 := xa2.mark 2 _ rfl
    have m_e3 := xa2.mark 3 _ rfl
    have m_e4 := xa2.mark 4 _ rfl
    have m_e5 := xa2.mark 5 _ rfl
    have m_e6 := xa2.mark 6 _ rfl
    have m_e7 := xa2.mark 7 _ rfl
    have m_e8 := xa2.mark 8 _ rfl
    have m_e9 := xa2.mark 9 _ rfl
    have m_e10 := xa2.mark 10 _ rfl
    have m_e11 := xa2.mark 11 _ rfl
    have l_e := xa2.lt (Nat.succ_pos _)
    have c_f0 := xb2.cell 0 _ rfl
    have c_f1 := xb2.cell 1 _ rfl
    have c_f2 := xb2.cell 2 _ rfl
    have c_f3 := xb2.cell 3 _ rfl
    have c_f4 := xb2.cell 4 _ rfl
    have m_f0 := xb2.mark 0 _ rfl
    have m_f1 := xb2.mark 1 _ rfl
    have m_f2 := xb2.mark 2 _ rfl
    have m_f3 := xb2.mark 3 _ rfl
    have m_f4 := xb2.mark 4 _ rfl
    have l_f := xb2.lt (Nat.succ_pos _)
    refine bodyPost_ret (v := .tuple #[.agg #[.slice none 0 0, .slice none 0 0, .slice none 0 0, .slice none 0 0, .slice none 0 0, .int .i64 0, .slice none 0 0, .slice none 0 0, .slice none 0 0, .slice none 0 0, .slice none 0 0, .slice none 0 0], .agg #[.int .i64 12, .int .i64 0, .int .i64 0, .int .i64 0, .slice none 0 0]]) (by simp [results, Tryd.results20, go_sem, c_e0, c_e1, c_e2, c_e3, c_e4, c_e5, c_e6, c_e7, c_e8, c_e9, c_e10, c_e11, c_f0, c_f1, c_f2, c_f3, c_f4]) rfl ?_
    exact Z2.out
  | true =>
    have hhd := Lib.hid (of_decide_eq_true hh)
    clear hh
    go_wp2_with fail
    refine name_calls (fun W3 hW3 => ?_)
    have hgx : Gr W1 W3 := by rw [hW3]; exact Gr.alloc _ _
    have hsx : W1.heap.size < W3.heap.size := by rw [hW3]; simp
    have xr : boxAt W3 W1.heap.size [.slice (some ⟨b, a, none⟩) (n - 4) (c - 4), .bool false] := by rw [hW3]; exact boxAt.new_at _ _ _ rfl rfl
    have hrd : RdS W3 W1.heap.size b (bs.drop 4, false) := by
      refine ⟨⟨a, c - 4, ?_, ?_, fun j x hj => ?_⟩, by show b ≠ W1.heap.size; omega, ?_, by have := hgx.size; omega⟩
      · dsimp only
        rw [List.length_drop, HNN.out]; exact xr
      · dsimp only
        rw [List.length_drop, HNN.out]; omega
      · dsimp only at hj
        have hjl := (List.getElem?_eq_some_iff.1 hj).1
        rw [List.length_drop, HNN.out] at hjl
        rw [List.getElem?_drop] at hj
        rcases hak with rfl | hc4
        · rw [Nat.add_assoc]; exact hgx.cell (hG.cell (HCS.out (4 + j) _ (by rw [List.getElem?_map, hj]; rfl)))
        · omega
      · dsimp only
        rw [List.length_drop, HNN.out]; omega
    obtain ⟨x, ⟨L, bad⟩, hrs⟩ : ∃ x t, rcS (bs.drop 4, false) = (x, t) := ⟨_, _, rfl⟩
    have HRS := Lib.hid hrs
    have HTA := Lib.hid (tables17_any W3 W1.heap.size b (bs.drop 4, false) hrd hsx (by have := hgx.size; omega))
    obtain ⟨rb, hrb⟩ : ∃ rb, rb = W1.heap.size := ⟨_, rfl⟩
    rw [← hrb] at HTA ⊢
    have hrbw : w.heap.size ≤ rb := by have := hG.size; omega
    have harb : ta ≠ rb := by have := ya.lt (by simp); omega
    have hbrb : tf ≠ rb := by have := yb.lt (by simp); omega
    have hfrb : fb ≠ rb := by omega
    have hbe : ta < W3.heap.size ∧ tf < W3.heap.size ∧ fb < W3.heap.size := by have := ya.lt (by simp); have := yb.lt (by simp); omega
    have ya1 := ya.later hgx
    have yb1 := yb.later hgx
    have yf1 := yf.later hgx
    have hG1 := hG.trans hgx
    clear hrs
    clear hrd ya yb yf hG hgx hsx hrb hW3 xr hak hslc hfW
    go_at_call 55
    (with_reducible refine HTA.out.mono ?_); rintro e w4 ⟨tv, rfl, hol, hvl, hrd, hk⟩
    rw [HRS.out] at hol hvl hrd ⊢
    dsimp only at hol hvl hrd ⊢
    obtain ⟨T, hT⟩ : ∃ T, tbOf x = T := ⟨_, rfl⟩
    rw [hT] at hol hvl ⊢
    have HT := Lib.hid hT
    obtain ⟨co, hco⟩ : ∃ co, T.count = co := ⟨_, rfl⟩
    obtain ⟨u0, u1, u2, u3, vr, u4, u5, u6, u7, u8, u9, u10⟩ := tv
    obtain ⟨p0, n0, c0, rfl⟩ : ∃ p n c, u0 = .slice p n c := by obtain ⟨p, c, hv⟩ := (Sl.of_owns (hol _ (List.mem_of_getElem? (show (rowsOf T _)[0]? = some _ from rfl)))).len; exact ⟨p, _, c, hv⟩
    obtain ⟨p1, n1, c1, rfl⟩ : ∃ p n c, u1 = .slice p n c := by obtain ⟨p, c, hv⟩ := (Sl.of_owns (hol _ (List.mem_of_getElem? (show (rowsOf T _)[1]? = some _ from rfl)))).len; exact ⟨p, _, c, hv⟩
    obtain ⟨p2, n2, c2, rfl⟩ : ∃ p n c, u2 = .slice p n c := by obtain ⟨p, c, hv⟩ := (Sl.of_owns (hol _ (List.mem_of_getElem? (show (rowsOf T _)[2]? = some _ from rfl)))).len; exact ⟨p, _, c, hv⟩
    obtain ⟨p3, n3, c3, rfl⟩ : ∃ p n c, u3 = .slice p n c := by obtain ⟨p, c, hv⟩ := (Sl.of_owns (hol _ (List.mem_of_getElem? (show (rowsOf T _)[3]? = some _ from rfl)))).len; exact ⟨p, _, c, hv⟩
    obtain ⟨p4, n4, c4, rfl⟩ : ∃ p n c, u4 = .slice p n c := by obtain ⟨p, c, hv⟩ := (Sl.of_owns (hol _ (List.mem_of_getElem? (show (rowsOf T _)[4]? = some _ from rfl)))).len; exact ⟨p, _, c, hv⟩
    obtain ⟨p5, n5, c5, rfl⟩ : ∃ p n c, u5 = .slice p n c := by obtain ⟨p, c, hv⟩ := (Sl.of_owns (hol _ (List.mem_of_getElem? (show (rowsOf T _)[5]? = some _ from rfl)))).len; exact ⟨p, _, c, hv⟩
    obtain ⟨p6, n6, c6, rfl⟩ : ∃ p n c, u6 = .slice p n c := by obtain ⟨p, c, hv⟩ := (Sl.of_owns (hol _ (List.mem_of_getElem? (show (rowsOf T _)[6]? = some _ from rfl)))).len; exact ⟨p, _, c, hv⟩
    obtain ⟨p7, n7, c7, rfl⟩ : ∃ p n c, u7 = .slice p n c := by obtain ⟨p, c, hv⟩ := (Sl.of_owns (hol _ (List.mem_of_getElem? (show (rowsOf T _)[7]? = some _ from rfl)))).len; exact ⟨p, _, c, hv⟩
    obtain ⟨p8, n8, c8, rfl⟩ : ∃ p n c, u8 = .slice p n c := by obtain ⟨p, c, hv⟩ := (Sl.of_owns (hol _ (List.mem_of_getElem? (show (rowsOf T _)[8]? = some _ from rfl)))).len; exact ⟨p, _, c, hv⟩
    obtain ⟨p9, n9, c9, rfl⟩ : ∃ p n c, u9 = .slice p n c := by obtain ⟨p, c, hv⟩ := (Sl.of_owns (hol _ (List.mem_of_getElem? (show (rowsOf T _)[9]? = some _ from rfl)))).len; exact ⟨p, _, c, hv⟩
    obtain ⟨p10, n10, c10, rfl⟩ : ∃ p n c, u10 = .slice p n c := by obtain ⟨p, c, hv⟩ := (Sl.of_owns (hol _ (List.mem_of_getElem? (show (rowsOf T _)[10]? = some _ from rfl)))).len; exact ⟨p, _, c, hv⟩
    have hG4 : Gr w w4 := ⟨hk.os.trans hG1.os, hk.tape.trans hG1.tape, hk.output.trans hG1.output, Nat.le_trans hG1.size hk.size, fun k h1 => (hk.block k (Nat.lt_of_lt_of_le h1 hG1.size) (by omega)).trans (Below.block hG1 k h1)⟩
    have ya4 := ya1.keptP hk harb (by simp)
    have yb4 := yb1.keptP hk hbrb (by simp)
    have yf4 := yf1.keptP hk hfrb (by simp)
    have HOL := Lib.hid hol
    have HVL := Lib.hid hvl
    unfold tbV
    dsimp only
    rw [hco]
    have HCO := Lib.hid hco
    clear hk hol hvl hT hco ya1 yb1 yf1 hG1
    go_upto_region 6 with fail
    refine name_world (fun W5 hW5 => ?_)
    have hb5 : Gr w4 W5 := by rw [hW5]; exact Gr.alloc _ _
    have xt : boxAt W5 w4.heap.size [.slice p0 n0 c0, .slice p1 n1 c1, .slice p2 n2 c2, .slice p3 n3 c3, .slice p4 n4 c4, .int .i64 co, .slice p5 n5 c5, .slice p6 n6 c6, .slice p7 n7 c7, .slice p8 n8 c8, .slice p9 n9 c9, .slice p10 n10 c10] := by rw [hW5]; exact boxAt.new_at [.slice p0 n0 c0, .slice p1 n1 c1, .slice p2 n2 c2, .slice p3 n3 c3, .slice p4 n4 c4, .int .i64 co, .slice p5 n5 c5, .slice p6 n6 c6, .slice p7 n7 c7, .slice p8 n8 c8, .slice p9 n9 c9, .slice p10 n10 c10] _ _ rfl rfl
    have hrd5 := hrd.later hb5
    obtain ⟨o, q, xr, hlq, _⟩ := hrd5.box
    dsimp only at xr hlq
    have ya := ya4.later hb5
    have yb := yb4.later hb5
    have yf := yf4.later hb5
    have hG := hG4.trans hb5
    have HOL5 := Lib.hid (HOL.out.later hb5)
    clear hW5 hb5 hrd hrd5 ya4 yb4 yf4 hG4 HOL
    have c_r0 := xr.cell 0 _ rfl
    have c_r1 := xr.cell 1 _ rfl
    have m_r0 := xr.mark 0 _ rfl
    have m_r1 := xr.mark 1 _ rfl
    have l_r := xr.lt (Nat.succ_pos _)
    cases bad with
    | true =>
      have hno := Lib.hid (show decT 2 3 255 bs = none from by rw [dec_rcS bs hhd.out.1 hhd.out.2.1 hhd.out.2.2, HRS.out]; exact if_pos (.inl rfl))
      have Z := Lib.hid (NONE.out hno.out)
      go_wp2_with fail
      refine wp_region_T (fun _ _ => False) (fun w' => boxAt w' fb [.int .i64 12, .int .i64 0, .int .i64 0, .int .i64 0, .slice none 0 0]) (.take 0 (.take 1 (.run 2 false (.run 3 true .nil)))) (fun _ _ _ _ h => h.elim) (yf.later (Gr.drew _)) (by kernel_rfl) (by kernel_rfl) ?_
      simp only [pickOps, nthOp]
      intro wq hGq hSq
      have za := ya.later hGq
      have zb := yb.later hGq
      have hgq := hG.trans hGq
      clear hGq
      repeat (first | (refine wpP_skip_take ?_ ?_; (focus rfl); try simp only [Act.put, List.setIfInBounds_toArray, List.set_cons_zero, List.set_cons_succ]) | (refine wpP_skip_run ?_ ?_; (focus rfl); try simp only [Act.put, List.setIfInBounds_toArray, List.set_cons_zero, List.set_cons_succ]) | (refine wpP_take ?_ ?_; (focus rfl); apply Exists.intro; refine ⟨fun w' hw' => ?_, ?_⟩; (focus (have z0 := hw'.cell 0 _ rfl; have z1 := hw'.cell 1 _ rfl; have z2 := hw'.cell 2 _ rfl; have z3 := hw'.cell 3 _ rfl; have z4 := hw'.cell 4 _ rfl; go_simp; (try rfl); done)); try simp only [Act.put, List.setIfInBounds_toArray, List.set_cons_zero, List.set_cons_succ]))
      have c_e0 := za.cell 0 _ rfl
      have c_e1 := za.cell 1 _ rfl
      have c_e2 := za.cell 2 _ rfl
      have c_e3 := za.cell 3 _ rfl
      have c_e4 := za.cell 4 _ rfl
      have c_e5 := za.cell 5 _ rfl
      have c_e6 := za.cell 6 _ rfl
      have c_e7 := za.cell 7 _ rfl
      have c_e8 := za.cell 8 _ rfl
      have c_e9 := za.cell 9 _ rfl
      have c_e10 := za.cell 10 _ rfl
      have c_e11 := za.cell 11 _ rfl
      have m_e0 := za.mark 0 _ rfl
      have m_e1 := za.mark 1 _ rfl
      have m_e2 := za.mark 2 _ rfl
      have m_e3 := za.mark 3 _ rfl
      have m_e4 := za.mark 4 _ rfl
      have m_e5 := za.mark 5 _ rfl
      have m_e6 := za.mark 6 _ rfl
      have m_e7 := za.mark 7 _ rfl
      have m_e8 := za.mark 8 _ rfl
      have m_e9 := za.mark 9 _ rfl
      have m_e10 := za.mark 10 _ rfl
      have m_e11 := za.mark 11 _ rfl
      have l_e := za.lt (Nat.succ_pos _)
      refine wpP_run ?_ (fun K hK => ?_); (focus rfl)
      go_simp
      clear c_e0 c_e1 c_e2 c_e3 c_e4 c_e5 c_e6 c_e7 c_e8 c_e9 c_e10 c_e11 m_e0 m_e1 m_e2 m_e3 m_e4 m_e5 m_e6 m_e7 m_e8 m_e9 m_e10 m_e11 l_e
      refine name_K (fun wz hW => ?_)
      have xs : boxAt wz fb [.int .i64 12, .int .i64 0, .int .i64 0, .int .i64 0, .slice none 0 0] := by rw [hW]; exact ((((((((((((hSq).far ⟨ta, 0, none⟩ _ har).far ⟨ta, 1, none⟩ _ har).far ⟨ta, 2, none⟩ _ har).far ⟨ta, 3, none⟩ _ har).far ⟨ta, 4, none⟩ _ har).far ⟨ta, 5, none⟩ _ har).far ⟨ta, 6, none⟩ _ har).far ⟨ta, 7, none⟩ _ har).far ⟨ta, 8, none⟩ _ har).far ⟨ta, 9, none⟩ _ har).far ⟨ta, 10, none⟩ _ har).far ⟨ta, 11, none⟩ _ har
      have xa : boxAt wz ta [.slice none 0 0, .slice none 0 0, .slice none 0 0, .slice none 0 0, .slice none 0 0, .int .i64 0, .slice none 0 0, .slice none 0 0, .slice none 0 0, .slice none 0 0, .slice none 0 0, .slice none 0 0] := by rw [hW]; exact ((((((((((((za).put 0 _ (by simp)).put 1 _ (by simp)).put 2 _ (by simp)).put 3 _ (by simp)).put 4 _ (by simp)).put 5 _ (by simp)).put 6 _ (by simp)).put 7 _ (by simp)).put 8 _ (by simp)).put 9 _ (by simp)).put 10 _ (by simp)).put 11 _ (by simp)
      have xb : boxAt wz tf [.int .i64 0, .int .i64 0, .int .i64 0, .int .i64 0, .slice none 0 0] := by rw [hW]; exact ((((((((((((zb).far ⟨ta, 0, none⟩ _ haf).far ⟨ta, 1, none⟩ _ haf).far ⟨ta, 2, none⟩ _ haf).far ⟨ta, 3, none⟩ _ haf).far ⟨ta, 4, none⟩ _ haf).far ⟨ta, 5, none⟩ _ haf).far ⟨ta, 6, none⟩ _ haf).far ⟨ta, 7, none⟩ _ haf).far ⟨ta, 8, none⟩ _ haf).far ⟨ta, 9, none⟩ _ haf).far ⟨ta, 10, none⟩ _ haf).far ⟨ta, 11, none⟩ _ haf
      have hgz : Gr w wz := by rw [hW]; exact Below.setCell (Below.setCell (Below.setCell (Below.setCell (Below.setCell (Below.setCell (Below.setCell (Below.setCell (Below.setCell (Below.setCell (Below.setCell (Below.setCell (hgq) hta _) hta _) hta _) hta _) hta _) hta _) hta _) hta _) hta _) hta _) hta _) hta _
      refine hK.out _ _ xs ?_
      clear hK K hW za zb hgq hSq
      try simp only [Act.put, List.setIfInBounds_toArray, List.set_cons_zero, List.set_cons_succ]
      repeat (first | (refine wpP_skip_take ?_ ?_; (focus rfl); try simp only [Act.put, List.setIfInBounds_toArray, List.set_cons_zero, List.set_cons_succ]) | (refine wpP_skip_run ?_ ?_; (focus rfl); try simp only [Act.put, List.setIfInBounds_toArray, List.set_cons_zero, List.set_cons_succ]) | (refine wpP_take ?_ ?_; (focus rfl); apply Exists.intro; refine ⟨fun w' hw' => ?_, ?_⟩; (focus (have z0 := hw'.cell 0 _ rfl; go_simp; (try rfl); done)); try simp only [Act.put, List.setIfInBounds_toArray, List.set_cons_zero, List.set_cons_succ]))
      have c_f0 := xb.cell 0 _ rfl
      have c_f1 := xb.cell 1 _ rfl
      have c_f2 := xb.cell 2 _ rfl
      have c_f3 := xb.cell 3 _ rfl
      have c_f4 := xb.cell 4 _ rfl
      have m_f0 := xb.mark 0 _ rfl
      have m_f1 := xb.mark 1 _ rfl
      have m_f2 := xb.mark 2 _ rfl
      have m_f3 := xb.mark 3 _ rfl
      have m_f4 := xb.mark 4 _ rfl
      have l_f := xb.lt (Nat.succ_pos _)
      refine wpP_last ?_ (fun K hK => ?_); (focus rfl)
      go_simp
      clear c_f0 c_f1 c_f2 c_f3 c_f4 m_f0 m_f1 m_f2 m_f3 m_f4 l_f
      refine name_K (fun wy hW => ?_)
      have xa2 : boxAt wy ta [.slice none 0 0, .slice none 0 0, .slice none 0 0, .slice none 0 0, .slice none 0 0, .int .i64 0, .slice none 0 0, .slice none 0 0, .slice none 0 0, .slice none 0 0, .slice none 0 0, .slice none 0 0] := by rw [hW]; exact (((((xa).far ⟨tf, 0, none⟩ _ haf.symm).far ⟨tf, 1, none⟩ _ haf.symm).far ⟨tf, 2, none⟩ _ haf.symm).far ⟨tf, 3, none⟩ _ haf.symm).far ⟨tf, 4, none⟩ _ haf.symm
      have xb2 : boxAt wy tf [.int .i64 12, .int .i64 0, .int .i64 0, .int .i64 0, .slice none 0 0] := by rw [hW]; exact (((((xb).put 0 _ (by simp)).put 1 _ (by simp)).put 2 _ (by simp)).put 3 _ (by simp)).put 4 _ (by simp)
      have hgy : Gr w wy := by rw [hW]; exact Below.setCell (Below.setCell (Below.setCell (Below.setCell (Below.setCell (hgz) htf _) htf _) htf _) htf _) htf _
      have Z2 := Lib.hid (Z.out wy hgy)
      refine hK.out _ _ ?_
      clear hK K hW xa xb hgz hgy xs Z
      try simp only [Act.put, List.setIfInBounds_toArray, List.set_cons_zero, List.set_cons_succ]
      refine wpP_done ?_
      go_wp2_with fail
      have c_e0 := xa2.cell 0 _ rfl
      have c_e1 := xa2.cell 1 _ rfl
      have c_e2 := xa2.cell 2 _ rfl
      have c_e3 := xa2.cell 3 _ rfl
      have c_e4 := xa2.cell 4 _ rfl
      have c_e5 := xa2.cell 5 _ rfl
      have c_e6 := xa2.cell 6 _ rfl
      have c_e7 := xa2.cell 7 _ rfl
      have c_e8 := xa2.cell 8 _ rfl
      have c_e9 := xa2.cell 9 _ rfl
      have c_e10 := xa2.cell 10 _ rfl
      have c_e11 := xa2.cell 11 _ rfl
      have m_e0 := xa2.mark 0 _ rfl
      have m_e1 := xa2.mark 1 _ rfl
      have m_e2 := xa2.mark 2 _ rfl
      have m_e3 := xa2.mark 3 _ rfl
      have m_e4 := xa2.mark 4 _ rfl
      have m_e5 := xa2.mark 5 _ rfl
      have m_e6 := xa2.mark 6 _ rfl
      have m_e7 := xa2.mark 7 _ rfl
      have m_e8 := xa2.mark 8 _ rfl
      have m_e9 := xa2.mark 9 _ rfl
      have m_e10 := xa2.mark 10 _ rfl
      have m_e11 := xa2.mark 11 _ rfl
      have l_e := xa2.lt (Nat.succ_pos _)
      have c_f0 := xb2.cell 0 _ rfl
      have c_f1 := xb2.cell 1 _ rfl
      have c_f2 := xb2.cell 2 _ rfl
      have c_f3 := xb2.cell 3 _ rfl
      have c_f4 := xb2.cell 4 _ rfl
      have m_f0 := xb2.mark 0 _ rfl
      have m_f1 := xb2.mark 1 _ rfl
      have m_f2 := xb2.mark 2 _ rfl
      have m_f3 := xb2.mark 3 _ rfl
      have m_f4 := xb2.mark 4 _ rfl
      have l_f := xb2.lt (Nat.succ_pos _)
      refine bodyPost_ret (v := .tuple #[.agg #[.slice none 0 0, .slice none 0 0, .slice none 0 0, .slice none 0 0, .slice none 0 0, .int .i64 0, .slice none 0 0, .slice none 0 0, .slice none 0 0, .slice none 0 0, .slice none 0 0, .slice none 0 0], .agg #[.int .i64 12, .int .i64 0, .int .i64 0, .int .i64 0, .slice none 0 0]]) (by simp [results, Tryd.results20, go_sem, c_e0, c_e1, c_e2, c_e3, c_e4, c_e5, c_e6, c_e7, c_e8, c_e9, c_e10, c_e11, c_f0, c_f1, c_f2, c_f3, c_f4]) rfl ?_
      exact Z2.out
    | false =>
      by_cases hL : 0 < L.length
      · have hno := Lib.hid (show decT 2 3 255 bs = none from by rw [dec_rcS bs hhd.out.1 hhd.out.2.1 hhd.out.2.2, HRS.out]; exact if_pos (.inr hL))
        have hLI : (0 : Int) < (L.length : Int) := by omega
        clear hL
        have Z := Lib.hid (NONE.out hno.out)
        go_wp2_with fail
        refine wp_region_T (fun _ _ => False) (fun w' => boxAt w' fb [.int .i64 12, .int .i64 0, .int .i64 0, .int .i64 0, .slice none 0 0]) (.take 0 (.take 1 (.run 2 false (.run 3 true .nil)))) (fun _ _ _ _ h => h.elim) (yf.later (Gr.drew _)) (by kernel_rfl) (by kernel_rfl) ?_
        simp only [pickOps, nthOp]
        intro wq hGq hSq
        have za := ya.later hGq
        have zb := yb.later hGq
        have hgq := hG.trans hGq
        clear hGq
        repeat (first | (refine wpP_skip_take ?_ ?_; (focus rfl); try simp only [Act.put, List.setIfInBounds_toArray, List.set_cons_zero, List.set_cons_succ]) | (refine wpP_skip_run ?_ ?_; (focus rfl); try simp only [Act.put, List.setIfInBounds_toArray, List.set_cons_zero, List.set_cons_succ]) | (refine wpP_take ?_ ?_; (focus rfl); apply Exists.intro; refine ⟨fun w' hw' => ?_, ?_⟩; (focus (have z0 := hw'.cell 0 _ rfl; have z1 := hw'.cell 1 _ rfl; have z2 := hw'.cell 2 _ rfl; have z3 := hw'.cell 3 _ rfl; have z4 := hw'.cell 4 _ rfl; go_simp; (try rfl); done)); try simp only [Act.put, List.setIfInBounds_toArray, List.set_cons_zero, List.set_cons_succ]))
        have c_e0 := za.cell 0 _ rfl
        have c_e1 := za.cell 1 _ rfl
        have c_e2 := za.cell 2 _ rfl
        have c_e3 := za.cell 3 _ rfl
        have c_e4 := za.cell 4 _ rfl
        have c_e5 := za.cell 5 _ rfl
        have c_e6 := za.cell 6 _ rfl
        have c_e7 := za.cell 7 _ rfl
        have c_e8 := za.cell 8 _ rfl
        have c_e9 := za.cell 9 _ rfl
        have c_e10 := za.cell 10 _ rfl
        have c_e11 := za.cell 11 _ rfl
        have m_e0 := za.mark 0 _ rfl
        have m_e1 := za.mark 1 _ rfl
        have m_e2 := za.mark 2 _ rfl
        have m_e3 := za.mark 3 _ rfl
        have m_e4 := za.mark 4 _ rfl
        have m_e5 := za.mark 5 _ rfl
        have m_e6 := za.mark 6 _ rfl
        have m_e7 := za.mark 7 _ rfl
        have m_e8 := za.mark 8 _ rfl
        have m_e9 := za.mark 9 _ rfl
        have m_e10 := za.mark 10 _ rfl
        have m_e11 := za.mark 11 _ rfl
        have l_e := za.lt (Nat.succ_pos _)
        refine wpP_run ?_ (fun K hK => ?_); (focus rfl)
        go_simp
        clear c_e0 c_e1 c_e2 c_e3 c_e4 c_e5 c_e6 c_e7 c_e8 c_e9 c_e10 c_e11 m_e0 m_e1 m_e2 m_e3 m_e4 m_e5 m_e6 m_e7 m_e8 m_e9 m_e10 m_e11 l_e
        refine name_K (fun wz hW => ?_)
        have xs : boxAt wz fb [.int .i64 12, .int .i64 0, .int .i64 0, .int .i64 0, .slice none 0 0] := by rw [hW]; exact ((((((((((((hSq).far ⟨ta, 0, none⟩ _ har).far ⟨ta, 1, none⟩ _ har).far ⟨ta, 2, none⟩ _ har).far ⟨ta, 3, none⟩ _ har).far ⟨ta, 4, none⟩ _ har).far ⟨ta, 5, none⟩ _ har).far ⟨ta, 6, none⟩ _ har).far ⟨ta, 7, none⟩ _ har).far ⟨ta, 8, none⟩ _ har).far ⟨ta, 9, none⟩ _ har).far ⟨ta, 10, none⟩ _ har).far ⟨ta, 11, none⟩ _ har
        have xa : boxAt wz ta [.slice none 0 0, .slice none 0 0, .slice none 0 0, .slice none 0 0, .slice none 0 0, .int .i64 0, .slice none 0 0, .slice none 0 0, .slice none 0 0, .slice none 0 0, .slice none 0 0, .slice none 0 0] := by rw [hW]; exact ((((((((((((za).put 0 _ (by simp)).put 1 _ (by simp)).put 2 _ (by simp)).put 3 _ (by simp)).put 4 _ (by simp)).put 5 _ (by simp)).put 6 _ (by simp)).put 7 _ (by simp)).put 8 _ (by simp)).put 9 _ (by simp)).put 10 _ (by simp)).put 11 _ (by simp)
        have xb : boxAt wz tf [.int .i64 0, .int .i64 0, .int .i64 0, .int .i64 0, .slice none 0 0] := by rw [hW]; exact ((((((((((((zb).far ⟨ta, 0, none⟩ _ haf).far ⟨ta, 1, none⟩ _ haf).far ⟨ta, 2, none⟩ _ haf).far ⟨ta, 3, none⟩ _ haf).far ⟨ta, 4, none⟩ _ haf).far ⟨ta, 5, none⟩ _ haf).far ⟨ta, 6, none⟩ _ haf).far ⟨ta, 7, none⟩ _ haf).far ⟨ta, 8, none⟩ _ haf).far ⟨ta, 9, none⟩ _ haf).far ⟨ta, 10, none⟩ _ haf).far ⟨ta, 11, none⟩ _ haf
        have hgz : Gr w wz := by rw [hW]; exact Below.setCell (Below.setCell (Below.setCell (Below.setCell (Below.setCell (Below.setCell (Below.setCell (Below.setCell (Below.setCell (Below.setCell (Below.setCell (Below.setCell (hgq) hta _) hta _) hta _) hta _) hta _) hta _) hta _) hta _) hta _) hta _) hta _) hta _
        refine hK.out _ _ xs ?_
        clear hK K hW za zb hgq hSq
        try simp only [Act.put, List.setIfInBounds_toArray, List.set_cons_zero, List.set_cons_succ]
        repeat (first | (refine wpP_skip_take ?_ ?_; (focus rfl); try simp only [Act.put, List.setIfInBounds_toArray, List.set_cons_zero, List.set_cons_succ]) | (refine wpP_skip_run ?_ ?_; (focus rfl); try simp only [Act.put, List.setIfInBounds_toArray, List.set_cons_zero, List.set_cons_succ]) | (refine wpP_take ?_ ?_; (focus rfl); apply Exists.intro; refine ⟨fun w' hw' => ?_, ?_⟩; (focus (have z0 := hw'.cell 0 _ rfl; go_simp; (try rfl); done)); try simp only [Act.put, List.setIfInBounds_toArray, List.set_cons_zero, List.set_cons_succ]))
        have c_f0 := xb.cell 0 _ rfl
        have c_f1 := xb.cell 1 _ rfl
        have c_f2 := xb.cell 2 _ rfl
        have c_f3 := xb.cell 3 _ rfl
        have c_f4 := xb.cell 4 _ rfl
        have m_f0 := xb.mark 0 _ rfl
        have m_f1 := xb.mark 1 _ rfl
        have m_f2 := xb.mark 2 _ rfl
        have m_f3 := xb.mark 3 _ rfl
        have m_f4 := xb.mark 4 _ rfl
        have l_f := xb.lt (Nat.succ_pos _)
        refine wpP_last ?_ (fun K hK => ?_); (focus rfl)
        go_simp
        clear c_f0 c_f1 c_f2 c_f3 c_f4 m_f0 m_f1 m_f2 m_f3 m_f4 l_f
        refine name_K (fun wy hW => ?_)
        have xa2 : boxAt wy ta [.slice none 0 0, .slice none 0 0, .slice none 0 0, .slice none 0 0, .slice none 0 0, .int .i64 0, .slice none 0 0, .slice none 0 0, .slice none 0 0, .slice none 0 0, .slice none 0 0, .slice none 0 0] := by rw [hW]; exact (((((xa).far ⟨tf, 0, none⟩ _ haf.symm).far ⟨tf, 1, none⟩ _ haf.symm).far ⟨tf, 2, none⟩ _ haf.symm).far ⟨tf, 3, none⟩ _ haf.symm).far ⟨tf, 4, none⟩ _ haf.symm
        have xb2 : boxAt wy tf [.int .i64 12, .int .i64 0, .int .i64 0, .int .i64 0, .slice none 0 0] := by rw [hW]; exact (((((xb).put 0 _ (by simp)).put 1 _ (by simp)).put 2 _ (by simp)).put 3 _ (by simp)).put 4 _ (by simp)
        have hgy : Gr w wy := by rw [hW]; exact Below.setCell (Below.setCell (Below.setCell (Below.setCell (Below.setCell (hgz) htf _) htf _) htf _) htf _) htf _
        have Z2 := Lib.hid (Z.out wy hgy)
        refine hK.out _ _ ?_
        clear hK K hW xa xb hgz hgy xs Z
        try simp only [Act.put, List.setIfInBounds_toArray, List.set_cons_zero, List.set_cons_succ]
        refine wpP_done ?_
        go_wp2_with fail
        have c_e0 := xa2.cell 0 _ rfl
        have c_e1 := xa2.cell 1 _ rfl
        have c_e2 := xa2.cell 2 _ rfl
        have c_e3 := xa2.cell 3 _ rfl
        have c_e4 := xa2.cell 4 _ rfl
        have c_e5 := xa2.cell 5 _ rfl
        have c_e6 := xa2.cell 6 _ rfl
        have c_e7 := xa2.cell 7 _ rfl
        have c_e8 := xa2.cell 8 _ rfl
        have c_e9 := xa2.cell 9 _ rfl
        have c_e10 := xa2.cell 10 _ rfl
        have c_e11 := xa2.cell 11 _ rfl
        have m_e0 := xa2.mark 0 _ rfl
        have m_e1 := xa2.mark 1 _ rfl
        have m_e2 := xa2.mark 2 _ rfl
        have m_e3 := xa2.mark 3 _ rfl
        have m_e4 := xa2.mark 4 _ rfl
        have m_e5 := xa2.mark 5 _ rfl
        have m_e6 := xa2.mark 6 _ rfl
        have m_e7 := xa2.mark 7 _ rfl
        have m_e8 := xa2.mark 8 _ rfl
        have m_e9 := xa2.mark 9 _ rfl
        have m_e10 := xa2.mark 10 _ rfl
        have m_e11 := xa2.mark 11 _ rfl
        have l_e := xa2.lt (Nat.succ_pos _)
        have c_f0 := xb2.cell 0 _ rfl
        have c_f1 := xb2.cell 1 _ rfl
        have c_f2 := xb2.cell 2 _ rfl
        have c_f3 := xb2.cell 3 _ rfl
        have c_f4 := xb2.cell 4 _ rfl
        have m_f0 := xb2.mark 0 _ rfl
        have m_f1 := xb2.mark 1 _ rfl
        have m_f2 := xb2.mark 2 _ rfl
        have m_f3 := xb2.mark 3 _ rfl
        have m_f4 := xb2.mark 4 _ rfl
        have l_f := xb2.lt (Nat.succ_pos _)
        refine bodyPost_ret (v := .tuple #[.agg #[.slice none 0 0, .slice none 0 0, .slice none 0 0, .slice none 0 0, .slice none 0 0, .int .i64 0, .slice none 0 0, .slice none 0 0, .slice none 0 0, .slice none 0 0, .slice none 0 0, .slice none 0 0], .agg #[.int .i64 12, .int .i64 0, .int .i64 0, .int .i64 0, .slice none 0 0]]) (by simp [results, Tryd.results20, go_sem, c_e0, c_e1, c_e2, c_e3, c_e4, c_e5, c_e6, c_e7, c_e8, c_e9, c_e10, c_e11, c_f0, c_f1, c_f2, c_f3, c_f4]) rfl ?_
        exact Z2.out
      · have hLz : L = [] := List.eq_nil_of_length_eq_zero (by omega)
        have hLI : ¬ (0 : Int) < (L.length : Int) := by omega
        have hdc := dec_rcS bs hhd.out.1 hhd.out.2.1 hhd.out.2.2
        have hby := dec_bytes (b := bs) hhd.out.1 hhd.out.2.2 (by rw [HRS.out]) (by rw [HRS.out]; exact hLz)
        have hfit := rcS_fit (l := bs.drop 4) (by rw [HRS.out])
        rw [HRS.out] at hdc hby hfit
        dsimp only at hdc hby hfit
        rw [if_neg (by rw [hLz]; simp), HT.out] at hdc
        rw [HT.out] at hby hfit
        have hTI : TbIn W5 T ⟨.slice p0 n0 c0, .slice p1 n1 c1, .slice p2 n2 c2, .slice p3 n3 c3, vr, .slice p4 n4 c4, .slice p5 n5 c5, .slice p6 n6 c6, .slice p7 n7 c7, .slice p8 n8 c8, .slice p9 n9 c9, .slice p10 n10 c10⟩ := HOL5.out.tabs HVL.out hfit.1
        have HTI := Lib.hid hTI
        clear hL hLz
        have c_e0 := xt.cell 0 _ rfl
        have c_e1 := xt.cell 1 _ rfl
        have c_e2 := xt.cell 2 _ rfl
        have c_e3 := xt.cell 3 _ rfl
        have c_e4 := xt.cell 4 _ rfl
        have c_e5 := xt.cell 5 _ rfl
        have c_e6 := xt.cell 6 _ rfl
        have c_e7 := xt.cell 7 _ rfl
        have c_e8 := xt.cell 8 _ rfl
        have c_e9 := xt.cell 9 _ rfl
        have c_e10 := xt.cell 10 _ rfl
        have c_e11 := xt.cell 11 _ rfl
        have m_e0 := xt.mark 0 _ rfl
        have m_e1 := xt.mark 1 _ rfl
        have m_e2 := xt.mark 2 _ rfl
        have m_e3 := xt.mark 3 _ rfl
        have m_e4 := xt.mark 4 _ rfl
        have m_e5 := xt.mark 5 _ rfl
        have m_e6 := xt.mark 6 _ rfl
        have m_e7 := xt.mark 7 _ rfl
        have m_e8 := xt.mark 8 _ rfl
        have m_e9 := xt.mark 9 _ rfl
        have m_e10 := xt.mark 10 _ rfl
        have m_e11 := xt.mark 11 _ rfl
        have l_e := xt.lt (Nat.succ_pos _)
        go_wp2_with fail
        clear c_r0 c_r1 m_r0 m_r1 l_r
        clear c_e0 c_e1 c_e2 c_e3 c_e4 c_e5 c_e6 c_e7 c_e8 c_e9 c_e10 c_e11 m_e0 m_e1 m_e2 m_e3 m_e4 m_e5 m_e6 m_e7 m_e8 m_e9 m_e10 m_e11 l_e
        cases hm : mayB T with
        | false =>
          have hno := Lib.hid (show decT 2 3 255 bs = none from by rw [hdc, hm]; rfl)
          have HEN := Lib.hid (enc17_bad T ⟨.slice p0 n0 c0, .slice p1 n1 c1, .slice p2 n2 c2, .slice p3 n3 c3, vr, .slice p4 n4 c4, .slice p5 n5 c5, .slice p6 n6 c6, .slice p7 n7 c7, .slice p8 n8 c8, .slice p9 n9 c9, .slice p10 n10 c10⟩ W5 hTI hfit.2 hm)
          unfold tbV at HEN
          dsimp only at HEN
          rw [HCO.out] at HEN
          clear hdc hby hfit hm hTI
          go_at_call 9
          (with_reducible refine HEN.out.mono ?_); rintro e w6 ⟨rfl, hb6⟩
          go_upto_region 9 with fail
          refine name_world (fun W7 hW7 => ?_)
          have hb7 : Gr w6 W7 := by rw [hW7]; exact Gr.alloc _ _
          have x8 : boxAt W7 w6.heap.size [.int .i64 15, .int .i64 0, .int .i64 0, .int .i64 0, .slice none 0 0] := by rw [hW7]; exact boxAt.new_at _ _ _ rfl rfl
          replace ya := (ya.later hb6).later hb7
          replace yb := (yb.later hb6).later hb7
          replace yf := (yf.later hb6).later hb7
          replace hG := (hG.trans hb6).trans hb7
          clear hW7 hb6 hb7
          have c_g0 := x8.cell 0 _ rfl
          have c_g1 := x8.cell 1 _ rfl
          have c_g2 := x8.cell 2 _ rfl
          have c_g3 := x8.cell 3 _ rfl
          have c_g4 := x8.cell 4 _ rfl
          have m_g0 := x8.mark 0 _ rfl
          have m_g1 := x8.mark 1 _ rfl
          have m_g2 := x8.mark 2 _ rfl
          have m_g3 := x8.mark 3 _ rfl
          have m_g4 := x8.mark 4 _ rfl
          have l_g := x8.lt (Nat.succ_pos _)
          have Z := Lib.hid (NONE.out hno.out)
          go_wp2_with fail
          refine wp_region_T (fun _ _ => False) (fun w' => boxAt w' fb [.int .i64 12, .int .i64 0, .int .i64 0, .int .i64 0, .slice none 0 0]) (.take 0 (.take 1 (.run 2 false (.run 3 true .nil)))) (fun _ _ _ _ h => h.elim) (yf.later (Gr.drew _)) (by kernel_rfl) (by kernel_rfl) ?_
          simp only [pickOps, nthOp]
          intro wq hGq hSq
          have za := ya.later hGq
          have zb := yb.later hGq
          have hgq := hG.trans hGq
          clear hGq
          repeat (first | (refine wpP_skip_take ?_ ?_; (focus rfl); try simp only [Act.put, List.setIfInBounds_toArray, List.set_cons_zero, List.set_cons_succ]) | (refine wpP_skip_run ?_ ?_; (focus rfl); try simp only [Act.put, List.setIfInBounds_toArray, List.set_cons_zero, List.set_cons_succ]) | (refine wpP_take ?_ ?_; (focus rfl); apply Exists.intro; refine ⟨fun w' hw' => ?_, ?_⟩; (focus (have z0 := hw'.cell 0 _ rfl; have z1 := hw'.cell 1 _ rfl; have z2 := hw'.cell 2 _ rfl; have z3 := hw'.cell 3 _ rfl; have z4 := hw'.cell 4 _ rfl; go_simp; (try rfl); done)); try simp only [Act.put, List.setIfInBounds_toArray, List.set_cons_zero, List.set_cons_succ]))
          have c_e0 := za.cell 0 _ rfl
          have c_e1 := za.cell 1 _ rfl
          have c_e2 := za.cell 2 _ rfl
          have c_e3 := za.cell 3 _ rfl
          have c_e4 := za.cell 4 _ rfl
          have c_e5 := za.cell 5 _ rfl
          have c_e6 := za.cell 6 _ rfl
          have c_e7 := za.cell 7 _ rfl
          have c_e8 := za.cell 8 _ rfl
          have c_e9 := za.cell 9 _ rfl
          have c_e10 := za.cell 10 _ rfl
          have c_e11 := za.cell 11 _ rfl
          have m_e0 := za.mark 0 _ rfl
          have m_e1 := za.mark 1 _ rfl
          have m_e2 := za.mark 2 _ rfl
          have m_e3 := za.mark 3 _ rfl
          have m_e4 := za.mark 4 _ rfl
          have m_e5 := za.mark 5 _ rfl
          have m_e6 := za.mark 6 _ rfl
          have m_e7 := za.mark 7 _ rfl
          have m_e8 := za.mark 8 _ rfl
          have m_e9 := za.mark 9 _ rfl
          have m_e10 := za.mark 10 _ rfl
          have m_e11 := za.mark 11 _ rfl
          have l_e := za.lt (Nat.succ_pos _)
          refine wpP_run ?_ (fun K hK => ?_); (focus rfl)
          go_simp
          clear c_e0 c_e1 c_e2 c_e3 c_e4 c_e5 c_e6 c_e7 c_e8 c_e9 c_e10 c_e11 m_e0 m_e1 m_e2 m_e3 m_e4 m_e5 m_e6 m_e7 m_e8 m_e9 m_e10 m_e11 l_e
          refine name_K (fun wz hW => ?_)
          have xs : boxAt wz fb [.int .i64 12, .int .i64 0, .int .i64 0, .int .i64 0, .slice none 0 0] := by rw [hW]; exact ((((((((((((hSq).far ⟨ta, 0, none⟩ _ har).far ⟨ta, 1, none⟩ _ har).far ⟨ta, 2, none⟩ _ har).far ⟨ta, 3, none⟩ _ har).far ⟨ta, 4, none⟩ _ har).far ⟨ta, 5, none⟩ _ har).far ⟨ta, 6, none⟩ _ har).far ⟨ta, 7, none⟩ _ har).far ⟨ta, 8, none⟩ _ har).far ⟨ta, 9, none⟩ _ har).far ⟨ta, 10, none⟩ _ har).far ⟨ta, 11, none⟩ _ har
          have xa : boxAt wz ta [.slice none 0 0, .slice none 0 0, .slice none 0 0, .slice none 0 0, .slice none 0 0, .int .i64 0, .slice none 0 0, .slice none 0 0, .slice none 0 0, .slice none 0 0, .slice none 0 0, .slice none 0 0] := by rw [hW]; exact ((((((((((((za).put 0 _ (by simp)).put 1 _ (by simp)).put 2 _ (by simp)).put 3 _ (by simp)).put 4 _ (by simp)).put 5 _ (by simp)).put 6 _ (by simp)).put 7 _ (by simp)).put 8 _ (by simp)).put 9 _ (by simp)).put 10 _ (by simp)).put 11 _ (by simp)
          have xb : boxAt wz tf [.int .i64 0, .int .i64 0, .int .i64 0, .int .i64 0, .slice none 0 0] := by rw [hW]; exact ((((((((((((zb).far ⟨ta, 0, none⟩ _ haf).far ⟨ta, 1, none⟩ _ haf).far ⟨ta, 2, none⟩ _ haf).far ⟨ta, 3, none⟩ _ haf).far ⟨ta, 4, none⟩ _ haf).far ⟨ta, 5, none⟩ _ haf).far ⟨ta, 6, none⟩ _ haf).far ⟨ta, 7, none⟩ _ haf).far ⟨ta, 8, none⟩ _ haf).far ⟨ta, 9, none⟩ _ haf).far ⟨ta, 10, none⟩ _ haf).far ⟨ta, 11, none⟩ _ haf
          have hgz : Gr w wz := by rw [hW]; exact Below.setCell (Below.setCell (Below.setCell (Below.setCell (Below.setCell (Below.setCell (Below.setCell (Below.setCell (Below.setCell (Below.setCell (Below.setCell (Below.setCell (hgq) hta _) hta _) hta _) hta _) hta _) hta _) hta _) hta _) hta _) hta _) hta _) hta _
          refine hK.out _ _ xs ?_
          clear hK K hW za zb hgq hSq
          try simp only [Act.put, List.setIfInBounds_toArray, List.set_cons_zero, List.set_cons_succ]
          repeat (first | (refine wpP_skip_take ?_ ?_; (focus rfl); try simp only [Act.put, List.setIfInBounds_toArray, List.set_cons_zero, List.set_cons_succ]) | (refine wpP_skip_run ?_ ?_; (focus rfl); try simp only [Act.put, List.setIfInBounds_toArray, List.set_cons_zero, List.set_cons_succ]) | (refine wpP_take ?_ ?_; (focus rfl); apply Exists.intro; refine ⟨fun w' hw' => ?_, ?_⟩; (focus (have z0 := hw'.cell 0 _ rfl; go_simp; (try rfl); done)); try simp only [Act.put, List.setIfInBounds_toArray, List.set_cons_zero, List.set_cons_succ]))
          have c_f0 := xb.cell 0 _ rfl
          have c_f1 := xb.cell 1 _ rfl
          have c_f2 := xb.cell 2 _ rfl
          have c_f3 := xb.cell 3 _ rfl
          have c_f4 := xb.cell 4 _ rfl
          have m_f0 := xb.mark 0 _ rfl
          have m_f1 := xb.mark 1 _ rfl
          have m_f2 := xb.mark 2 _ rfl
          have m_f3 := xb.mark 3 _ rfl
          have m_f4 := xb.mark 4 _ rfl
          have l_f := xb.lt (Nat.succ_pos _)
          refine wpP_last ?_ (fun K hK => ?_); (focus rfl)
          go_simp
          clear c_f0 c_f1 c_f2 c_f3 c_f4 m_f0 m_f1 m_f2 m_f3 m_f4 l_f
          refine name_K (fun wy hW => ?_)
          have xa2 : boxAt wy ta [.slice none 0 0, .slice none 0 0, .slice none 0 0, .slice none 0 0, .slice none 0 0, .int .i64 0, .slice none 0 0, .slice none 0 0, .slice none 0 0, .slice none 0 0, .slice none 0 0, .slice none 0 0] := by rw [hW]; exact (((((xa).far ⟨tf, 0, none⟩ _ haf.symm).far ⟨tf, 1, none⟩ _ haf.symm).far ⟨tf, 2, none⟩ _ haf.symm).far ⟨tf, 3, none⟩ _ haf.symm).far ⟨tf, 4, none⟩ _ haf.symm
          have xb2 : boxAt wy tf [.int .i64 12, .int .i64 0, .int .i64 0, .int .i64 0, .slice none 0 0] := by rw [hW]; exact (((((xb).put 0 _ (by simp)).put 1 _ (by simp)).put 2 _ (by simp)).put 3 _ (by simp)).put 4 _ (by simp)
          have hgy : Gr w wy := by rw [hW]; exact Below.setCell (Below.setCell (Below.setCell (Below.setCell (Below.setCell (hgz) htf _) htf _) htf _) htf _) htf _
          have Z2 := Lib.hid (Z.out wy hgy)
          refine hK.out _ _ ?_
          clear hK K hW xa xb hgz hgy xs Z
          try simp only [Act.put, List.setIfInBounds_toArray, List.set_cons_zero, List.set_cons_succ]
          refine wpP_done ?_
          go_wp2_with fail
          have c_e0 := xa2.cell 0 _ rfl
          have c_e1 := xa2.cell 1 _ rfl
          have c_e2 := xa2.cell 2 _ rfl
          have c_e3 := xa2.cell 3 _ rfl
          have c_e4 := xa2.cell 4 _ rfl
          have c_e5 := xa2.cell 5 _ rfl
          have c_e6 := xa2.cell 6 _ rfl
          have c_e7 := xa2.cell 7 _ rfl
          have c_e8 := xa2.cell 8 _ rfl
          have c_e9 := xa2.cell 9 _ rfl
          have c_e10 := xa2.cell 10 _ rfl
          have c_e11 := xa2.cell 11 _ rfl
          have m_e0 := xa2.mark 0 _ rfl
          have m_e1 := xa2.mark 1 _ rfl
          have m_e2 := xa2.mark 2 _ rfl
          have m_e3 := xa2.mark 3 _ rfl
          have m_e4 := xa2.mark 4 _ rfl
          have m_e5 := xa2.mark 5 _ rfl
          have m_e6 := xa2.mark 6 _ rfl
          have m_e7 := xa2.mark 7 _ rfl
          have m_e8 := xa2.mark 8 _ rfl
          have m_e9 := xa2.mark 9 _ rfl
          have m_e10 := xa2.mark 10 _ rfl
          have m_e11 := xa2.mark 11 _ rfl
          have l_e := xa2.lt (Nat.succ_pos _)
          have c_f0 := xb2.cell 0 _ rfl
          have c_f1 := xb2.cell 1 _ rfl
          have c_f2 := xb2.cell 2 _ rfl
          have c_f3 := xb2.cell 3 _ rfl
          have c_f4 := xb2.cell 4 _ rfl
          have m_f0 := xb2.mark 0 _ rfl
          have m_f1 := xb2.mark 1 _ rfl
          have m_f2 := xb2.mark 2 _ rfl
          have m_f3 := xb2.mark 3 _ rfl
          have m_f4 := xb2.mark 4 _ rfl
          have l_f := xb2.lt (Nat.succ_pos _)
          refine bodyPost_ret (v := .tuple #[.agg #[.slice none 0 0, .slice none 0 0, .slice none 0 0, .slice none 0 0, .slice none 0 0, .int .i64 0, .slice none 0 0, .slice none 0 0, .slice none 0 0, .slice none 0 0, .slice none 0 0, .slice none 0 0], .agg #[.int .i64 12, .int .i64 0, .int .i64 0, .int .i64 0, .slice none 0 0]]) (by simp [results, Tryd.results20, go_sem, c_e0, c_e1, c_e2, c_e3, c_e4, c_e5, c_e6, c_e7, c_e8, c_e9, c_e10, c_e11, c_f0, c_f1, c_f2, c_f3, c_f4]) rfl ?_
          exact Z2.out
        | true =>
          have hyes := Lib.hid (show decT 2 3 255 bs = some T from by rw [hdc, hm]; rfl)
          have HEN := Lib.hid (enc17_ok T ⟨.slice p0 n0 c0, .slice p1 n1 c1, .slice p2 n2 c2, .slice p3 n3 c3, vr, .slice p4 n4 c4, .slice p5 n5 c5, .slice p6 n6 c6, .slice p7 n7 c7, .slice p8 n8 c8, .slice p9 n9 c9, .slice p10 n10 c10⟩ W5 hTI hfit.2 hm)
          unfold tbV at HEN
          dsimp only at HEN
          rw [HCO.out, hby] at HEN
          have HFIT := Lib.hid hfit
          clear hdc hby hfit hm hTI
          go_at_call 9
          (with_reducible refine HEN.out.mono ?_); rintro e w6 ⟨u, rfl, how, hb6⟩
          obtain ⟨pw, cw, rfl⟩ := own_shape how
          rw [HNN.out]
          have hsw := Sl.of_owns how
          go_upto_region 9 with fail
          refine name_world (fun W7 hW7 => ?_)
          have hb7 : Gr w6 W7 := by rw [hW7]; exact Gr.alloc _ _
          have x8 : boxAt W7 w6.heap.size [.int .i64 0, .int .i64 0, .int .i64 0, .int .i64 0, .slice none 0 0] := by rw [hW7]; exact boxAt.new_at _ _ _ rfl rfl
          have hb57 := hb6.trans hb7
          have HEQ := Lib.hid (eqRR bs (.slice pw bs.length cw) (.slice (some ⟨b, off, none⟩) bs.length c) W7 (hsw.later hb7) (by have := HSL.out; rw [← HNN.out] at this; exact this.later (hG.trans hb57)))
          rw [HNN.out] at HEQ
          clear hW7 hb6 hb7 how hsw
          have c_g0 := x8.cell 0 _ rfl
          have c_g1 := x8.cell 1 _ rfl
          have c_g2 := x8.cell 2 _ rfl
          have c_g3 := x8.cell 3 _ rfl
          have c_g4 := x8.cell 4 _ rfl
          have m_g0 := x8.mark 0 _ rfl
          have m_g1 := x8.mark 1 _ rfl
          have m_g2 := x8.mark 2 _ rfl
          have m_g3 := x8.mark 3 _ rfl
          have m_g4 := x8.mark 4 _ rfl
          have l_g := x8.lt (Nat.succ_pos _)
          go_wp2_with fail
          clear c_g0 c_g1 c_g2 c_g3 c_g4 m_g0 m_g1 m_g2 m_g3 m_g4 l_g
          go_at_call 14
          (with_reducible refine HEQ.out.mono ?_); rintro e w8 ⟨rfl, hb8⟩
          have hb58 := hb57.trans hb8
          have ya8 := ya.later hb58
          have yb8 := yb.later hb58
          have xt8 := xt.later hb58
          have hG8 := hG.trans hb58
          have HOL8 := Lib.hid (HOL5.out.later hb58)
          clear hb8 hb57 hb58 ya yb yf xt hG
          have c_e0 := ya8.cell 0 _ rfl
          have c_e1 := ya8.cell 1 _ rfl
          have c_e2 := ya8.cell 2 _ rfl
          have c_e3 := ya8.cell 3 _ rfl
          have c_e4 := ya8.cell 4 _ rfl
          have c_e5 := ya8.cell 5 _ rfl
          have c_e6 := ya8.cell 6 _ rfl
          have c_e7 := ya8.cell 7 _ rfl
          have c_e8 := ya8.cell 8 _ rfl
          have c_e9 := ya8.cell 9 _ rfl
          have c_e10 := ya8.cell 10 _ rfl
          have c_e11 := ya8.cell 11 _ rfl
          have m_e0 := ya8.mark 0 _ rfl
          have m_e1 := ya8.mark 1 _ rfl
          have m_e2 := ya8.mark 2 _ rfl
          have m_e3 := ya8.mark 3 _ rfl
          have m_e4 := ya8.mark 4 _ rfl
          have m_e5 := ya8.mark 5 _ rfl
          have m_e6 := ya8.mark 6 _ rfl
          have m_e7 := ya8.mark 7 _ rfl
          have m_e8 := ya8.mark 8 _ rfl
          have m_e9 := ya8.mark 9 _ rfl
          have m_e10 := ya8.mark 10 _ rfl
          have m_e11 := ya8.mark 11 _ rfl
          have l_e := ya8.lt (Nat.succ_pos _)
          have c_f0 := yb8.cell 0 _ rfl
          have c_f1 := yb8.cell 1 _ rfl
          have c_f2 := yb8.cell 2 _ rfl
          have c_f3 := yb8.cell 3 _ rfl
          have c_f4 := yb8.cell 4 _ rfl
          have m_f0 := yb8.mark 0 _ rfl
          have m_f1 := yb8.mark 1 _ rfl
          have m_f2 := yb8.mark 2 _ rfl
          have m_f3 := yb8.mark 3 _ rfl
          have m_f4 := yb8.mark 4 _ rfl
          have l_f := yb8.lt (Nat.succ_pos _)
          have c_g0 := xt8.cell 0 _ rfl
          have c_g1 := xt8.cell 1 _ rfl
          have c_g2 := xt8.cell 2 _ rfl
          have c_g3 := xt8.cell 3 _ rfl
          have c_g4 := xt8.cell 4 _ rfl
          have c_g5 := xt8.cell 5 _ rfl
          have c_g6 := xt8.cell 6 _ rfl
          have c_g7 := xt8.cell 7 _ rfl
          have c_g8 := xt8.cell 8 _ rfl
          have c_g9 := xt8.cell 9 _ rfl
          have c_g10 := xt8.cell 10 _ rfl
          have c_g11 := xt8.cell 11 _ rfl
          have m_g0 := xt8.mark 0 _ rfl
          have m_g1 := xt8.mark 1 _ rfl
          have m_g2 := xt8.mark 2 _ rfl
          have m_g3 := xt8.mark 3 _ rfl
          have m_g4 := xt8.mark 4 _ rfl
          have m_g5 := xt8.mark 5 _ rfl
          have m_g6 := xt8.mark 6 _ rfl
          have m_g7 := xt8.mark 7 _ rfl
          have m_g8 := xt8.mark 8 _ rfl
          have m_g9 := xt8.mark 9 _ rfl
          have m_g10 := xt8.mark 10 _ rfl
          have m_g11 := xt8.mark 11 _ rfl
          have l_g := xt8.lt (Nat.succ_pos _)
          go_wp2_with fail
          refine name_endI (fun W9 hW9 => ?_)
          have xa : boxAt W9 ta [.slice p0 n0 c0, .slice p1 n1 c1, .slice p2 n2 c2, .slice p3 n3 c3, .slice p4 n4 c4, .int .i64 co, .slice p5 n5 c5, .slice p6 n6 c6, .slice p7 n7 c7, .slice p8 n8 c8, .slice p9 n9 c9, .slice p10 n10 c10] := by rw [hW9]; exact ((((((((((((((((((ya8).put 0 _ (by simp)).put 1 _ (by simp)).put 2 _ (by simp)).put 3 _ (by simp)).put 4 _ (by simp)).put 5 _ (by simp)).put 6 _ (by simp)).put 7 _ (by simp)).put 8 _ (by simp)).put 9 _ (by simp)).put 10 _ (by simp)).put 11 _ (by simp))).far ⟨tf, 0, none⟩ _ haf.symm).far ⟨tf, 1, none⟩ _ haf.symm).far ⟨tf, 2, none⟩ _ haf.symm).far ⟨tf, 3, none⟩ _ haf.symm).far ⟨tf, 4, none⟩ _ haf.symm
          have xb : boxAt W9 tf [.int .i64 0, .int .i64 0, .int .i64 0, .int .i64 0, .slice none 0 0] := by rw [hW9]; exact ((((((((((((((((((yb8).far ⟨ta, 0, none⟩ _ haf).far ⟨ta, 1, none⟩ _ haf).far ⟨ta, 2, none⟩ _ haf).far ⟨ta, 3, none⟩ _ haf).far ⟨ta, 4, none⟩ _ haf).far ⟨ta, 5, none⟩ _ haf).far ⟨ta, 6, none⟩ _ haf).far ⟨ta, 7, none⟩ _ haf).far ⟨ta, 8, none⟩ _ haf).far ⟨ta, 9, none⟩ _ haf).far ⟨ta, 10, none⟩ _ haf).far ⟨ta, 11, none⟩ _ haf)).put 0 _ (by simp)).put 1 _ (by simp)).put 2 _ (by simp)).put 3 _ (by simp)).put 4 _ (by simp)
          have hG9 : Gr w W9 := by rw [hW9]; exact Below.setCell (Below.setCell (Below.setCell (Below.setCell (Below.setCell (Below.setCell (Below.setCell (Below.setCell (Below.setCell (Below.setCell (Below.setCell (Below.setCell (Below.setCell (Below.setCell (Below.setCell (Below.setCell (Below.setCell (hG8) hta _) hta _) hta _) hta _) hta _) hta _) hta _) hta _) hta _) hta _) hta _) hta _) htf _) htf _) htf _) htf _) htf _
          have hta3 := hbe.1
          have htf3 := hbe.2.1
          have hOL9 : OwnL W9 W3.heap.size (rowsOf T ⟨.slice p0 n0 c0, .slice p1 n1 c1, .slice p2 n2 c2, .slice p3 n3 c3, vr, .slice p4 n4 c4, .slice p5 n5 c5, .slice p6 n6 c6, .slice p7 n7 c7, .slice p8 n8 c8, .slice p9 n9 c9, .slice p10 n10 c10⟩) := by rw [hW9]; exact ((((((((((((((((((HOL8.out).far hta3 0 _).far hta3 1 _).far hta3 2 _).far hta3 3 _).far hta3 4 _).far hta3 5 _).far hta3 6 _).far hta3 7 _).far hta3 8 _).far hta3 9 _).far hta3 10 _).far hta3 11 _)).far htf3 0 _).far htf3 1 _).far htf3 2 _).far htf3 3 _).far htf3 4 _
          have hD : Dec17 w bs (.returned (.tuple #[tbV T ⟨.slice p0 n0 c0, .slice p1 n1 c1, .slice p2 n2 c2, .slice p3 n3 c3, vr, .slice p4 n4 c4, .slice p5 n5 c5, .slice p6 n6 c6, .slice p7 n7 c7, .slice p8 n8 c8, .slice p9 n9 c9, .slice p10 n10 c10⟩, .agg #[.int .i64 0, .int .i64 0, .int .i64 0, .int .i64 0, .slice none 0 0]])) W9 := ⟨hG9, by rw [hyes.out]; exact ⟨_, rfl, hOL9.low (by omega), HVL.out⟩⟩
          have HD := Lib.hid hD
          unfold tbV at HD
          dsimp only at HD
          rw [HCO.out] at HD
          clear hW9 hG9 hOL9 hD ya8 yb8 xt8 hG8
          clear c_e0 c_e1 c_e2 c_e3 c_e4 c_e5 c_e6 c_e7 c_e8 c_e9 c_e10 c_e11 m_e0 m_e1 m_e2 m_e3 m_e4 m_e5 m_e6 m_e7 m_e8 m_e9 m_e10 m_e11 l_e
          clear c_f0 c_f1 c_f2 c_f3 c_f4 m_f0 m_f1 m_f2 m_f3 m_f4 l_f
          clear c_g0 c_g1 c_g2 c_g3 c_g4 c_g5 c_g6 c_g7 c_g8 c_g9 c_g10 c_g11 m_g0 m_g1 m_g2 m_g3 m_g4 m_g5 m_g6 m_g7 m_g8 m_g9 m_g10 m_g11 l_g
          have c_e0 := xa.cell 0 _ rfl
          have c_e1 := xa.cell 1 _ rfl
          have c_e2 := xa.cell 2 _ rfl
          have c_e3 := xa.cell 3 _ rfl
          have c_e4 := xa.cell 4 _ rfl
          have c_e5 := xa.cell 5 _ rfl
          have c_e6 := xa.cell 6 _ rfl
          have c_e7 := xa.cell 7 _ rfl
          have c_e8 := xa.cell 8 _ rfl
          have c_e9 := xa.cell 9 _ rfl
          have c_e10 := xa.cell 10 _ rfl
          have c_e11 := xa.cell 11 _ rfl
          have m_e0 := xa.mark 0 _ rfl
          have m_e1 := xa.mark 1 _ rfl
          have m_e2 := xa.mark 2 _ rfl
          have m_e3 := xa.mark 3 _ rfl
          have m_e4 := xa.mark 4 _ rfl
          have m_e5 := xa.mark 5 _ rfl
          have m_e6 := xa.mark 6 _ rfl
          have m_e7 := xa.mark 7 _ rfl
          have m_e8 := xa.mark 8 _ rfl
          have m_e9 := xa.mark 9 _ rfl
          have m_e10 := xa.mark 10 _ rfl
          have m_e11 := xa.mark 11 _ rfl
          have l_e := xa.lt (Nat.succ_pos _)
          have c_f0 := xb.cell 0 _ rfl
          have c_f1 := xb.cell 1 _ rfl
          have c_f2 := xb.cell 2 _ rfl
          have c_f3 := xb.cell 3 _ rfl
          have c_f4 := xb.cell 4 _ rfl
          have m_f0 := xb.mark 0 _ rfl
          have m_f1 := xb.mark 1 _ rfl
          have m_f2 := xb.mark 2 _ rfl
          have m_f3 := xb.mark 3 _ rfl
          have m_f4 := xb.mark 4 _ rfl
          have l_f := xb.lt (Nat.succ_pos _)
          refine bodyPost_ret (v := .tuple #[.agg #[.slice p0 n0 c0, .slice p1 n1 c1, .slice p2 n2 c2, .slice p3 n3 c3, .slice p4 n4 c4, .int .i64 co, .slice p5 n5 c5, .slice p6 n6 c6, .slice p7 n7 c7, .slice p8 n8 c8, .slice p9 n9 c9, .slice p10 n10 c10], .agg #[.int .i64 0, .int .i64 0, .int .i64 0, .int .i64 0, .slice none 0 0]]) (by simp [results, Tryd.results20, go_sem, c_e0, c_e1, c_e2, c_e3, c_e4, c_e5, c_e6, c_e7, c_e8, c_e9, c_e10, c_e11, c_f0, c_f1, c_f2, c_f3, c_f4]) rfl ?_
          exact HD.out

end Go.Proofs.YtcbfmajojkcibaaDoor

/- bolterlaw17.ImageReads. Printed by gen_irz.py. No condition but that the errors' variables hold them. -/
namespace Go.Proofs.YtcbfmajojkcibaaDoor
open Go Go.RowKit

theorem may_fit17 {t : Tb} (h : mayB t = true) : ∀ s, s ∈ t.modes ∨ s ∈ t.labels → s.length ≤ 9223372036854775807 := by
  obtain ⟨⟨⟨_, m2⟩, ⟨_, r2⟩, _, _, _, _⟩, e⟩ := may_prc h 2 3 255 (by omega) (by omega) (by omega)
  rw [← e]
  intro u hu
  rcases hu with hu | hu
  · obtain ⟨a, ha, rfl⟩ := List.mem_map.1 hu
    have := (m2 a ha).1; omega
  · obtain ⟨a, ha, rfl⟩ := List.mem_map.1 hu
    have := (r2 a ha).1; omega
theorem OwnL.kept {w w' : World} {B g : Nat} {L : List RwE} (h : OwnL w B L) (hk : KpP g w w') (hg : g < B) : OwnL w' B L := h.keep (fun k hk1 hB => hk.block k hk1 (by omega))
/-- What both say of bytes. -/
structure JudgedB (w : World) (bs : List UInt8) (t : Tb) (er : Value) (cd : Int) : Prop where
  txt : ∀ s, s ∈ t.modes ∨ s ∈ t.labels → s.length ≤ 9223372036854775807
  img : ∀ (w' : World) pb c, Gr w w' → Sl w' (.slice pb bs.length c) 1 bs.length (bs.map vB) → bs.length ≤ c → Calls Tryd.prog 19 #[.slice pb bs.length c] w' fun e w2 => ∃ v, e = .returned (.tuple #[tbV t v, er]) ∧ OwnL w2 w'.heap.size (rowsOf t v) ∧ v.rows.length = t.acts.length ∧ Gr w' w2
  ref : ∀ (w' : World) v0, Gr w w' → Sl w' v0 1 bs.length (bs.map vB) → CapOk v0 → Calls Tryd.prog 20 #[v0] w' fun e w2 => ∃ v, e = .returned (.tuple #[tbV t v, .agg #[.int .i64 cd, .int .i64 0, .int .i64 0, .int .i64 0, .slice none 0 0]]) ∧ OwnL w2 w'.heap.size (rowsOf t v) ∧ v.rows.length = t.acts.length ∧ Gr w' w2
  same : ∀ w', Gr w w' → Calls Tryd.prog 13 #[er, .agg #[.int .i64 cd, .int .i64 0, .int .i64 0, .int .i64 0, .slice none 0 0]] w' fun e w2 => e = .returned (.bool true) ∧ Gr w' w2
theorem judgedB (w : World) (s : Nat → Addr) (hF : FaultsIn w s) (bs : List UInt8) (hsm : bs.length ≤ 70368744177664) : ∃ t er cd, JudgedB w bs t er cd := by
  cases hd : decT 2 3 255 bs with
  | some t =>
    refine ⟨t, .nilIface, 0, may_fit17 (enc_dec hd).1, fun w' pb c hg hs hr => ?_, fun w' v0 hg hs hc => ?_, fun w' hg => same_nil w'⟩
    · refine (decode_any w' pb c bs s (hF.later hg) hs hsm hr).mono fun e w2 he => ?_
      obtain ⟨h1, h2⟩ := he
      rw [hd] at h2
      obtain ⟨v, h3, h4⟩ := h2
      exact ⟨v, h3, h4.rows.own, h4.len, h1⟩
    · refine (decode17_any w' bs v0 hs hsm hc).mono fun e w2 he => ?_
      obtain ⟨h1, h2⟩ := he
      rw [hd] at h2
      obtain ⟨v, h3, h4, h5⟩ := h2
      exact ⟨v, h3, h4, h5, h1⟩
  | none =>
    refine ⟨tb0, esI s 12, 12, (fun s hs => by rcases hs with hs | hs <;> cases hs), fun w' pb c hg hs hr => ?_, fun w' v1 hg hs hc => ?_, fun w' hg => leaf_same (hF.later hg) 12 (by omega) (by omega)⟩
    · refine (decode_any w' pb c bs s (hF.later hg) hs hsm hr).mono fun e w2 he => ?_
      obtain ⟨h1, h2⟩ := he
      rw [hd] at h2
      exact ⟨v0, h2, (tb0_own w2 _).rows.own, rfl, h1⟩
    · refine (decode17_any w' bs v1 hs hsm hc).mono fun e w2 he => ?_
      obtain ⟨h1, h2⟩ := he
      rw [hd] at h2
      exact ⟨v0, h2, (tb0_own w2 _).rows.own, rfl, h1⟩

/-- Bytes, handed in. -/
def BytIn (w : World) (x : Value × List UInt8) : Prop := Sl w x.1 1 x.2.length (x.2.map vB) ∧ Nily x.1 ∧ CapOk x.1
set_option maxRecDepth 100000 in
set_option maxHeartbeats 8000000 in
theorem imageReads_any (ls : List (Value × List UInt8)) (v : Value) (w : World) (s : Nat → Addr) (hF : FaultsIn w s) (h : Sl w v 1 ls.length (ls.map (·.1))) (ht : ∀ x ∈ ls, BytIn w x) :
    Calls Tryd.prog 4 #[v] w fun e w' => e = .returned (.bool true) ∧ Gr w w' := by
  have HF := Lib.hid hF
  have HT := Lib.hid ht
  have HW := Lib.hid (fun w' (hg : Gr w w') => wakes17_any w' s (hF.later hg))
  have hmx := h.2.1
  unfold maxLen at hmx
  obtain ⟨n, hn⟩ : ∃ n, ls.length = n := ⟨_, rfl⟩
  rw [hn] at h hmx
  obtain ⟨p, c, rfl⟩ := h.len
  have H := Lib.hid h
  have HN := Lib.hid hn
  clear hF ht h hn
  go_enter Tryd.func4, Tryd.ntmps4
  go_wp2_with fail
  go_loopw [3, 4, 5, 6, 7, 8] (fun i _ _ _ _ _ wr => ∃ k : Nat, k ≤ 18 ∧ i = .int .i64 (k : Int) ∧ Gr w wr) (fun i _ _ _ _ _ _ => 18 - (intOf i).toNat)
  case atStart => exact ⟨0, by omega, rfl, Gr.refl _⟩
  case round =>
    obtain ⟨k, hk6, rfl, hg⟩ := hrel
    by_cases hend : k < n ∧ k < 18
    · obtain ⟨hkn, hk⟩ := hend
      have hkI : (k : Int) < (n : Int) := by omega
      have hkJ : (k : Int) < 18 := by omega
      obtain ⟨x, hx⟩ : ∃ x, ls[k]? = some x := ⟨_, List.getElem?_eq_getElem (by rw [HN.out]; exact hkn)⟩
      have hxv : (ls.map (·.1))[k]? = some x.1 := by rw [List.getElem?_map, hx]; rfl
      obtain ⟨b, off, rfl, hbl, hc⟩ := row_at H.out hxv
      obtain ⟨hsl, hnil, hcp⟩ := HT.out x (List.mem_of_getElem? hx)
      obtain ⟨xv, bs⟩ := x
      dsimp only at hsl hnil hcp hc
      obtain ⟨ao, cx, hxe, hnone, hsome⟩ := src_of hsl hnil
      subst hxe
      obtain ⟨N, hNb⟩ : ∃ N, bs.length = N := ⟨_, rfl⟩
      have HNB := Lib.hid hNb
      have HSL := Lib.hid hsl
      have HCP := Lib.hid hcp
      have HNO := Lib.hid hnone
      have HSO := Lib.hid hsome
      have HHC := Lib.hid hc
      rw [hNb] at HSL HHC HNO hc
      have k0 := hg.cell hc
      have hbr := Nat.lt_of_lt_of_le hbl hg.size
      clear hx hxv hsl hnil hcp hnone hsome hNb hkn hk hk6 hc
      by_cases h2 : (20000 : Int) < (N : Int)
      · go_wp2_with fail
        go_roundw
        case rel => exact ⟨k + 1, by omega, by go_num, hg⟩
        case measure => simp [intOf]; omega
      obtain ⟨t, er, cd, hJ⟩ := judgedB w s HF.out bs (by rw [HNB.out]; omega)
      have HJ := Lib.hid hJ
      have HLE := Lib.hid (lend_any bs ao cx wr (by rw [HNB.out]; omega) (by rw [HNB.out]; exact HNO.out) (fun ad had hl => by
        obtain ⟨_, _, ⟨⟨q, d, hv⟩, h0⟩ | ⟨b', off', cap', hv, hb', _⟩⟩ := HSL.out
        · exact absurd (by rw [HNB.out]; exact h0) hl
        · injection hv with hv _ _
          rw [had] at hv; injection hv with hv
          rw [hv]; exact Nat.lt_of_lt_of_le (hb' (by rw [← HNB.out]; exact hl)) hg.size) (fun ad had j u hj => hg.cell (HSO.out ad had j u hj)))
      rw [HNB.out] at HLE
      clear hJ
      go_wp2_with fail
      go_at_call 18
      (with_reducible refine HLE.out.mono ?_); rintro e w1 ⟨g, cap, rfl, hown, hb1⟩
      have hg1 := hg.trans hb1
      have hgs := World.ownsRow.lt hown g rfl
      have hhd := Sl.of_head (n := bs.length) hown (by simp) (by omega)
      have hcap := (owns_cap hown)
      rw [HNB.out] at hhd hcap ⊢
      have HD := Lib.hid (HJ.out.img w1 (some ⟨g, 0, none⟩) cap hg1 (by rw [HNB.out]; exact hhd) (by rw [HNB.out]; omega))
      rw [HNB.out] at HD
      have HOWN := Lib.hid hown
      have hcap2 : N ≤ cap := by omega
      have hbw : wr.heap.size ≤ g := hgs.1
      have hgw1 : g < w1.heap.size := hgs.2
      clear hhd hcap hown hgs HLE hb1
      go_wp2_with fail
      go_at_call 19
      (with_reducible refine HD.out.mono ?_); rintro e w2 ⟨v, rfl, hol, hvl, hb2⟩
      obtain ⟨T, hT⟩ : ∃ T, t = T := ⟨_, rfl⟩
      subst hT
      obtain ⟨co, hco⟩ : ∃ co, t.count = co := ⟨_, rfl⟩
      obtain ⟨u0, u1, u2, u3, vr, u4, u5, u6, u7, u8, u9, u10⟩ := v
      obtain ⟨p0, n0, c0, rfl⟩ : ∃ p n c, u0 = .slice p n c := by obtain ⟨p, c, hv⟩ := (Sl.of_owns (hol _ (List.mem_of_getElem? (show (rowsOf t _)[0]? = some _ from rfl)))).len; exact ⟨p, _, c, hv⟩
      obtain ⟨p1, n1, c1, rfl⟩ : ∃ p n c, u1 = .slice p n c := by obtain ⟨p, c, hv⟩ := (Sl.of_owns (hol _ (List.mem_of_getElem? (show (rowsOf t _)[1]? = some _ from rfl)))).len; exact ⟨p, _, c, hv⟩
      obtain ⟨p2, n2, c2, rfl⟩ : ∃ p n c, u2 = .slice p n c := by obtain ⟨p, c, hv⟩ := (Sl.of_owns (hol _ (List.mem_of_getElem? (show (rowsOf t _)[2]? = some _ from rfl)))).len; exact ⟨p, _, c, hv⟩
      obtain ⟨p3, n3, c3, rfl⟩ : ∃ p n c, u3 = .slice p n c := by obtain ⟨p, c, hv⟩ := (Sl.of_owns (hol _ (List.mem_of_getElem? (show (rowsOf t _)[3]? = some _ from rfl)))).len; exact ⟨p, _, c, hv⟩
      obtain ⟨p4, n4, c4, rfl⟩ : ∃ p n c, u4 = .slice p n c := by obtain ⟨p, c, hv⟩ := (Sl.of_owns (hol _ (List.mem_of_getElem? (show (rowsOf t _)[4]? = some _ from rfl)))).len; exact ⟨p, _, c, hv⟩
      obtain ⟨p5, n5, c5, rfl⟩ : ∃ p n c, u5 = .slice p n c := by obtain ⟨p, c, hv⟩ := (Sl.of_owns (hol _ (List.mem_of_getElem? (show (rowsOf t _)[5]? = some _ from rfl)))).len; exact ⟨p, _, c, hv⟩
      obtain ⟨p6, n6, c6, rfl⟩ : ∃ p n c, u6 = .slice p n c := by obtain ⟨p, c, hv⟩ := (Sl.of_owns (hol _ (List.mem_of_getElem? (show (rowsOf t _)[6]? = some _ from rfl)))).len; exact ⟨p, _, c, hv⟩
      obtain ⟨p7, n7, c7, rfl⟩ : ∃ p n c, u7 = .slice p n c := by obtain ⟨p, c, hv⟩ := (Sl.of_owns (hol _ (List.mem_of_getElem? (show (rowsOf t _)[7]? = some _ from rfl)))).len; exact ⟨p, _, c, hv⟩
      obtain ⟨p8, n8, c8, rfl⟩ : ∃ p n c, u8 = .slice p n c := by obtain ⟨p, c, hv⟩ := (Sl.of_owns (hol _ (List.mem_of_getElem? (show (rowsOf t _)[8]? = some _ from rfl)))).len; exact ⟨p, _, c, hv⟩
      obtain ⟨p9, n9, c9, rfl⟩ : ∃ p n c, u9 = .slice p n c := by obtain ⟨p, c, hv⟩ := (Sl.of_owns (hol _ (List.mem_of_getElem? (show (rowsOf t _)[9]? = some _ from rfl)))).len; exact ⟨p, _, c, hv⟩
      obtain ⟨p10, n10, c10, rfl⟩ : ∃ p n c, u10 = .slice p n c := by obtain ⟨p, c, hv⟩ := (Sl.of_owns (hol _ (List.mem_of_getElem? (show (rowsOf t _)[10]? = some _ from rfl)))).len; exact ⟨p, _, c, hv⟩
      have HOL := Lib.hid hol
      have HVL := Lib.hid hvl
      have HCO := Lib.hid hco
      have hg2 := hg1.trans hb2
      have k2 := hg2.cell HHC.out
      have hbr2 := Nat.lt_of_lt_of_le hbl hg2.size
      unfold tbV
      dsimp only
      rw [hco]
      clear hol hvl hco HD
      go_wp2_with fail
      refine name_calls (fun W3 hW3 => ?_)
      have hb3 : Gr w2 W3 := by rw [hW3]; exact Gr.alloc _ _
      have xt : boxAt W3 w2.heap.size [.slice p0 n0 c0, .slice p1 n1 c1, .slice p2 n2 c2, .slice p3 n3 c3, .slice p4 n4 c4, .int .i64 co, .slice p5 n5 c5, .slice p6 n6 c6, .slice p7 n7 c7, .slice p8 n8 c8, .slice p9 n9 c9, .slice p10 n10 c10] := by rw [hW3]; exact boxAt.new_at [.slice p0 n0 c0, .slice p1 n1 c1, .slice p2 n2 c2, .slice p3 n3 c3, .slice p4 n4 c4, .int .i64 co, .slice p5 n5 c5, .slice p6 n6 c6, .slice p7 n7 c7, .slice p8 n8 c8, .slice p9 n9 c9, .slice p10 n10 c10] _ _ rfl rfl
      have hg3 := hg2.trans hb3
      have HR := Lib.hid (HJ.out.ref W3 (.slice ao N cx) hg3 (by have := HSL.out.later hg3; rw [← HNB.out] at this ⊢; exact this) (by have := HCP.out; rw [HNB.out] at this; exact this))
      have HOL3 := Lib.hid (HOL.out.later hb3)
      have HOWN3 := Lib.hid (owns_later (owns_later HOWN.out hb2) hb3)
      have hs12 := hb2.size
      have hs23 := xt.lt (by simp)
      clear hW3 HOL HOWN k2 hbr2
      go_at_call 20
      (with_reducible refine HR.out.mono ?_); rintro e w4 ⟨v, rfl, hol, hvl, hb4⟩
      obtain ⟨u0, u1, u2, u3, ur, u4, u5, u6, u7, u8, u9, u10⟩ := v
      obtain ⟨r0, m0, e0, rfl⟩ : ∃ p n c, u0 = .slice p n c := by obtain ⟨p, c, hv⟩ := (Sl.of_owns (hol _ (List.mem_of_getElem? (show (rowsOf t _)[0]? = some _ from rfl)))).len; exact ⟨p, _, c, hv⟩
      obtain ⟨r1, m1, e1, rfl⟩ : ∃ p n c, u1 = .slice p n c := by obtain ⟨p, c, hv⟩ := (Sl.of_owns (hol _ (List.mem_of_getElem? (show (rowsOf t _)[1]? = some _ from rfl)))).len; exact ⟨p, _, c, hv⟩
      obtain ⟨r2, m2, e2, rfl⟩ : ∃ p n c, u2 = .slice p n c := by obtain ⟨p, c, hv⟩ := (Sl.of_owns (hol _ (List.mem_of_getElem? (show (rowsOf t _)[2]? = some _ from rfl)))).len; exact ⟨p, _, c, hv⟩
      obtain ⟨r3, m3, e3, rfl⟩ : ∃ p n c, u3 = .slice p n c := by obtain ⟨p, c, hv⟩ := (Sl.of_owns (hol _ (List.mem_of_getElem? (show (rowsOf t _)[3]? = some _ from rfl)))).len; exact ⟨p, _, c, hv⟩
      obtain ⟨r4, m4, e4, rfl⟩ : ∃ p n c, u4 = .slice p n c := by obtain ⟨p, c, hv⟩ := (Sl.of_owns (hol _ (List.mem_of_getElem? (show (rowsOf t _)[4]? = some _ from rfl)))).len; exact ⟨p, _, c, hv⟩
      obtain ⟨r5, m5, e5, rfl⟩ : ∃ p n c, u5 = .slice p n c := by obtain ⟨p, c, hv⟩ := (Sl.of_owns (hol _ (List.mem_of_getElem? (show (rowsOf t _)[5]? = some _ from rfl)))).len; exact ⟨p, _, c, hv⟩
      obtain ⟨r6, m6, e6, rfl⟩ : ∃ p n c, u6 = .slice p n c := by obtain ⟨p, c, hv⟩ := (Sl.of_owns (hol _ (List.mem_of_getElem? (show (rowsOf t _)[6]? = some _ from rfl)))).len; exact ⟨p, _, c, hv⟩
      obtain ⟨r7, m7, e7, rfl⟩ : ∃ p n c, u7 = .slice p n c := by obtain ⟨p, c, hv⟩ := (Sl.of_owns (hol _ (List.mem_of_getElem? (show (rowsOf t _)[7]? = some _ from rfl)))).len; exact ⟨p, _, c, hv⟩
      obtain ⟨r8, m8, e8, rfl⟩ : ∃ p n c, u8 = .slice p n c := by obtain ⟨p, c, hv⟩ := (Sl.of_owns (hol _ (List.mem_of_getElem? (show (rowsOf t _)[8]? = some _ from rfl)))).len; exact ⟨p, _, c, hv⟩
      obtain ⟨r9, m9, e9, rfl⟩ : ∃ p n c, u9 = .slice p n c := by obtain ⟨p, c, hv⟩ := (Sl.of_owns (hol _ (List.mem_of_getElem? (show (rowsOf t _)[9]? = some _ from rfl)))).len; exact ⟨p, _, c, hv⟩
      obtain ⟨r10, m10, e10, rfl⟩ : ∃ p n c, u10 = .slice p n c := by obtain ⟨p, c, hv⟩ := (Sl.of_owns (hol _ (List.mem_of_getElem? (show (rowsOf t _)[10]? = some _ from rfl)))).len; exact ⟨p, _, c, hv⟩
      have HUL := Lib.hid hol
      have HUV := Lib.hid hvl
      unfold tbV
      dsimp only
      rw [HCO.out]
      have xt4 := xt.later hb4
      have HOL4 := Lib.hid (HOL3.out.later hb4)
      have HOWN4 := Lib.hid (owns_later HOWN3.out hb4)
      have hg4 := hg3.trans hb4
      clear hol hvl xt HOL3 HOWN3 HR
      go_upto_region 8 with fail
      refine name_world (fun W5 hW5 => ?_)
      have hb5 : Gr w4 W5 := by rw [hW5]; exact (Gr.alloc _ _).trans (Gr.alloc _ _)
      have xu : boxAt W5 w4.heap.size [.slice r0 m0 e0, .slice r1 m1 e1, .slice r2 m2 e2, .slice r3 m3 e3, .slice r4 m4 e4, .int .i64 co, .slice r5 m5 e5, .slice r6 m6 e6, .slice r7 m7 e7, .slice r8 m8 e8, .slice r9 m9 e9, .slice r10 m10 e10] := by rw [hW5]; exact (boxAt.new_at [.slice r0 m0 e0, .slice r1 m1 e1, .slice r2 m2 e2, .slice r3 m3 e3, .slice r4 m4 e4, .int .i64 co, .slice r5 m5 e5, .slice r6 m6 e6, .slice r7 m7 e7, .slice r8 m8 e8, .slice r9 m9 e9, .slice r10 m10 e10] _ _ rfl rfl).later (Gr.alloc _ _)
      have xf : boxAt W5 (w4.heap.size + 1) [.int .i64 cd, .int .i64 0, .int .i64 0, .int .i64 0, .slice none 0 0] := by rw [hW5]; exact boxAt.new_at _ _ _ rfl (by simp)
      have xt5 := xt4.later hb5
      have HOL5 := Lib.hid (HOL4.out.later hb5)
      have HUL5 := Lib.hid (HUL.out.later hb5)
      have hown5 := owns_later HOWN4.out hb5
      have hg5 := hg4.trans hb5
      have k5 := hg5.cell HHC.out
      have hbr5 := Nat.lt_of_lt_of_le hbl hg5.size
      have HBK := Lib.hid (back17_any bs wr.heap.size g cap (.slice ao N cx) W5 (by rw [HNB.out]; omega) hown5 (by have := HSL.out.later hg5; rw [← HNB.out] at this ⊢; exact this))
      rw [HNB.out] at HBK
      have hgx1 : w2.heap.size ≠ g := by omega
      have hs34 := hb4.size
      have hgx2 : w4.heap.size ≠ g := by omega
      have hgx3 : w4.heap.size + 1 ≠ g := by omega
      clear hW5 xt4 HOL4 HUL HOWN4 hown5 hb4 hb5
      go_wp2_with fail
      go_at_call 21
      (with_reducible refine HBK.out.mono ?_); rintro e w6 ⟨rfl, hk⟩
      have xt6 := xt5.keptP hk hgx1 (by simp)
      have xu6 := xu.keptP hk hgx2 (by simp)
      have xf6 := xf.keptP hk hgx3 (by simp)
      have hgg : w.heap.size ≤ g := Nat.le_trans hg.size hbw
      have hg6 : Gr w w6 := ⟨hk.os.trans hg5.os, hk.tape.trans hg5.tape, hk.output.trans hg5.output, Nat.le_trans hg5.size hk.size, fun k h1 => (hk.block k (Nat.lt_of_lt_of_le h1 hg5.size) (by omega)).trans (Below.block hg5 k h1)⟩
      have hTI := (HOL5.out.kept hk hgw1).tabs HVL.out HJ.out.txt
      have hUI := (HUL5.out.kept hk (by omega)).tabs HUV.out HJ.out.txt
      have HTI := Lib.hid hTI
      have HUI := Lib.hid hUI
      have HEQ := Lib.hid (fun (w' : World) (hg' : Gr w6 w') => eqTables17 t ⟨.slice p0 n0 c0, .slice p1 n1 c1, .slice p2 n2 c2, .slice p3 n3 c3, vr, .slice p4 n4 c4, .slice p5 n5 c5, .slice p6 n6 c6, .slice p7 n7 c7, .slice p8 n8 c8, .slice p9 n9 c9, .slice p10 n10 c10⟩ ⟨.slice r0 m0 e0, .slice r1 m1 e1, .slice r2 m2 e2, .slice r3 m3 e3, ur, .slice r4 m4 e4, .slice r5 m5 e5, .slice r6 m6 e6, .slice r7 m7 e7, .slice r8 m8 e8, .slice r9 m9 e9, .slice r10 m10 e10⟩ w' (hTI.later hg') (hUI.later hg'))
      unfold tbV at HEQ
      dsimp only at HEQ
      rw [HCO.out] at HEQ
      clear hk hTI hUI HBK xt5 xu xf HOL5 HUL5
      have c_f0 := xf6.cell 0 _ rfl
      have c_f1 := xf6.cell 1 _ rfl
      have c_f2 := xf6.cell 2 _ rfl
      have c_f3 := xf6.cell 3 _ rfl
      have c_f4 := xf6.cell 4 _ rfl
      have m_f0 := xf6.mark 0 _ rfl
      have m_f1 := xf6.mark 1 _ rfl
      have m_f2 := xf6.mark 2 _ rfl
      have m_f3 := xf6.mark 3 _ rfl
      have m_f4 := xf6.mark 4 _ rfl
      have l_f := xf6.lt (Nat.succ_pos _)
      go_wp2_with fail
      clear c_f0 c_f1 c_f2 c_f3 c_f4 m_f0 m_f1 m_f2 m_f3 m_f4 l_f
      go_at_call 13
      (with_reducible refine (HJ.out.same w6 hg6).mono ?_); rintro e w7 ⟨rfl, hb7⟩
      have xt7 := xt6.later hb7
      have xu7 := xu6.later hb7
      have c_e0 := xt7.cell 0 _ rfl
      have c_e1 := xt7.cell 1 _ rfl
      have c_e2 := xt7.cell 2 _ rfl
      have c_e3 := xt7.cell 3 _ rfl
      have c_e4 := xt7.cell 4 _ rfl
      have c_e5 := xt7.cell 5 _ rfl
      have c_e6 := xt7.cell 6 _ rfl
      have c_e7 := xt7.cell 7 _ rfl
      have c_e8 := xt7.cell 8 _ rfl
      have c_e9 := xt7.cell 9 _ rfl
      have c_e10 := xt7.cell 10 _ rfl
      have c_e11 := xt7.cell 11 _ rfl
      have m_e0 := xt7.mark 0 _ rfl
      have m_e1 := xt7.mark 1 _ rfl
      have m_e2 := xt7.mark 2 _ rfl
      have m_e3 := xt7.mark 3 _ rfl
      have m_e4 := xt7.mark 4 _ rfl
      have m_e5 := xt7.mark 5 _ rfl
      have m_e6 := xt7.mark 6 _ rfl
      have m_e7 := xt7.mark 7 _ rfl
      have m_e8 := xt7.mark 8 _ rfl
      have m_e9 := xt7.mark 9 _ rfl
      have m_e10 := xt7.mark 10 _ rfl
      have m_e11 := xt7.mark 11 _ rfl
      have l_e := xt7.lt (Nat.succ_pos _)
      have c_f0 := xu7.cell 0 _ rfl
      have c_f1 := xu7.cell 1 _ rfl
      have c_f2 := xu7.cell 2 _ rfl
      have c_f3 := xu7.cell 3 _ rfl
      have c_f4 := xu7.cell 4 _ rfl
      have c_f5 := xu7.cell 5 _ rfl
      have c_f6 := xu7.cell 6 _ rfl
      have c_f7 := xu7.cell 7 _ rfl
      have c_f8 := xu7.cell 8 _ rfl
      have c_f9 := xu7.cell 9 _ rfl
      have c_f10 := xu7.cell 10 _ rfl
      have c_f11 := xu7.cell 11 _ rfl
      have m_f0 := xu7.mark 0 _ rfl
      have m_f1 := xu7.mark 1 _ rfl
      have m_f2 := xu7.mark 2 _ rfl
      have m_f3 := xu7.mark 3 _ rfl
      have m_f4 := xu7.mark 4 _ rfl
      have m_f5 := xu7.mark 5 _ rfl
      have m_f6 := xu7.mark 6 _ rfl
      have m_f7 := xu7.mark 7 _ rfl
      have m_f8 := xu7.mark 8 _ rfl
      have m_f9 := xu7.mark 9 _ rfl
      have m_f10 := xu7.mark 10 _ rfl
      have m_f11 := xu7.mark 11 _ rfl
      have l_f := xu7.lt (Nat.succ_pos _)
      go_wp2_with fail
      clear c_e0 c_e1 c_e2 c_e3 c_e4 c_e5 c_e6 c_e7 c_e8 c_e9 c_e10 c_e11 m_e0 m_e1 m_e2 m_e3 m_e4 m_e5 m_e6 m_e7 m_e8 m_e9 m_e10 m_e11 l_e
      clear c_f0 c_f1 c_f2 c_f3 c_f4 c_f5 c_f6 c_f7 c_f8 c_f9 c_f10 c_f11 m_f0 m_f1 m_f2 m_f3 m_f4 m_f5 m_f6 m_f7 m_f8 m_f9 m_f10 m_f11 l_f
      go_at_call 16
      (with_reducible refine (HEQ.out w7 hb7).mono ?_); rintro e w8 ⟨rfl, hb8⟩
      have hg8 := (hg6.trans hb7).trans hb8
      go_wp2_with fail
      go_roundw
      case rel => exact ⟨k + 1, by omega, by go_num, hg8⟩
      case measure => simp [intOf]; omega
    · by_cases hkn : (k : Int) < (n : Int)
      · have hkJ : ¬ (k : Int) < 18 := by omega
        go_wp2_with fail
        go_at_call 17
        (with_reducible refine (HW.out wr hg).mono ?_); rintro e w9 ⟨rfl, hb⟩
        go_wp2_with fail
        go_ret
        exact ⟨rfl, hg.trans hb⟩
      · go_wp2_with fail
        go_at_call 17
        (with_reducible refine (HW.out wr hg).mono ?_); rintro e w9 ⟨rfl, hb⟩
        go_wp2_with fail
        go_ret
        exact ⟨rfl, hg.trans hb⟩

end Go.Proofs.YtcbfmajojkcibaaDoor
