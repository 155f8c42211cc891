/- bolterkit.Back, Over. No condition but a length's bound. -/
import Derived.Test.YtambkpgcccjhmaaDoorLend
import Derived.Test.YtambkpgcccjhmaaDoorWakes
namespace Go.Proofs.YtambkpgcccjhmaaDoor
open Go Go.RowKit

/-- What a row of its own holds at its head. -/
theorem Sl.of_head {w : World} {B e g cap n m : Nat} {xs ys : List Value} (h : w.ownsRow B e 1 (.slice (some ⟨g, 0, none⟩) m cap) m (xs ++ ys)) (hx : xs.length = n) (hnm : n < m) : Sl w (.slice (some ⟨g, 0, none⟩) n cap) 1 n xs := by
  obtain ⟨g', cap', hv, _, hgl, hm⟩ := owns_block h (by omega)
  simp only [Value.slice.injEq, Option.some.injEq, Addr.mk.injEq, and_true, true_and] at hv
  obtain ⟨rfl, rfl⟩ := hv
  refine ⟨by omega, by omega, .inr ⟨g, 0, cap, rfl, fun _ => hgl, fun j u hj => ?_⟩⟩
  rw [Nat.zero_add]
  refine owns_cell h j u ?_
  rw [List.getElem?_append_left (List.getElem?_eq_some_iff.1 hj).1]; exact hj
theorem owns_cap {w : World} {B e g cap n : Nat} {xs : List Value} (h : w.ownsRow B e 1 (.slice (some ⟨g, 0, none⟩) n cap) n xs) : n ≤ cap ∧ cap ≤ maxLen := by
  obtain ⟨_, ⟨h2, _⟩ | ⟨g', cap', cur, hv, hb, hh, h3, h4, _⟩⟩ := h
  · cases h2
  · simp only [Value.slice.injEq, Option.some.injEq, Addr.mk.injEq, and_true, true_and] at hv
    obtain ⟨rfl, rfl⟩ := hv
    exact ⟨h3, h4⟩
theorem mark_at (xs : List Value) (n q : Nat) (u : Value) (hx : xs.length = n) (h1 : n ≤ q) (h2 : q < n + 7) : (xs ++ List.replicate 7 u)[q]? = some u := by
  rw [List.getElem?_append_right (by omega), List.getElem?_replicate, if_pos (by omega)]

set_option maxRecDepth 100000 in
set_option maxHeartbeats 2000000 in
theorem back_any (l : List UInt8) (B g cap : Nat) (v : Value) (w : World) (hn : l.length ≤ 140737488351232)
    (hown : w.ownsRow B 5 1 (.slice (some ⟨g, 0, none⟩) (l.length + 7) cap) (l.length + 7) (l.map vB ++ List.replicate 7 (.int .u8 165))) (hsl : Sl w v 1 l.length (l.map vB)) :
    Calls Tryd.prog 19 #[.slice (some ⟨g, 0, none⟩) l.length cap, v] w fun e w' => e = .returned (.bool true) ∧ Below B w w' := by
  obtain ⟨p, c, rfl⟩ := hsl.len
  have hx := Sl.of_head (n := l.length) hown (by simp) (by omega)
  have hcap := owns_cap hown
  have hB := (World.ownsRow.lt hown g rfl)
  have en : IntKind.i64.wrap ((l.length : Int) + 7) = (l.length : Int) + 7 := IntWalk.i64_in _ (by omega)
  have hcI : (l.length : Int) + 7 ≤ (cap : Int) := by omega
  have HB := Lib.hid hB
  have hml : cap ≤ 9223372036854775807 := by have := hcap.2; unfold maxLen at this; omega
  clear hcap hB
  go_enter Tryd.func19, Tryd.ntmps19
  go_wp2_with fail
  go_at_call 36
  refine (eqB_of l l true _ _ _ hx hsl (by simp)).mono ?_; rintro e w1 ⟨rfl, hb⟩
  have hown1 := owns_later hown hb
  have hbB : Below B w w1 := Below.mono hb (by have := HB.out; omega)
  have HO := Lib.hid hown1
  clear hown hsl hx hown1 hb
  have e7 : ((l.length : Int) + 7).toNat = l.length + 7 := by omega
  go_wp2_with fail
  go_loopw [5, 7] (fun ok i wr => ∃ q : Nat, l.length ≤ q ∧ q ≤ l.length + 7 ∧ ok = .bool true ∧ i = .int .i64 (q : Int) ∧ Gr w1 wr) (fun _ i _ => l.length + 7 - (intOf i).toNat)
  case atStart => exact ⟨l.length, by omega, by omega, rfl, rfl, Gr.refl _⟩
  case round =>
    obtain ⟨q, hq1, hq2, rfl, rfl, hg⟩ := hrel
    by_cases hlt : q < l.length + 7
    · have hqI : (q : Int) < (l.length : Int) + 7 := by omega
      have c1 := hg.cell (owns_cell HO.out q _ (mark_at _ _ q _ (by simp) hq1 hlt))
      have hgr : g < wr.heap.size := by have := HB.out; have := hbB.size; have := hg.size; omega
      have HLT := Lib.hid hlt
      have HQ1 := Lib.hid hq1
      clear hlt hq1 hq2
      go_wp2_with fail
      go_roundw
      case rel => exact ⟨q + 1, by have := HQ1.out; omega, by have := HLT.out; omega, rfl, by go_num, hg⟩
      case measure => have := HLT.out; have := HQ1.out; simp [intOf]; omega
    · obtain rfl : q = l.length + 7 := by omega
      have hg3 : Below B w wr := hbB.trans (Below.mono hg (by have := HB.out; have := hbB.size; omega))
      have HO3 := Lib.hid (owns_later HO.out hg)
      clear hlt hq1 hq2 hg hbB
      go_wp2_with fail
      go_loopw [8] (fun i w2 => ∃ (k : Nat) (xs : List Value), k ≤ l.length + 7 ∧ i = .int .i64 (k : Int) ∧ Hid (w2.ownsRow B 5 1 (.slice (some ⟨g, 0, none⟩) (l.length + 7) cap) (l.length + 7) xs) ∧ Below B w w2) (fun i _ => l.length + 7 - (intOf i).toNat)
      case atStart => exact ⟨0, _, by omega, rfl, HO3, hg3⟩
      case round =>
        obtain ⟨k, xs, hk, rfl, HX, hbk⟩ := hrel
        by_cases hlt : k < l.length + 7
        · have hkI : (k : Int) < (l.length : Int) + 7 := by omega
          have hxl : k < xs.length := by have := HX.out.1; omega
          obtain ⟨old, hold⟩ : ∃ x, xs[k]? = some x := ⟨_, List.getElem?_eq_getElem hxl⟩
          have c1 := owns_cell HX.out k old hold
          have m1 := owns_mark HX.out k
          have hgr := (World.ownsRow.lt HX.out g rfl).2
          have HLT := Lib.hid hlt
          have HXL := Lib.hid hxl
          clear hlt hk hxl hold
          go_wp2_with fail
          go_roundw
          case rel => exact ⟨k + 1, _, by have := HLT.out; omega, by go_num, Lib.hid (owns_set HX.out k HXL.out (.int .u8 90)), Below.setCell hbk (by have := HB.out; exact this.1) _⟩
          case measure => have := HLT.out; simp [intOf]; omega
        · have hkE : k = l.length + 7 := by omega
          clear hk hlt
          subst hkE
          go_wp2_with fail
          go_ret
          exact ⟨rfl, hbk⟩

/-- All but rows of bytes is as it was. -/
def Kept (w w' : World) : Prop := ∀ (b : Nat) (o : Obj), w.heap[b]? = some o → (∀ cs f, o ≠ Obj.cells cs 5 f) → w'.heap[b]? = some o
theorem Kept.refl (w : World) : Kept w w := fun _ _ h _ => h
theorem Kept.trans {a b c : World} (h : Kept a b) (k : Kept b c) : Kept a c := fun i o ho hn => k i o (h i o ho hn) hn
theorem Kept.gr {w w' : World} (h : Gr w w') : Kept w w' := fun i o ho _ => by
  rw [Below.block h i (Array.getElem?_eq_some_iff.1 ho).1]; exact ho
theorem Kept.grown {w w' : World} {v : Value} {B n : Nat} {xs : List Value} (hown : w.ownsRow B 5 1 v n xs) (h : w.grownBy w' v.ownBlock) : Kept w w' := fun i o ho hn => by
  rw [h.block i (Array.getElem?_eq_some_iff.1 ho).1 ?_]
  · exact ho
  · intro e
    obtain ⟨_, ⟨rfl, _⟩ | ⟨g, cap, cur, rfl, _, hh, _⟩⟩ := hown
    · cases e
    · simp only [Value.ownBlock, Option.some.injEq] at e
      subst e
      rw [hh] at ho
      exact hn _ _ (Option.some.inj ho).symm
theorem Kept.set {w : World} {B g n cap j : Nat} {xs : List Value} {u : Value} (hown : w.ownsRow B 5 1 (.slice (some ⟨g, 0, none⟩) n cap) n xs) : Kept w (w.setCell ⟨g, j, none⟩ u) := fun i o ho hn => by
  rw [Below.heap_setCell _ _ _ _ ?_]
  · exact ho
  · intro e
    obtain ⟨_, ⟨h, _⟩ | ⟨g', cap, cur, h, _, hh, _⟩⟩ := hown
    · cases h
    · simp only [Value.slice.injEq, Option.some.injEq, Addr.mk.injEq, and_true, true_and] at h
      obtain ⟨rfl, rfl⟩ := h
      have e : i = g := e
      subst e
      rw [hh] at ho
      exact hn _ _ (Option.some.inj ho).symm

set_option maxRecDepth 100000 in
set_option maxHeartbeats 2000000 in
theorem over_any (B n : Nat) (v : Value) (xs : List Value) (w : World) (hn : n ≤ 100000) (hBw : B ≤ w.heap.size) (hown : w.ownsRow B 5 1 v n xs) :
    Calls Tryd.prog 44 #[v] w fun e w' => e = .returned (.tuple #[]) ∧ Below B w w' ∧ Kept w w' := by
  obtain ⟨i0, hi, hz0, hz1, hz2⟩ := info_parts info_u8
  go_enter Tryd.func44, Tryd.ntmps44
  go_wp2_with (at_builtin; refine wpList_append_own _ rfl (.tmp 3) (.tmp 4) 32 rfl B 5 i0 (.int .u8 0) 1 1 Tryd.underlying32 hi hz0 hz1 hz2 rfl (by decide) _ _ _ rfl (hown.alloc _) ⟨w.heap.size, 0, none⟩ 3 3 [.int .u8 1, .int .u8 2, .int .u8 3] rfl rfl ?c1 ?c2 ?c3 ?c4 ?c5 ?_)
  case c1 => exact new_cells _ _ _
  case c2 => intro u hu; simp at hu; rcases hu with rfl | rfl | rfl <;> rfl
  case c3 => unfold maxLen; omega
  case c4 => omega
  case c5 => simp; omega
  intro v1 w1 hown1 hgrow _
  have hb1 : Below B w w1 := Below.grown ((Below.refl B w).alloc hBw _) hgrow (by simp; omega) (fun k hk => (World.ownsRow.lt hown k hk).1)
  have hk1 : Kept w w1 := (Kept.gr (Gr.alloc w _)).trans (Kept.grown (hown.alloc _) hgrow)
  have HO := Lib.hid hown1
  obtain ⟨g, cap, rfl, hBg, hgl, _⟩ := owns_block hown1 (by omega)
  have HBG := Lib.hid hBg
  clear hown hown1 hgrow hBg
  go_wp2_with fail
  go_loopw [2] (fun i w2 => ∃ (k : Nat) (xs : List Value), k ≤ n + 3 ∧ i = .int .i64 (k : Int) ∧ Hid (w2.ownsRow B 5 1 (.slice (some ⟨g, 0, none⟩) (n + 3) cap) (n + 3) xs) ∧ Below B w w2 ∧ Kept w w2) (fun i _ => n + 3 - (intOf i).toNat)
  case atStart => exact ⟨0, _, by omega, rfl, HO, hb1, hk1⟩
  case round =>
    obtain ⟨k, xs, hk, rfl, HX, hbk, hkk⟩ := hrel
    by_cases hlt : k < n + 3
    · have hkI : (k : Int) < (n : Int) + 3 := by omega
      have hxl : k < xs.length := by have := HX.out.1; omega
      obtain ⟨old, hold⟩ : ∃ x, xs[k]? = some x := ⟨_, List.getElem?_eq_getElem hxl⟩
      have c1 := owns_cell HX.out k old hold
      have m1 := owns_mark HX.out k
      have hgr := (World.ownsRow.lt HX.out g rfl).2
      have HLT := Lib.hid hlt
      have HXL := Lib.hid hxl
      clear hlt hk hxl hold
      go_wp2_with fail
      go_roundw
      case rel => exact ⟨k + 1, _, by have := HLT.out; omega, by go_num, Lib.hid (owns_set HX.out k HXL.out (.int .u8 90)), Below.setCell hbk HBG.out _, hkk.trans (Kept.set HX.out)⟩
      case measure => have := HLT.out; simp [intOf]; omega
    · have hkE : k = n + 3 := by omega
      clear hk hlt
      subst hkE
      go_wp2_with fail
      go_end0
      exact ⟨rfl, hbk, hkk⟩

end Go.Proofs.YtambkpgcccjhmaaDoor
