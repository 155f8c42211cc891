/- Spans of byteset: the longest rows of neighbours. No condition. -/
import Derived.Test.YtihjmeoklbmnmaaDoorBytes
import Derived.Test.YtihjmeoklbmnmaaDoorOwnSet
import Derived.Test.YtihjmeoklbmnmaaDoorSpanRows
namespace Go.Proofs.YtihjmeoklbmnmaaDoor
open Go Go.RowKit

/-- The call hands back a new slice of these spans. -/
def SomeSpans (l : List UInt8) (w : World) (e : Ending) (w' : World) : Prop := ∃ v r, e = .returned v ∧ Runs r l ∧ w'.ownsRow w.heap.size 53 2 v r.length (spsCells r) ∧ Gr w w' ∧ (r = [] → v = .slice none 0 0)

theorem take_lt (L : List UInt8) (h : L.Pairwise (fun a b => a.toNat < b.toNat)) (k : Nat) (b : UInt8) (hb : L[k]? = some b) (a : UInt8) (ha : a ∈ L.take k) : a.toNat < b.toNat := by
  obtain ⟨i, hi⟩ := List.mem_iff_getElem?.1 ha
  rw [List.getElem?_take] at hi
  split at hi
  · obtain ⟨g1, rfl⟩ := List.getElem?_eq_some_iff.1 hi
    obtain ⟨g2, rfl⟩ := List.getElem?_eq_some_iff.1 hb
    exact List.pairwise_iff_getElem.1 h i k g1 g2 (by omega)
  · cases hi

set_option maxRecDepth 100000 in
set_option maxHeartbeats 4000000 in
theorem spans_any (s : BitVec 256) (w : World) : Calls Tryd.prog 21 #[.agg #[.int .u64 (wd s 0), .int .u64 (wd s 1), .int .u64 (wd s 2), .int .u64 (wd s 3)]] w (SomeSpans (bytesOf s) w) := by
  obtain ⟨i0, hi, hz0, hz1, hz2⟩ := info_parts info_span
  obtain ⟨L, hL⟩ : ∃ L, bytesOf s = L := ⟨_, rfl⟩
  have hlen : L.length ≤ 256 := by rw [← hL]; exact bytesTo_len s 256
  have hlenI : (L.length : Int) ≤ 256 := by omega
  have hRise := Lib.hid (bytesOf_rising s)
  rw [hL] at hRise
  go_enter Tryd.func21, Tryd.ntmps21
  go_wp2_with fail
  go_at_call 37
  refine (list_any s _).mono ?_
  rintro e w1 ⟨v, rfl, hownL, hb1⟩
  rw [hL] at hownL
  have HL := Lib.hid hL
  clear hL
  have hgw : Gr w w1 := (Gr.alloc _ _).trans hb1
  clear hb1
  have hsl := Sl.of_owns hownL
  clear hownL
  obtain ⟨_, _, ⟨⟨p0, c0, rfl⟩, h0⟩ | ⟨b, off, cap, rfl, hb, hc⟩⟩ := hsl
  · have hLn : L = [] := List.eq_nil_of_length_eq_zero h0
    subst hLn
    go_wp2_with fail
    refine wp_loop_rounds 1 ?_
    rw [rounds_succ]
    go_wp2
    go_ret
    exact ⟨_, [], rfl, by rw [HL.out]; exact .nil, World.ownsRow_nil _ _ _ _, hgw, fun _ => rfl⟩
  · have HC := Lib.hid hc
    clear hc
    go_wp2_with fail
    go_loopw [3, 10] (fun v i wr => ∃ (k : Nat) (r : List Sp), k ≤ L.length ∧ i = .int .i64 k ∧ Runs r (L.take k) ∧ wr.ownsRow w1.heap.size 53 2 v r.length (spsCells r) ∧ Gr w1 wr ∧ (r = [] → v = .slice none 0 0)) (fun _ i _ => L.length - (intOf i).toNat)
    case atStart => exact ⟨0, [], by omega, rfl, by rw [List.take_zero]; exact .nil, World.ownsRow_nil _ _ _ _, Gr.refl _, fun _ => rfl⟩
    case round =>
      obtain ⟨k, r, hk, rfl, hr, hown, hg, hnil⟩ := hrel
      by_cases hlt : k < L.length
      · obtain ⟨bb, hbb⟩ : ∃ x, L[k] = x := ⟨_, rfl⟩
        have hcell : w1.cell? ⟨b, off + k, none⟩ = some (vB bb) := HC.out k _ (by simp [hlt, hbb])
        have c1 := hg.cell hcell
        have htake : L.take (k + 1) = L.take k ++ [bb] := by rw [List.take_succ_eq_append_getElem hlt, hbb]
        unfold vB at c1
        obtain ⟨y, hy⟩ : ∃ y : Nat, bb.toNat = y := ⟨_, rfl⟩
        have hy256 := bb.toNat_lt
        rw [hy] at c1 hy256
        have hyI : (y : Int) < 256 := by omega
        have hkI : (k : Int) < (L.length : Int) := by omega
        have ey : IntKind.i64.wrap (y : Int) = (y : Int) := IntWalk.i64_in _ (by omega)
        have HY := Lib.hid hy
        have HT := Lib.hid htake
        have HLT := Lib.hid hlt
        have HR := Lib.hid hr
        have HBB := Lib.hid (show L[k]? = some bb by rw [List.getElem?_eq_getElem hlt, hbb])
        have hrl : r.length ≤ k := Nat.le_trans hr.len (by rw [List.length_take]; omega)
        clear hcell hy hy256 htake hlt hr hk hbb hb
        rcases List.eq_nil_or_concat r with rfl | ⟨q, p, rfl⟩
        · obtain rfl := hnil rfl
          clear hnil
          have HO := Lib.hid hown
          clear hown
          go_wp2_with (at_builtin; refine wpList_append_own _ rfl (.tmp 37) (.tmp 41) 50 rfl w1.heap.size 53 i0 (.agg #[.int .u8 0, .int .u8 0]) 2 2 Tryd.underlying50 hi hz0 hz1 hz2 rfl (by decide) _ _ _ rfl (HO.out.alloc _) ⟨wr.heap.size, 0, none⟩ 1 1 [.int .u8 (y : Int), .int .u8 (y : Int)] rfl rfl ?c1 ?c2 ?c3 ?c4 ?c5 ?_)
          case c1 => exact new2_cells _ _ _ _
          case c2 => exact two_one _ _
          case c3 => unfold maxLen; simp
          case c4 => omega
          case c5 => have := hg.size; simp; omega
          intro v3 W3 hown3 hgrow _
          have hg3 : Gr w1 W3 := Gr.grown (hg.trans (Gr.alloc _ _)) hgrow (fun g hgb => (World.ownsRow.lt HO.out g hgb).1)
          have hown3' : W3.ownsRow w1.heap.size 53 2 v3 (([] : List Sp) ++ [(bb, bb)]).length (spsCells (([] : List Sp) ++ [(bb, bb)])) := by
            rw [spsCells_snoc, List.length_append]
            unfold vB; rw [HY.out]; exact hown3
          clear hown3 hgrow
          go_wp2_with fail
          go_roundw
          case rel =>
            refine ⟨k + 1, ([] : List Sp) ++ [(bb, bb)], by have := HLT.out; omega, by go_num, ?_, hown3', hg3, fun h => by simp at h⟩
            rw [HT.out]; refine .new _ _ _ HR.out ?_
            intro p hp; simp at hp
          case measure => have := HLT.out; simp [intOf]; omega

        · rw [List.concat_eq_append] at *
          clear hnil
          obtain ⟨g, cap2, rfl, hBg, hgl, _⟩ := owns_block hown (by simp)
          obtain ⟨x, hx⟩ : ∃ x : Nat, p.2.toNat = x := ⟨_, rfl⟩
          have hx256 := p.2.toNat_lt
          rw [hx] at hx256
          have hxI : (x : Int) < 256 := by omega
          have hl1 : (q ++ [p]).length = q.length + 1 := by simp
          rw [hl1] at hown hrl
          have c2 := owns_cell hown _ _ (spsCells_hi q p)
          have m2 := owns_mark hown (q.length * 2 + 1)
          unfold vB at c2
          rw [hx] at c2
          rw [hl1]
          have HX := Lib.hid hx
          have HGB := Lib.hid hBg
          obtain ⟨m, hm⟩ : ∃ m, q.length = m := ⟨_, rfl⟩
          rw [hm] at c2 m2 hrl hown ⊢
          have HM := Lib.hid hm
          have HO := Lib.hid hown
          have hmI : (m : Int) + 1 ≤ 256 := by have := HLT.out; omega
          have ex : IntKind.i64.wrap (x : Int) = (x : Int) := IntWalk.i64_in _ (by omega)
          have ex1 : IntKind.i64.wrap ((x : Int) + 1) = (x : Int) + 1 := IntWalk.i64_in _ (by omega)
          have em : IntKind.i64.wrap ((m : Int) + 1 - 1) = (m : Int) := by rw [IntWalk.i64_in _ (by omega)]; omega
          clear hx hx256 hown hl1 hm hBg
          by_cases hxy : (x : Int) + 1 = (y : Int)
          · have HXY := Lib.hid hxy
            go_wp2_with fail
            go_roundw
            case rel =>
              refine ⟨k + 1, q ++ [(p.1, bb)], by have := HLT.out; omega, by go_num, ?_, ?_, Below.setCell hg HGB.out _, fun h => by simp at h⟩
              · rw [HT.out]; exact .ext _ _ _ _ HR.out (by have := HXY.out; rw [HX.out, HY.out]; omega)
              · have := owns_set HO.out (q.length * 2 + 1) (by rw [spsCells_length, List.length_append, List.length_singleton]; omega) (vB bb)
                rw [spsCells_setHi] at this
                rw [List.length_append, HM.out]
                unfold vB at this
                rw [HY.out, HM.out] at this
                exact this
            case measure => have := HLT.out; simp [intOf]; omega
          · have HXY := Lib.hid hxy
            go_wp2_with (at_builtin; refine wpList_append_own _ rfl (.tmp 37) (.tmp 41) 50 rfl w1.heap.size 53 i0 (.agg #[.int .u8 0, .int .u8 0]) 2 2 Tryd.underlying50 hi hz0 hz1 hz2 rfl (by decide) _ _ _ rfl (HO.out.alloc _) ⟨wr.heap.size, 0, none⟩ 1 1 [.int .u8 (y : Int), .int .u8 (y : Int)] rfl rfl ?c1 ?c2 ?c3 ?c4 ?c5 ?_)
            case c1 => exact new2_cells _ _ _ _
            case c2 => exact two_one _ _
            case c3 => unfold maxLen; omega
            case c4 => omega
            case c5 => have := hg.size; simp; omega
            intro v3 W3 hown3 hgrow _
            have hg3 : Gr w1 W3 := Gr.grown (hg.trans (Gr.alloc _ _)) hgrow (fun g hgb => (World.ownsRow.lt HO.out g hgb).1)
            have hown3' : W3.ownsRow w1.heap.size 53 2 v3 ((q ++ [p]) ++ [(bb, bb)]).length (spsCells ((q ++ [p]) ++ [(bb, bb)])) := by
              rw [spsCells_snoc, List.length_append, List.length_append, HM.out]
              unfold vB; rw [HY.out]; exact hown3
            clear hown3 hgrow
            go_wp2_with fail
            go_roundw
            case rel =>
              refine ⟨k + 1, (q ++ [p]) ++ [(bb, bb)], by have := HLT.out; omega, by go_num, ?_, hown3', hg3, fun h => by simp at h⟩
              rw [HT.out]; refine .new _ _ _ HR.out ?_
              intro p0 hp
              simp at hp; subst hp
              have h1 := take_lt L hRise.out k bb HBB.out p.2 (HR.out.mem p (by simp)).2
              have h2 := HXY.out
              rw [HX.out, HY.out] at h1
              rw [HX.out, HY.out]; omega
            case measure => have := HLT.out; simp [intOf]; omega
      · have hkL : k = L.length := by omega
        have R : wr.ownsRow w.heap.size 53 2 u3 r.length (spsCells r) := by
          obtain ⟨h1, h2⟩ := hown
          refine ⟨h1, h2.imp id ?_⟩
          rintro ⟨g, cap, cur, hv, hb, r⟩
          exact ⟨g, cap, cur, hv, by have := hgw.size; omega, r⟩
        have hr' : Runs r L := by rw [hkL, List.take_length] at hr; exact hr
        subst hkL
        have HN := Lib.hid hnil
        clear hlt hown hr hnil hk
        go_wp2_with fail
        go_ret
        exact ⟨_, r, rfl, by rw [HL.out]; exact hr', R, hgw.trans hg, HN.out⟩

end Go.Proofs.YtihjmeoklbmnmaaDoor
