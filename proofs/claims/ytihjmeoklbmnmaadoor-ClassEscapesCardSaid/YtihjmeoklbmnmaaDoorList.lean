/- List. No condition. -/
import Derived.Test.YtihjmeoklbmnmaaDoorSpans
namespace Go.Proofs.YtihjmeoklbmnmaaDoor
open Go Go.RowKit

/-- The bytes of a set below k, rising. -/
def bytesTo (s : BitVec 256) (k : Nat) : List UInt8 := ((List.range k).filter fun i => s.getLsbD i).map UInt8.ofNat
def bytesOf (s : BitVec 256) : List UInt8 := bytesTo s 256
theorem bytesTo_yes (s : BitVec 256) (k : Nat) (h : s.getLsbD k = true) : bytesTo s (k + 1) = bytesTo s k ++ [UInt8.ofNat k] := by
  unfold bytesTo; rw [List.range_succ, List.filter_append, List.map_append]; simp only [List.filter_cons, h, if_true, List.filter_nil, List.map_cons, List.map_nil]
theorem bytesTo_no (s : BitVec 256) (k : Nat) (h : s.getLsbD k = false) : bytesTo s (k + 1) = bytesTo s k := by
  unfold bytesTo; rw [List.range_succ, List.filter_append, List.map_append]; simp [h]
theorem bytesTo_len (s : BitVec 256) (k : Nat) : (bytesTo s k).length ≤ k := by
  unfold bytesTo; rw [List.length_map]; exact Nat.le_trans (List.length_filter_le _ _) (by simp)

/-- The call hands back a new slice of these bytes. -/
def SomeBytes (l : List UInt8) (w : World) (e : Ending) (w' : World) : Prop := ∃ v, e = .returned v ∧ w'.ownsRow w.heap.size 5 1 v l.length (l.map vB) ∧ Gr w w'

theorem info_u8 : (Tryd.prog.info? 5).map (fun i => (i.zero, i.size, i.bytes)) = some (some (.int .u8 0), 1, 1) := by kernel_rfl

theorem owns_grown {w w' : World} {B e n : Nat} {v : Value} {xs : List Value} (h : w.ownsRow B e 1 v n xs) (hG : Gr w w') : w'.ownsRow B e 1 v n xs := by
  obtain ⟨h1, h2⟩ := h
  refine ⟨h1, h2.imp id ?_⟩
  rintro ⟨g, cap, cur, hv, hb, hh, r⟩
  refine ⟨g, cap, cur, hv, hb, ?_, r⟩
  have hlt : g < w.heap.size := (Array.getElem?_eq_some_iff.1 hh).1
  rw [Below.block hG g hlt]; exact hh

theorem has_of (s : BitVec 256) (b : Nat) (r : Bool) (w : World) (hb : b < 256) (h : s.getLsbD b = r) :
    Calls Tryd.prog 45 #[.agg #[.int .u64 (wd s 0), .int .u64 (wd s 1), .int .u64 (wd s 2), .int .u64 (wd s 3)], .int .u8 b] w fun e w' => e = .returned (.bool r) ∧ Below w.heap.size w w' := by
  subst h; exact has_any s b w hb

set_option maxRecDepth 100000 in
set_option maxHeartbeats 1000000 in
theorem list_any (s : BitVec 256) (w : World) : Calls Tryd.prog 37 #[.agg #[.int .u64 (wd s 0), .int .u64 (wd s 1), .int .u64 (wd s 2), .int .u64 (wd s 3)]] w (SomeBytes (bytesOf s) w) := by
  obtain ⟨i0, hi, hz0, hz1, hz2⟩ := info_parts info_u8
  go_enter Tryd.func37, Tryd.ntmps37
  go_wp2_with fail
  go_loopw [3, 5] (fun v i wr => ∃ k : Nat, k ≤ 256 ∧ i = .int .i64 k ∧ wr.ownsRow (w.heap.size + 1) 5 1 v (bytesTo s k).length ((bytesTo s k).map vB) ∧ Gr w wr ∧ w.heap.size + 1 ≤ wr.heap.size ∧ boxAt wr w.heap.size [.int .u64 (wd s 0), .int .u64 (wd s 1), .int .u64 (wd s 2), .int .u64 (wd s 3)]) (fun _ i _ => 256 - (intOf i).toNat)
  case atStart =>
    refine ⟨0, by omega, rfl, World.ownsRow_nil _ _ _ _, Gr.alloc _ _, by simp, ?_⟩
    exact boxAt.new [.int .u64 (wd s 0), .int .u64 (wd s 1), .int .u64 (wd s 2), .int .u64 (wd s 3)] 29 rfl
  case round =>
    obtain ⟨k, hk, rfl, hown, hg, hz, hs⟩ := hrel
    by_cases hlt : k < 256
    · have c_s0 := hs.cell 0 _ rfl
      have c_s1 := hs.cell 1 _ rfl
      have c_s2 := hs.cell 2 _ rfl
      have c_s3 := hs.cell 3 _ rfl
      have m_s0 := hs.mark 0 _ rfl
      have m_s1 := hs.mark 1 _ rfl
      have m_s2 := hs.mark 2 _ rfl
      have m_s3 := hs.mark 3 _ rfl
      have l_s := hs.lt (Nat.succ_pos _)
      have hlI : (k : Int) < 256 := by omega
      have hl := bytesTo_len s k
      have HL := Lib.hid hlt
      cases hb : s.getLsbD k
      · have HB := Lib.hid hb
        have R := bytesTo_no s k hb
        have HR := Lib.hid R
        clear hb hlt hk R
        go_wp2_with (go_at_call 45; refine (has_of s k _ _ HL.out HB.out).mono ?_; rintro e w' ⟨rfl, hbw⟩)
        go_roundw
        case rel =>
          refine ⟨k + 1, by have := HL.out; omega, by go_num, ?_, ?_, ?_, ?_⟩
          · rw [HR.out]; exact owns_grown hown hbw
          · exact hg.trans hbw
          · have := Gr.size hbw; omega
          · exact hs.later hbw
        case measure => simp [intOf]; omega
      · have HB := Lib.hid hb
        have R := bytesTo_yes s k hb
        have HR := Lib.hid R
        clear hb hlt hk R
        go_wp2_with (first
          | (go_at_call 45; refine (has_of s k _ _ HL.out HB.out).mono ?_; rintro e w' ⟨rfl, hbw⟩; have hown' := owns_grown hown hbw; have hzw := Gr.size hbw)
          | (at_builtin; refine wpList_append_own _ rfl (.tmp 12) (.tmp 15) 46 rfl (w.heap.size + 1) 5 i0 (.int .u8 0) 1 1 Tryd.underlying46 hi hz0 hz1 hz2 rfl (by decide) _ _ _ rfl (hown'.alloc _) ⟨_, 0, none⟩ 1 1 [.int .u8 (k : Int)] rfl rfl ?c1 ?c2 ?c3 ?c4 ?c5 ?_))
        case c1 =>
          intro j u hj
          match j, hj with
          | 0, hj => simp at hj; subst hj; simp [Addr.add]
        case c2 => intro u hu; simp at hu; subst hu; rfl
        case c3 => unfold maxLen; omega
        case c4 => omega
        case c5 => simp; omega
        intro v' w1 hown2 hgrow _
        have hne : ∀ b, u3.ownBlock = some b → w.heap.size + 1 ≤ b := fun b hb => (World.ownsRow.lt hown b hb).1
        have R1 : Gr w w1 := Gr.grown (((hg.trans hbw)).trans (Gr.alloc _ _)) hgrow (fun b hb => by have := hne b hb; omega)
        have R2 := ((hs.later hbw).later (Gr.alloc w' (.cells #[.int .u8 (k : Int)] 5))).grown hgrow (by simp) (fun e => by have := hne _ e; omega)
        have R3 := hgrow.size
        have R4 : w1.ownsRow (w.heap.size + 1) 5 1 v' (bytesTo s (k + 1)).length ((bytesTo s (k + 1)).map vB) := by
          rw [HR.out, List.map_append, List.length_append]
          have : vB (UInt8.ofNat k) = .int .u8 (k : Int) := by unfold vB; rw [UInt8.toNat_ofNat_of_lt' HL.out]
          simp only [List.map_cons, List.map_nil, this]
          exact hown2
        have R5 : w.heap.size + 1 ≤ w1.heap.size := by simp at R3; omega
        clear hown2 hgrow hown' hown hne R3 hbw hzw
        go_wp2
        go_roundw
        case rel => exact ⟨k + 1, by have := HL.out; omega, by go_num, R4, R1, R5, R2⟩
        case measure => simp [intOf]; omega
    · obtain rfl : k = 256 := by omega
      have R : wr.ownsRow w.heap.size 5 1 u3 (bytesOf s).length ((bytesOf s).map vB) := by
        obtain ⟨h1, h2⟩ := hown
        refine ⟨h1, h2.imp id ?_⟩
        rintro ⟨g, cap, cur, hv, hb, r⟩
        exact ⟨g, cap, cur, hv, by omega, r⟩
      clear hlt hown
      go_wp2_with fail
      go_ret
      exact ⟨_, rfl, R, hg⟩

end Go.Proofs.YtihjmeoklbmnmaaDoor
