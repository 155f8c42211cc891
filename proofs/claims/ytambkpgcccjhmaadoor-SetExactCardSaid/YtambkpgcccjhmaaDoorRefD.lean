/- bolterref1: List, Spans, Least. No condition. -/
import Derived.Test.YtambkpgcccjhmaaDoorRefC
import Derived.Test.YtambkpgcccjhmaaDoorSpansOf
import Derived.Test.YtambkpgcccjhmaaDoorEqB
namespace Go.Proofs.YtambkpgcccjhmaaDoor
open Go Go.RowKit

theorem owns_base {w : World} {B B' e k n : Nat} {v : Value} {xs : List Value} (h : w.ownsRow B e k v n xs) (hB : B' ≤ B) : w.ownsRow B' e k v n xs := by
  obtain ⟨h1, h2⟩ := h
  refine ⟨h1, h2.imp id ?_⟩
  rintro ⟨g, cap, cur, hv, hb, r⟩
  exact ⟨g, cap, cur, hv, by omega, r⟩
theorem new1_cell (w : World) (a : Value) (e : TypeId) : ∀ (j : Nat) (u : Value), [a][j]? = some u → (w.alloc (.cells #[a] e)).cell? ((⟨w.heap.size, 0, none⟩ : Addr).add j) = some u := fun j u hj => by
  match j, hj with
  | 0, hj => simp at hj; subst hj; simp [Addr.add]
theorem one_one (x : Int) : ∀ u ∈ [Value.int .u8 x], u.oneCell' = true := fun u hu => by simp at hu; subst hu; rfl

set_option maxRecDepth 100000 in
set_option maxHeartbeats 1000000 in
theorem r1list (s : BitVec 256) (w : World) : Calls Tryd.prog 42 #[.agg #[.int .u64 (wd s 0), .int .u64 (wd s 1), .int .u64 (wd s 2), .int .u64 (wd s 3)]] w (SomeBytes (bytesOf s) w) := by
  obtain ⟨i0, hi, hz0, hz1, hz2⟩ := info_parts info_u8
  go_enter Tryd.func42, Tryd.ntmps42
  go_wp2_with fail
  go_loopw [3, 4] (fun v i wr => ∃ k : Nat, k ≤ 256 ∧ i = .int .i64 (k : Int) ∧ wr.ownsRow (w.heap.size + 1) 5 1 v (bytesTo s k).length ((bytesTo s k).map vB) ∧ Gr w wr ∧ w.heap.size + 1 ≤ wr.heap.size ∧ boxAt wr w.heap.size [.int .u64 (wd s 0), .int .u64 (wd s 1), .int .u64 (wd s 2), .int .u64 (wd s 3)]) (fun _ i _ => 256 - (intOf i).toNat)
  case atStart =>
    refine ⟨0, by omega, rfl, World.ownsRow_nil _ _ _ _, Gr.alloc _ _, by simp, ?_⟩
    exact boxAt.new [.int .u64 (wd s 0), .int .u64 (wd s 1), .int .u64 (wd s 2), .int .u64 (wd s 3)] 24 rfl
  case round =>
    obtain ⟨k, hk, rfl, hown, hg, hz, xs⟩ := hrel
    by_cases hlt : k < 256
    · have hlI : (k : Int) < 256 := by omega
      have hl := bytesTo_len s k
      have HL := Lib.hid hlt
      obtain ⟨x, hx⟩ : ∃ x, s.getLsbD k = x := ⟨_, rfl⟩
      have HX := Lib.hid hx
      clear hlt hk hx
      have c_s0 := xs.cell 0 _ rfl
      have c_s1 := xs.cell 1 _ rfl
      have c_s2 := xs.cell 2 _ rfl
      have c_s3 := xs.cell 3 _ rfl
      have m_s0 := xs.mark 0 _ rfl
      have m_s1 := xs.mark 1 _ rfl
      have m_s2 := xs.mark 2 _ rfl
      have m_s3 := xs.mark 3 _ rfl
      have l_s := xs.lt (Nat.succ_pos _)
      go_wp2_with fail
      clear c_s0 c_s1 c_s2 c_s3 m_s0 m_s1 m_s2 m_s3 l_s
      go_at_call 40
      refine (r1has s k x _ HL.out HX.out).mono ?_; rintro e w1 ⟨rfl, hb⟩
      replace xs := xs.later hb
      replace hown := owns_later hown hb
      have hs1 : w.heap.size + 1 ≤ w1.heap.size := by have := hb.size; omega
      replace hg := hg.trans hb
      clear hb hz
      cases x
      · have HR := Lib.hid (bytesTo_no s k HX.out)
        go_wp2_with fail
        go_roundw
        case rel => exact ⟨k + 1, by have := HL.out; omega, by go_num, by rw [HR.out]; exact hown, hg, hs1, xs⟩
        case measure => have := HL.out; simp [intOf]; omega
      · have HR := Lib.hid (bytesTo_yes s k HX.out)
        go_wp2_with (at_builtin; refine wpList_append_own _ rfl (.tmp 12) (.tmp 15) 32 rfl (w.heap.size + 1) 5 i0 (.int .u8 0) 1 1 Tryd.underlying32 hi hz0 hz1 hz2 rfl (by decide) _ _ _ rfl (hown.alloc _) ⟨w1.heap.size, 0, none⟩ 1 1 [.int .u8 (k : Int)] rfl rfl ?c1 ?c2 ?c3 ?c4 ?c5 ?_)
        case c1 => exact new1_cell _ _ _
        case c2 => exact one_one _
        case c3 => unfold maxLen; omega
        case c4 => omega
        case c5 => simp; omega
        intro v' w2 hown2 hgrow _
        have hne : ∀ b, u3.ownBlock = some b → w.heap.size + 1 ≤ b := fun b hb => (World.ownsRow.lt hown b hb).1
        have R1 : Gr w w2 := Gr.grown (hg.trans (Gr.alloc _ _)) hgrow (fun b hb => by have := hne b hb; omega)
        have R2 := (xs.later (Gr.alloc w1 (.cells #[.int .u8 (k : Int)] 5))).grown hgrow (by simp) (fun e => by have := hne _ e; omega)
        have R3 := hgrow.size
        have R4 : w2.ownsRow (w.heap.size + 1) 5 1 v' (bytesTo s (k + 1)).length ((bytesTo s (k + 1)).map vB) := by
          rw [HR.out, List.map_append, List.length_append]
          have : vB (UInt8.ofNat k) = .int .u8 (k : Int) := by unfold vB; rw [UInt8.toNat_ofNat_of_lt' HL.out]
          simp only [List.map_cons, List.map_nil, this]
          exact hown2
        have R5 : w.heap.size + 1 ≤ w2.heap.size := by simp at R3; omega
        clear hown2 hgrow hown hne R3
        go_wp2_with fail
        go_roundw
        case rel => exact ⟨k + 1, by have := HL.out; omega, by go_num, R4, R1, R5, R2⟩
        case measure => have := HL.out; simp [intOf]; omega
    · obtain rfl : k = 256 := by omega
      have R : wr.ownsRow w.heap.size 5 1 u3 (bytesOf s).length ((bytesOf s).map vB) := owns_base hown (by omega)
      clear hlt hown
      go_wp2_with fail
      go_ret
      exact ⟨_, rfl, R, hg⟩

set_option maxHeartbeats 1000000 in
theorem r1least_some (s : BitVec 256) (k : Nat) (h : IsLow s k) (w : World) : Calls Tryd.prog 41 #[.agg #[.int .u64 (wd s 0), .int .u64 (wd s 1), .int .u64 (wd s 2), .int .u64 (wd s 3)]] w fun e w' => e = .returned (.tuple #[.int .u8 (k : Int), .bool true]) ∧ Gr w w' := by
  have HK := Lib.hid h
  clear h
  go_enter Tryd.func41, Tryd.ntmps41
  go_wp2_with fail
  go_at_call 42
  refine name_calls (fun W hW => ?_)
  have hgW : Gr w W := by rw [hW]; exact Gr.alloc _ _
  clear hW
  refine (r1list s W).mono ?_; rintro e w1 ⟨v, rfl, hown, hb⟩
  have hlow := bytesOf_low s k HK.out
  have hlen : 0 < (bytesOf s).length := (List.getElem?_eq_some_iff.1 hlow).1
  obtain ⟨g, cap, rfl, hg, hgl, _⟩ := owns_block hown hlen
  have c0 := owns_cell hown 0 (vB (UInt8.ofNat k)) (by simp [hlow])
  unfold vB at c0
  rw [toNat_ofNat8 k HK.out.1] at c0
  replace hgW := hgW.trans hb
  obtain ⟨n, hn⟩ : ∃ n, (bytesOf s).length = n := ⟨_, rfl⟩
  rw [hn] at hlen ⊢
  have hnI : (0 : Int) < (n : Int) := by omega
  have hne : ((n : Int) == 0) = false := by simp; omega
  clear hlow hown hn hb
  go_wp2_with fail
  refine bodyPost_ret (v := .tuple #[.int .u8 (k : Int), .bool true]) (by simp [results, Tryd.results41, go_sem]) rfl ⟨rfl, hgW⟩
set_option maxHeartbeats 1000000 in
theorem r1least_none (w : World) : Calls Tryd.prog 41 #[.agg #[.int .u64 (wd emptyS 0), .int .u64 (wd emptyS 1), .int .u64 (wd emptyS 2), .int .u64 (wd emptyS 3)]] w fun e w' => e = .returned (.tuple #[.int .u8 0, .bool false]) ∧ Gr w w' := by
  go_enter Tryd.func41, Tryd.ntmps41
  go_wp2_with fail
  go_at_call 42
  refine name_calls (fun W hW => ?_)
  have hgW : Gr w W := by rw [hW]; exact Gr.alloc _ _
  clear hW
  refine (r1list emptyS W).mono ?_; rintro e w1 ⟨v, rfl, hown, hb⟩
  rw [bytesOf_empty] at hown
  obtain ⟨p, cap, rfl⟩ := (Sl.of_owns hown).len
  replace hgW := hgW.trans hb
  clear hown hb
  go_wp2_with fail
  refine bodyPost_ret (v := .tuple #[.int .u8 0, .bool false]) (by simp [results, Tryd.results41, go_sem]) rfl ⟨rfl, hgW⟩

end Go.Proofs.YtambkpgcccjhmaaDoor
