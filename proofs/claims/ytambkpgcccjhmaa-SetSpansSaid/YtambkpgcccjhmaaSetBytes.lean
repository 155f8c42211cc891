/- SetBytes of bolterlaw1, walked: it answers true. No condition. -/
import Derived.Test.YtambkpgcccjhmaaWakes
namespace Go.Proofs.Ytambkpgcccjhmaa
open Go Go.RowKit

theorem beq_of {α : Type} [BEq α] [LawfulBEq α] {a b : α} (h : a = b) : (a == b) = true := by subst h; simp
theorem range_at (a b : Int) (lo hi : Nat) (w : World) (ha : a = (lo : Int)) (hb : b = (hi : Int)) (hlo : lo < 256) (hhi : hi < 256) :
    Calls Try.prog 15 #[.int .u8 a, .int .u8 b] w fun e w' => e = .returned (.agg #[.int .u64 (wd ((rangeSet lo hi)) 0), .int .u64 (wd ((rangeSet lo hi)) 1), .int .u64 (wd ((rangeSet lo hi)) 2), .int .u64 (wd ((rangeSet lo hi)) 3)]) ∧ Gr w w' := by
  subst ha hb; exact range_any lo hi w hlo hhi
theorem count_at (s : BitVec 256) (c : Int) (w : World) (h : (card s : Int) = c) : Calls Try.prog 12 #[.agg #[.int .u64 (wd s 0), .int .u64 (wd s 1), .int .u64 (wd s 2), .int .u64 (wd s 3)]] w fun e w' => e = .returned (.int .i64 c) ∧ Gr w w' := by
  subst h; exact count_any s w
theorem within_at (s t : BitVec 256) (r : Bool) (w : World) (h : (s &&& t == s) = r) : Calls Try.prog 11 #[.agg #[.int .u64 (wd s 0), .int .u64 (wd s 1), .int .u64 (wd s 2), .int .u64 (wd s 3)], .agg #[.int .u64 (wd t 0), .int .u64 (wd t 1), .int .u64 (wd t 2), .int .u64 (wd t 3)]] w fun e w' => e = .returned (.bool r) ∧ Gr w w' := by
  subst h; exact within_any s t w
theorem of_at (l : List UInt8) (S : BitVec 256) (v : Value) (w : World) (h : Sl w v 1 l.length (l.map vB)) (e : ofList l = S) :
    Calls Try.prog 17 #[v] w fun e w' => e = .returned (.agg #[.int .u64 (wd S 0), .int .u64 (wd S 1), .int .u64 (wd S 2), .int .u64 (wd S 3)]) ∧ Gr w w' := by
  subst e; exact of_any l v w h
theorem Sl.new1 (a : UInt8) (x : Int) (w W : World) (hx : x = (a.toNat : Int)) (hW : W = w.alloc (.cells #[.int .u8 x] 5)) : Sl W (.slice (some ⟨w.heap.size, 0, none⟩) 1 1) 1 ([a] : List UInt8).length (([a] : List UInt8).map vB) :=
  ⟨rfl, by unfold maxLen; simp, .inr ⟨_, _, _, rfl, fun _ => by subst hW; simp, fun j u hj => by
    have := (boxAt.new (w := w) (W := W) [vB a] 5 (by rw [hW, hx]; rfl)).cell j u hj
    rw [Nat.zero_add]; exact this⟩⟩

theorem ofList_one (k : Nat) (h : k < 256) : ofList [UInt8.ofNat k] = bit k := by
  have := ofList_snoc [] (UInt8.ofNat k)
  rw [List.nil_append, ofList_nil, UInt8.toNat_ofNat_of_lt' h] at this
  rw [this]; unfold emptyS; simp
theorem bit_within (A : BitVec 256) (k : Nat) (h : k < 256) : (bit k &&& A == bit k) = A.getLsbD k := by
  rw [Bool.eq_iff_iff, beq_iff_eq]
  constructor
  · intro e
    have := congrArg (fun s => s.getLsbD k) e
    simp only [BitVec.getLsbD_and, getLsbD_bit] at this
    simpa [h] using this
  · intro e
    refine set_ext _ _ fun j hj => ?_
    rw [BitVec.getLsbD_and, getLsbD_bit]
    by_cases hjk : j = k
    · subst hjk; rw [e]; simp
    · simp [hjk]
theorem card_prefix (k n : Nat) (h : k < n) : cardN (fun j => decide (j ≤ k)) n = k + 1 := by
  induction n with
  | zero => omega
  | succ n ih =>
    unfold cardN
    by_cases hk : k = n
    · subst hk
      have : cardN (fun j => decide (j ≤ k)) k = k := by
        have e : cardN (fun j => decide (j ≤ k)) k = cardN (fun _ => true) k := cardN_congr _ _ _ fun j hj => by simp; omega
        rw [e]; clear e h ih
        induction k with
        | zero => rfl
        | succ k ih => unfold cardN; rw [ih]; rfl
      rw [this]; simp
    · rw [ih (by omega)]; have : ¬ n ≤ k := by omega
      simp [this]
theorem card_range (k : Nat) (h : k < 256) : card (rangeSet 0 k) = k + 1 := by
  have e : card (rangeSet 0 k) = cardN (fun j => decide (j ≤ k)) 256 := cardN_congr _ _ _ fun j hj => by rw [getLsbD_rangeSet]; simp [hj]
  rw [e]; exact card_prefix k 256 h
theorem range_all (k : Nat) (h : k < 256) : rangeSet 0 k ||| rangeSet k 255 = ~~~emptyS := set_ext _ _ fun j hj => by
  rw [BitVec.getLsbD_or, getLsbD_rangeSet, getLsbD_rangeSet, BitVec.getLsbD_not, getLsbD_empty]
  have : j ≤ k ∨ k ≤ j := by omega
  have h2 : j ≤ 255 := by omega
  rcases this with h3 | h3 <;> simp [hj, h3, h2]

set_option maxRecDepth 100000 in
set_option maxHeartbeats 8000000 in
theorem setBytes_any (A B C : BitVec 256) (w : World) :
    Calls Try.prog 5 #[.agg #[.int .u64 (wd A 0), .int .u64 (wd A 1), .int .u64 (wd A 2), .int .u64 (wd A 3), .int .u64 (wd B 0), .int .u64 (wd B 1), .int .u64 (wd B 2), .int .u64 (wd B 3), .int .u64 (wd C 0), .int .u64 (wd C 1), .int .u64 (wd C 2), .int .u64 (wd C 3)]] w
      fun e w' => e = .returned (.bool true) ∧ Gr w w' := by
  go_enter Try.func5, Try.ntmps5
  go_wp2_with fail
  go_at_call 6
  refine name_calls (fun W hW => ?_)
  have hgW : Gr w W := by rw [hW]; exact Gr.alloc _ _
  have xp : boxAt W (w.heap.size) [.int .u64 (wd A 0), .int .u64 (wd A 1), .int .u64 (wd A 2), .int .u64 (wd A 3), .int .u64 (wd B 0), .int .u64 (wd B 1), .int .u64 (wd B 2), .int .u64 (wd B 3), .int .u64 (wd C 0), .int .u64 (wd C 1), .int .u64 (wd C 2), .int .u64 (wd C 3)] := by
    subst hW; intro j u hj
    match j, hj with
    | 0, hj => simp at hj; subst hj; constructor <;> go_simp
    | 1, hj => simp at hj; subst hj; constructor <;> go_simp
    | 2, hj => simp at hj; subst hj; constructor <;> go_simp
    | 3, hj => simp at hj; subst hj; constructor <;> go_simp
    | 4, hj => simp at hj; subst hj; constructor <;> go_simp
    | 5, hj => simp at hj; subst hj; constructor <;> go_simp
    | 6, hj => simp at hj; subst hj; constructor <;> go_simp
    | 7, hj => simp at hj; subst hj; constructor <;> go_simp
    | 8, hj => simp at hj; subst hj; constructor <;> go_simp
    | 9, hj => simp at hj; subst hj; constructor <;> go_simp
    | 10, hj => simp at hj; subst hj; constructor <;> go_simp
    | 11, hj => simp at hj; subst hj; constructor <;> go_simp
  clear hW
  refine (union_any _ _ _).mono ?_; rintro e w1 ⟨rfl, hb⟩
  replace xp := xp.later hb
  replace hgW := hgW.trans hb
  clear hb W
  have c_p0 := xp.cell 0 _ rfl
  have c_p1 := xp.cell 1 _ rfl
  have c_p2 := xp.cell 2 _ rfl
  have c_p3 := xp.cell 3 _ rfl
  have c_p4 := xp.cell 4 _ rfl
  have c_p5 := xp.cell 5 _ rfl
  have c_p6 := xp.cell 6 _ rfl
  have c_p7 := xp.cell 7 _ rfl
  have c_p8 := xp.cell 8 _ rfl
  have c_p9 := xp.cell 9 _ rfl
  have c_p10 := xp.cell 10 _ rfl
  have c_p11 := xp.cell 11 _ rfl
  have m_p0 := xp.mark 0 _ rfl
  have m_p1 := xp.mark 1 _ rfl
  have m_p2 := xp.mark 2 _ rfl
  have m_p3 := xp.mark 3 _ rfl
  have m_p4 := xp.mark 4 _ rfl
  have m_p5 := xp.mark 5 _ rfl
  have m_p6 := xp.mark 6 _ rfl
  have m_p7 := xp.mark 7 _ rfl
  have m_p8 := xp.mark 8 _ rfl
  have m_p9 := xp.mark 9 _ rfl
  have m_p10 := xp.mark 10 _ rfl
  have m_p11 := xp.mark 11 _ rfl
  have l_p := xp.lt (Nat.succ_pos _)
  go_wp2_with fail
  clear c_p0 c_p1 c_p2 c_p3 c_p4 c_p5 c_p6 c_p7 c_p8 c_p9 c_p10 c_p11 m_p0 m_p1 m_p2 m_p3 m_p4 m_p5 m_p6 m_p7 m_p8 m_p9 m_p10 m_p11 l_p
  go_at_call 7
  refine name_calls (fun W hW => ?_)
  have hg : Gr w1 W := by rw [hW]; exact Gr.alloc _ _
  have xu : boxAt W (w1.heap.size) [.int .u64 (wd (A ||| B) 0), .int .u64 (wd (A ||| B) 1), .int .u64 (wd (A ||| B) 2), .int .u64 (wd (A ||| B) 3)] := by
    subst hW; intro j u hj
    match j, hj with
    | 0, hj => simp at hj; subst hj; constructor <;> go_simp
    | 1, hj => simp at hj; subst hj; constructor <;> go_simp
    | 2, hj => simp at hj; subst hj; constructor <;> go_simp
    | 3, hj => simp at hj; subst hj; constructor <;> go_simp
  clear hW
  refine (inter_any _ _ _).mono ?_; rintro e w2 ⟨rfl, hb⟩
  replace hg := hg.trans hb
  replace xp := xp.later hg
  replace xu := xu.later hb
  replace hgW := hgW.trans hg
  clear hb hg W
  have c_p0 := xp.cell 0 _ rfl
  have c_p1 := xp.cell 1 _ rfl
  have c_p2 := xp.cell 2 _ rfl
  have c_p3 := xp.cell 3 _ rfl
  have c_p4 := xp.cell 4 _ rfl
  have c_p5 := xp.cell 5 _ rfl
  have c_p6 := xp.cell 6 _ rfl
  have c_p7 := xp.cell 7 _ rfl
  have c_p8 := xp.cell 8 _ rfl
  have c_p9 := xp.cell 9 _ rfl
  have c_p10 := xp.cell 10 _ rfl
  have c_p11 := xp.cell 11 _ rfl
  have m_p0 := xp.mark 0 _ rfl
  have m_p1 := xp.mark 1 _ rfl
  have m_p2 := xp.mark 2 _ rfl
  have m_p3 := xp.mark 3 _ rfl
  have m_p4 := xp.mark 4 _ rfl
  have m_p5 := xp.mark 5 _ rfl
  have m_p6 := xp.mark 6 _ rfl
  have m_p7 := xp.mark 7 _ rfl
  have m_p8 := xp.mark 8 _ rfl
  have m_p9 := xp.mark 9 _ rfl
  have m_p10 := xp.mark 10 _ rfl
  have m_p11 := xp.mark 11 _ rfl
  have l_p := xp.lt (Nat.succ_pos _)
  go_wp2_with fail
  clear c_p0 c_p1 c_p2 c_p3 c_p4 c_p5 c_p6 c_p7 c_p8 c_p9 c_p10 c_p11 m_p0 m_p1 m_p2 m_p3 m_p4 m_p5 m_p6 m_p7 m_p8 m_p9 m_p10 m_p11 l_p
  go_at_call 10
  refine name_calls (fun W hW => ?_)
  have hg : Gr w2 W := by rw [hW]; exact Gr.alloc _ _
  have xn : boxAt W (w2.heap.size) [.int .u64 (wd (A &&& B) 0), .int .u64 (wd (A &&& B) 1), .int .u64 (wd (A &&& B) 2), .int .u64 (wd (A &&& B) 3)] := by
    subst hW; intro j u hj
    match j, hj with
    | 0, hj => simp at hj; subst hj; constructor <;> go_simp
    | 1, hj => simp at hj; subst hj; constructor <;> go_simp
    | 2, hj => simp at hj; subst hj; constructor <;> go_simp
    | 3, hj => simp at hj; subst hj; constructor <;> go_simp
  clear hW
  refine (minus_any _ _ _).mono ?_; rintro e w3 ⟨rfl, hb⟩
  replace hg := hg.trans hb
  replace xp := xp.later hg
  replace xu := xu.later hg
  replace xn := xn.later hb
  replace hgW := hgW.trans hg
  clear hb hg W
  have c_p0 := xp.cell 0 _ rfl
  have c_p1 := xp.cell 1 _ rfl
  have c_p2 := xp.cell 2 _ rfl
  have c_p3 := xp.cell 3 _ rfl
  have c_p4 := xp.cell 4 _ rfl
  have c_p5 := xp.cell 5 _ rfl
  have c_p6 := xp.cell 6 _ rfl
  have c_p7 := xp.cell 7 _ rfl
  have c_p8 := xp.cell 8 _ rfl
  have c_p9 := xp.cell 9 _ rfl
  have c_p10 := xp.cell 10 _ rfl
  have c_p11 := xp.cell 11 _ rfl
  have m_p0 := xp.mark 0 _ rfl
  have m_p1 := xp.mark 1 _ rfl
  have m_p2 := xp.mark 2 _ rfl
  have m_p3 := xp.mark 3 _ rfl
  have m_p4 := xp.mark 4 _ rfl
  have m_p5 := xp.mark 5 _ rfl
  have m_p6 := xp.mark 6 _ rfl
  have m_p7 := xp.mark 7 _ rfl
  have m_p8 := xp.mark 8 _ rfl
  have m_p9 := xp.mark 9 _ rfl
  have m_p10 := xp.mark 10 _ rfl
  have m_p11 := xp.mark 11 _ rfl
  have l_p := xp.lt (Nat.succ_pos _)
  go_wp2_with fail
  clear c_p0 c_p1 c_p2 c_p3 c_p4 c_p5 c_p6 c_p7 c_p8 c_p9 c_p10 c_p11 m_p0 m_p1 m_p2 m_p3 m_p4 m_p5 m_p6 m_p7 m_p8 m_p9 m_p10 m_p11 l_p
  go_at_call 8
  refine name_calls (fun W hW => ?_)
  have hg : Gr w3 W := by rw [hW]; exact Gr.alloc _ _
  have xm : boxAt W (w3.heap.size) [.int .u64 (wd (A &&& ~~~B) 0), .int .u64 (wd (A &&& ~~~B) 1), .int .u64 (wd (A &&& ~~~B) 2), .int .u64 (wd (A &&& ~~~B) 3)] := by
    subst hW; intro j u hj
    match j, hj with
    | 0, hj => simp at hj; subst hj; constructor <;> go_simp
    | 1, hj => simp at hj; subst hj; constructor <;> go_simp
    | 2, hj => simp at hj; subst hj; constructor <;> go_simp
    | 3, hj => simp at hj; subst hj; constructor <;> go_simp
  clear hW
  refine (complement_any _ _).mono ?_; rintro e w4 ⟨rfl, hb⟩
  replace hg := hg.trans hb
  replace xp := xp.later hg
  replace xu := xu.later hg
  replace xn := xn.later hg
  replace xm := xm.later hb
  replace hgW := hgW.trans hg
  clear hb hg W
  go_wp2_with fail
  refine name_world (fun W hW => ?_)
  have hg : Gr w4 W := by rw [hW]; exact Gr.alloc _ _
  have xc : boxAt W (w4.heap.size) [.int .u64 (wd (~~~C) 0), .int .u64 (wd (~~~C) 1), .int .u64 (wd (~~~C) 2), .int .u64 (wd (~~~C) 3)] := by
    subst hW; intro j u hj
    match j, hj with
    | 0, hj => simp at hj; subst hj; constructor <;> go_simp
    | 1, hj => simp at hj; subst hj; constructor <;> go_simp
    | 2, hj => simp at hj; subst hj; constructor <;> go_simp
    | 3, hj => simp at hj; subst hj; constructor <;> go_simp
  clear hW
  replace xp := xp.later hg
  replace xu := xu.later hg
  replace xn := xn.later hg
  replace xm := xm.later hg
  replace hgW := hgW.trans hg
  clear hg
  have c_p0 := xp.cell 0 _ rfl
  have c_p1 := xp.cell 1 _ rfl
  have c_p2 := xp.cell 2 _ rfl
  have c_p3 := xp.cell 3 _ rfl
  have c_p4 := xp.cell 4 _ rfl
  have c_p5 := xp.cell 5 _ rfl
  have c_p6 := xp.cell 6 _ rfl
  have c_p7 := xp.cell 7 _ rfl
  have c_p8 := xp.cell 8 _ rfl
  have c_p9 := xp.cell 9 _ rfl
  have c_p10 := xp.cell 10 _ rfl
  have c_p11 := xp.cell 11 _ rfl
  have m_p0 := xp.mark 0 _ rfl
  have m_p1 := xp.mark 1 _ rfl
  have m_p2 := xp.mark 2 _ rfl
  have m_p3 := xp.mark 3 _ rfl
  have m_p4 := xp.mark 4 _ rfl
  have m_p5 := xp.mark 5 _ rfl
  have m_p6 := xp.mark 6 _ rfl
  have m_p7 := xp.mark 7 _ rfl
  have m_p8 := xp.mark 8 _ rfl
  have m_p9 := xp.mark 9 _ rfl
  have m_p10 := xp.mark 10 _ rfl
  have m_p11 := xp.mark 11 _ rfl
  have l_p := xp.lt (Nat.succ_pos _)
  have c_u0 := xu.cell 0 _ rfl
  have c_u1 := xu.cell 1 _ rfl
  have c_u2 := xu.cell 2 _ rfl
  have c_u3 := xu.cell 3 _ rfl
  have m_u0 := xu.mark 0 _ rfl
  have m_u1 := xu.mark 1 _ rfl
  have m_u2 := xu.mark 2 _ rfl
  have m_u3 := xu.mark 3 _ rfl
  have l_u := xu.lt (Nat.succ_pos _)
  have c_n0 := xn.cell 0 _ rfl
  have c_n1 := xn.cell 1 _ rfl
  have c_n2 := xn.cell 2 _ rfl
  have c_n3 := xn.cell 3 _ rfl
  have m_n0 := xn.mark 0 _ rfl
  have m_n1 := xn.mark 1 _ rfl
  have m_n2 := xn.mark 2 _ rfl
  have m_n3 := xn.mark 3 _ rfl
  have l_n := xn.lt (Nat.succ_pos _)
  have c_m0 := xm.cell 0 _ rfl
  have c_m1 := xm.cell 1 _ rfl
  have c_m2 := xm.cell 2 _ rfl
  have c_m3 := xm.cell 3 _ rfl
  have m_m0 := xm.mark 0 _ rfl
  have m_m1 := xm.mark 1 _ rfl
  have m_m2 := xm.mark 2 _ rfl
  have m_m3 := xm.mark 3 _ rfl
  have l_m := xm.lt (Nat.succ_pos _)
  have c_c0 := xc.cell 0 _ rfl
  have c_c1 := xc.cell 1 _ rfl
  have c_c2 := xc.cell 2 _ rfl
  have c_c3 := xc.cell 3 _ rfl
  have m_c0 := xc.mark 0 _ rfl
  have m_c1 := xc.mark 1 _ rfl
  have m_c2 := xc.mark 2 _ rfl
  have m_c3 := xc.mark 3 _ rfl
  have l_c := xc.lt (Nat.succ_pos _)
  clear xp xu xn xm xc m_p0 m_p1 m_p2 m_p3 m_p4 m_p5 m_p6 m_p7 m_p8 m_p9 m_p10 m_p11 m_u0 m_u1 m_u2 m_u3 m_n0 m_n1 m_n2 m_n3 m_m0 m_m1 m_m2 m_m3 m_c0 m_c1 m_c2 m_c3
  go_loopw [7] (fun i wr => ∃ k : Nat, k ≤ 256 ∧ i = .int .i64 k ∧ Gr W wr) (fun i _ => 256 - (intOf i).toNat)
  case atStart => exact ⟨0, by omega, rfl, Gr.refl _⟩
  case round =>
    obtain ⟨k, hk, rfl, hg⟩ := hrel
    by_cases hlt : k < 256
    · have hlI : (k : Int) < 256 := by omega
      have HK := Lib.hid hlt
      have hc := Gr.cells hg
      obtain ⟨x, hx⟩ : ∃ x, A.getLsbD k = x := ⟨_, rfl⟩
      obtain ⟨y, hy⟩ : ∃ x, B.getLsbD k = x := ⟨_, rfl⟩
      obtain ⟨z, hz⟩ : ∃ x, C.getLsbD k = x := ⟨_, rfl⟩
      have HU := Lib.hid (show (A ||| B).getLsbD k = (x || y) by rw [BitVec.getLsbD_or, hx, hy])
      have HN := Lib.hid (show (A &&& B).getLsbD k = (x && y) by rw [BitVec.getLsbD_and, hx, hy])
      have HM := Lib.hid (show (A &&& ~~~B).getLsbD k = (x && !y) by rw [BitVec.getLsbD_and, BitVec.getLsbD_not, hx, hy]; simp [hlt])
      have HC := Lib.hid (show (~~~C).getLsbD k = !z by rw [BitVec.getLsbD_not, hz]; simp [hlt])
      have HX := Lib.hid hx
      have HY := Lib.hid hy
      have HZ := Lib.hid hz
      clear hk hlt hx hy hz
      go_wp2_with (first
        | (go_at_call 16; (with_reducible refine (has_at A k k x _ rfl HK.out HX.out).mono ?_); rintro e w5 ⟨rfl, hb5⟩; have hc5 := Gr.cells (hg.trans hb5))
        | (go_at_call 16; (with_reducible refine (has_at B k k y _ rfl HK.out HY.out).mono ?_); rintro e w6 ⟨rfl, hb6⟩; have hG := (hg.trans hb5).trans hb6))
      clear hc hc5
      have kz : ((!z) == z) = false := by cases z <;> rfl
      have HO := Lib.hid (ofList_one k HK.out)
      have HP := Lib.hid (show 0 < 256 by decide)
      have HQ := Lib.hid (show 255 < 256 by decide)
      have HR := Lib.hid (show (card (rangeSet 0 k) : Int) = (k : Int) + 1 by rw [card_range k HK.out]; rfl)
      have HV := Lib.hid (show (k : Int) = ((UInt8.ofNat k).toNat : Int) by rw [UInt8.toNat_ofNat_of_lt' HK.out])
      have HW := Lib.hid (show (bit k &&& A == bit k) = x by rw [bit_within A k HK.out]; exact HX.out)
      have kr : (rangeSet 0 k ||| rangeSet k 255 == ~~~emptyS) = true := beq_of (range_all k HK.out)
      have ki : IntKind.i64.wrap ((k : Int) + 1) = (k : Int) + 1 := IntWalk.i64_in _ (by omega)
      cases x
      all_goals
        refine wp_region_B hG (.take 0 (.take 1 (.take 3 (.run 2 false (.take 4 (.take 5 (.take 6 (.take 7 (.take 8 (.take 9 (.take 10 (.take 12 (.run 11 false (.take 13 (.take 14 (.take 15 (.take 16 (.take 17 (.take 18 (.take 19 (.take 20 (.take 22 (.run 21 false (.take 23 (.take 24 (.take 25 (.take 26 (.take 27 (.take 28 (.take 29 (.take 30 (.take 31 (.take 33 (.take 34 (.take 35 (.run 32 false (.run 36 false (.take 37 (.take 38 .nil))))))))))))))))))))))))))))))))))))))) (by kernel_rfl) (by kernel_rfl) ?_
        simp only [pickOps, nthOp]
        clear hG; intro wq hG
        repeat (first | (refine wpG_skip_take ?_ ?_; (focus rfl); try simp only [Act.put, List.setIfInBounds_toArray, List.set_cons_zero, List.set_cons_succ]) | (refine wpG_skip_run ?_ ?_; (focus rfl); try simp only [Act.put, List.setIfInBounds_toArray, List.set_cons_zero, List.set_cons_succ]) | (refine wpG_take ?_ ?_; (focus rfl); apply Exists.intro; refine ⟨fun w' hw' => ?_, ?_⟩; (focus (have hc := Gr.cells hw'; go_simp; (try rfl); done)); try simp only [Act.put, List.setIfInBounds_toArray, List.set_cons_zero, List.set_cons_succ]) | (refine wpG_run ?_ (fun K hK => ?_); (focus rfl); go_simp; (first | (go_at_call 16; (with_reducible refine (has_at (A ||| B) k k _ _ rfl HK.out HU.out).mono ?_); rintro e w' ⟨rfl, hb⟩) | (go_at_call 16; (with_reducible refine (has_at (A &&& B) k k _ _ rfl HK.out HN.out).mono ?_); rintro e w' ⟨rfl, hb⟩) | (go_at_call 16; (with_reducible refine (has_at (A &&& ~~~B) k k _ _ rfl HK.out HM.out).mono ?_); rintro e w' ⟨rfl, hb⟩) | (go_at_call 16; (with_reducible refine (has_at (~~~C) k k _ _ rfl HK.out HC.out).mono ?_); rintro e w' ⟨rfl, hb⟩) | (go_at_call 16; (with_reducible refine (has_at C k k _ _ rfl HK.out HZ.out).mono ?_); rintro e w' ⟨rfl, hb⟩)); (try dsimp only); replace hG := hG.trans hb; refine hK.out _ _ hG ?_; clear hK K hb; try simp only [Act.put, List.setIfInBounds_toArray, List.set_cons_zero, List.set_cons_succ]))
        refine wpG_done ?_
        go_wp2
        refine wp_region_B hG (.take 0 (.take 1 (.take 4 (.take 5 (.run 2 false (.run 3 false (.run 6 false (.take 7 (.take 8 (.take 9 (.take 12 (.take 13 (.run 10 false (.run 11 false (.take 14 (.take 15 (.take 16 (.take 17 (.take 19 (.run 18 false (.run 20 false (.run 21 false (.run 22 false (.take 23 (.take 24 .nil))))))))))))))))))))))))) (by kernel_rfl) (by kernel_rfl) ?_
        simp only [pickOps, nthOp]
        clear hG; intro wq hG
        repeat (first | (refine wpG_skip_take ?_ ?_; (focus rfl); try simp only [Act.put, List.setIfInBounds_toArray, List.set_cons_zero, List.set_cons_succ]) | (refine wpG_skip_run ?_ ?_; (focus rfl); try simp only [Act.put, List.setIfInBounds_toArray, List.set_cons_zero, List.set_cons_succ]) | (refine wpG_take ?_ ?_; (focus rfl); apply Exists.intro; refine ⟨fun w' hw' => ?_, ?_⟩; (focus (have hc := Gr.cells hw'; go_simp; (try rfl); done)); try simp only [Act.put, List.setIfInBounds_toArray, List.set_cons_zero, List.set_cons_succ]) | (refine wpG_run ?_ (fun K hK => ?_); (focus rfl); go_simp; (first | (go_at_call 17; (with_reducible refine (of_at [UInt8.ofNat k] (bit k) _ _ hs HO.out).mono ?_); rintro e w' ⟨rfl, hb⟩) | (go_at_call 11; (with_reducible refine (within_at (bit k) A _ _ HW.out).mono ?_); rintro e w' ⟨rfl, hb⟩) | (go_at_call 15; (with_reducible refine (range_at 0 k 0 k _ rfl rfl HP.out HK.out).mono ?_); rintro e w' ⟨rfl, hb⟩) | (go_at_call 15; (with_reducible refine (range_at k 255 k 255 _ rfl rfl HK.out HQ.out).mono ?_); rintro e w' ⟨rfl, hb⟩) | (go_at_call 12; (with_reducible refine (count_at (rangeSet 0 k) ((k : Int) + 1) _ HR.out).mono ?_); rintro e w' ⟨rfl, hb⟩) | (go_at_call 6; (with_reducible refine (union_any _ _ _).mono ?_); rintro e w' ⟨rfl, hb⟩) | (go_at_call 9; (with_reducible refine (all_any _).mono ?_); rintro e w' ⟨rfl, hb⟩) | (refine name_K (fun w9 hw9 => ?_); have hb := Gr.of_alloc hw9; have hs := Sl.new1 (UInt8.ofNat k) k _ _ HV.out hw9; clear hw9)); (try dsimp only); replace hG := hG.trans hb; refine hK.out _ _ hG ?_; clear hK K hb; try simp only [Act.put, List.setIfInBounds_toArray, List.set_cons_zero, List.set_cons_succ]))
        refine wpG_done ?_
        go_wp2
        go_roundw
        case rel => exact ⟨k + 1, by have := HK.out; omega, by go_num, hG⟩
        case measure => simp [intOf]; omega
    · obtain rfl : k = 256 := by omega
      clear hlt hk
      go_wp2_with (go_at_call 13; (with_reducible refine (wakes_any _).mono ?_); rintro e w5 ⟨rfl, hb⟩)
      go_ret
      exact ⟨rfl, (hgW.trans hg).trans hb⟩

end Go.Proofs.Ytambkpgcccjhmaa
