/- SetLaws of bolterlaw1, walked: it answers true. No condition. -/
import Derived.Test.YtambkpgcccjhmaaWakes
namespace Go.Proofs.Ytambkpgcccjhmaa
open Go Go.RowKit

theorem card_le (s : BitVec 256) : card s ≤ 256 := cardN_le _ _
theorem cardN_or_and (p q : Nat → Bool) (n : Nat) : cardN (fun k => p k || q k) n + cardN (fun k => p k && q k) n = cardN p n + cardN q n := by
  induction n with
  | zero => rfl
  | succ n ih => unfold cardN; cases p n <;> cases q n <;> simp <;> omega
theorem card_or_and (s t : BitVec 256) : card (s ||| t) + card (s &&& t) = card s + card t := by
  have h := cardN_or_and s.getLsbD t.getLsbD 256
  have h1 : card (s ||| t) = cardN (fun k => s.getLsbD k || t.getLsbD k) 256 := cardN_congr _ _ _ fun k _ => BitVec.getLsbD_or
  have h2 : card (s &&& t) = cardN (fun k => s.getLsbD k && t.getLsbD k) 256 := cardN_congr _ _ _ fun k _ => BitVec.getLsbD_and
  rw [h1, h2, h]; rfl
theorem cardN_not (p : Nat → Bool) (n : Nat) : cardN p n + cardN (fun k => !p k) n = n := by
  induction n with
  | zero => rfl
  | succ n ih => unfold cardN; cases p n <;> simp <;> omega
theorem card_not (s : BitVec 256) : card s + card (~~~s) = 256 := by
  have h := cardN_not s.getLsbD 256
  have h2 : card (~~~s) = cardN (fun k => !s.getLsbD k) 256 := cardN_congr _ _ _ fun k hk => by rw [BitVec.getLsbD_not]; simp [hk]
  rw [h2]; exact h

theorem count_at (s : BitVec 256) (c : Int) (w : World) (h : (card s : Int) = c) : Calls Try.prog 12 #[.agg #[.int .u64 (wd s 0), .int .u64 (wd s 1), .int .u64 (wd s 2), .int .u64 (wd s 3)]] w fun e w' => e = .returned (.int .i64 c) ∧ Gr w w' := by
  subst h; exact count_any s w
theorem beq_of {α : Type} [BEq α] [LawfulBEq α] {a b : α} (h : a = b) : (a == b) = true := by subst h; simp

theorem set_and_or (a b c : BitVec 256) : a &&& (b ||| c) = (a &&& b) ||| (a &&& c) := set_ext _ _ fun k _ => by
  simp only [BitVec.getLsbD_or, BitVec.getLsbD_and]; cases a.getLsbD k <;> cases b.getLsbD k <;> cases c.getLsbD k <;> rfl
theorem set_or_and (a b c : BitVec 256) : a ||| (b &&& c) = (a ||| b) &&& (a ||| c) := set_ext _ _ fun k _ => by
  simp only [BitVec.getLsbD_or, BitVec.getLsbD_and]; cases a.getLsbD k <;> cases b.getLsbD k <;> cases c.getLsbD k <;> rfl
theorem set_not_or (a b : BitVec 256) : ~~~(a ||| b) = ~~~a &&& ~~~b := set_ext _ _ fun k hk => by
  simp only [BitVec.getLsbD_or, BitVec.getLsbD_and, BitVec.getLsbD_not]; cases a.getLsbD k <;> cases b.getLsbD k <;> simp [hk]
theorem set_or_not (a : BitVec 256) : a ||| ~~~a = ~~~emptyS := set_ext _ _ fun k hk => by
  simp only [BitVec.getLsbD_or, BitVec.getLsbD_not, getLsbD_empty]; cases a.getLsbD k <;> simp [hk]
theorem set_and_not (a : BitVec 256) : a &&& ~~~a = emptyS := set_ext _ _ fun k hk => by
  simp only [BitVec.getLsbD_and, BitVec.getLsbD_not, getLsbD_empty]; cases a.getLsbD k <;> simp
theorem set_within (a b : BitVec 256) : (a &&& b == a) = (a ||| b == b) := by
  rw [Bool.eq_iff_iff]
  simp only [beq_iff_eq]
  constructor
  · intro h; rw [← h]; exact set_ext _ _ fun k _ => by simp only [BitVec.getLsbD_or, BitVec.getLsbD_and]; cases a.getLsbD k <;> cases b.getLsbD k <;> rfl
  · intro h; rw [← h]; exact set_ext _ _ fun k _ => by simp only [BitVec.getLsbD_or, BitVec.getLsbD_and]; cases a.getLsbD k <;> cases b.getLsbD k <;> rfl

set_option maxRecDepth 100000 in
set_option maxHeartbeats 4000000 in
theorem setLaws_any (A B C : BitVec 256) (w : World) :
    Calls Try.prog 3 #[.agg #[.int .u64 (wd A 0), .int .u64 (wd A 1), .int .u64 (wd A 2), .int .u64 (wd A 3), .int .u64 (wd B 0), .int .u64 (wd B 1), .int .u64 (wd B 2), .int .u64 (wd B 3), .int .u64 (wd C 0), .int .u64 (wd C 1), .int .u64 (wd C 2), .int .u64 (wd C 3)]] w
      fun e w' => e = .returned (.bool true) ∧ Gr w w' := by
  go_enter Try.func3, Try.ntmps3
  go_wp2_with fail
  go_at_call 6
  refine name_calls (fun W hW => ?_)
  have hgW : Gr w W := by rw [hW]; exact (((Gr.alloc _ _).trans (Gr.alloc _ _)).trans (Gr.alloc _ _)).trans (Gr.alloc _ _)
  have xa : boxAt W (w.heap.size + 1) [.int .u64 (wd (A) 0), .int .u64 (wd (A) 1), .int .u64 (wd (A) 2), .int .u64 (wd (A) 3)] := by
    subst hW; intro j u hj
    match j, hj with
    | 0, hj => simp at hj; subst hj; constructor <;> go_simp
    | 1, hj => simp at hj; subst hj; constructor <;> go_simp
    | 2, hj => simp at hj; subst hj; constructor <;> go_simp
    | 3, hj => simp at hj; subst hj; constructor <;> go_simp
  have xb : boxAt W (w.heap.size + 1 + 1) [.int .u64 (wd (B) 0), .int .u64 (wd (B) 1), .int .u64 (wd (B) 2), .int .u64 (wd (B) 3)] := by
    subst hW; intro j u hj
    match j, hj with
    | 0, hj => simp at hj; subst hj; constructor <;> go_simp
    | 1, hj => simp at hj; subst hj; constructor <;> go_simp
    | 2, hj => simp at hj; subst hj; constructor <;> go_simp
    | 3, hj => simp at hj; subst hj; constructor <;> go_simp
  have xc : boxAt W (w.heap.size + 1 + 1 + 1) [.int .u64 (wd (C) 0), .int .u64 (wd (C) 1), .int .u64 (wd (C) 2), .int .u64 (wd (C) 3)] := by
    subst hW; intro j u hj
    match j, hj with
    | 0, hj => simp at hj; subst hj; constructor <;> go_simp
    | 1, hj => simp at hj; subst hj; constructor <;> go_simp
    | 2, hj => simp at hj; subst hj; constructor <;> go_simp
    | 3, hj => simp at hj; subst hj; constructor <;> go_simp
  have hz : w.heap.size + 3 < W.heap.size := by rw [hW]; simp
  clear hW
  refine (union_any _ _ _).mono ?_; rintro e w1 ⟨rfl, hb⟩
  replace xa := xa.later hb
  replace xb := xb.later hb
  replace xc := xc.later hb
  have hz1 : w.heap.size + 3 < w1.heap.size := Nat.lt_of_lt_of_le hz hb.size
  replace hgW := hgW.trans hb
  clear hz hb
  have c_a0 := xa.cell 0 _ rfl
  have c_a1 := xa.cell 1 _ rfl
  have c_a2 := xa.cell 2 _ rfl
  have c_a3 := xa.cell 3 _ rfl
  have m_a0 := xa.mark 0 _ rfl
  have m_a1 := xa.mark 1 _ rfl
  have m_a2 := xa.mark 2 _ rfl
  have m_a3 := xa.mark 3 _ rfl
  have l_a := xa.lt (Nat.succ_pos _)
  have c_b0 := xb.cell 0 _ rfl
  have c_b1 := xb.cell 1 _ rfl
  have c_b2 := xb.cell 2 _ rfl
  have c_b3 := xb.cell 3 _ rfl
  have m_b0 := xb.mark 0 _ rfl
  have m_b1 := xb.mark 1 _ rfl
  have m_b2 := xb.mark 2 _ rfl
  have m_b3 := xb.mark 3 _ rfl
  have l_b := xb.lt (Nat.succ_pos _)
  go_wp2_with fail
  go_at_call 7
  clear c_a0 c_a1 c_a2 c_a3 m_a0 m_a1 m_a2 m_a3 l_a
  clear c_b0 c_b1 c_b2 c_b3 m_b0 m_b1 m_b2 m_b3 l_b
  refine name_calls (fun W2 hW => ?_)
  have hg2 : Gr w1 W2 := by rw [hW]; exact Gr.alloc _ _
  have xu : boxAt W2 (w1.heap.size) [.int .u64 (wd (A ||| B) 0), .int .u64 (wd (A ||| B) 1), .int .u64 (wd (A ||| B) 2), .int .u64 (wd (A ||| B) 3)] := by
    subst hW; intro j u hj
    match j, hj with
    | 0, hj => simp at hj; subst hj; constructor <;> go_simp
    | 1, hj => simp at hj; subst hj; constructor <;> go_simp
    | 2, hj => simp at hj; subst hj; constructor <;> go_simp
    | 3, hj => simp at hj; subst hj; constructor <;> go_simp
  have hz2 : w1.heap.size < W2.heap.size := by rw [hW]; simp
  clear hW
  refine (inter_any _ _ _).mono ?_; rintro e w2 ⟨rfl, hb⟩
  have hg12 := hg2.trans hb
  replace xa := xa.later hg12
  replace xb := xb.later hg12
  replace xc := xc.later hg12
  replace xu := xu.later hb
  replace hgW := hgW.trans hg12
  clear hg12 hg2 hb hz1 hz2
  go_wp2
  refine name_world (fun W3 hW => ?_)
  have hg3 : Gr w2 W3 := by rw [hW]; exact Gr.alloc _ _
  have xn : boxAt W3 (w2.heap.size) [.int .u64 (wd (A &&& B) 0), .int .u64 (wd (A &&& B) 1), .int .u64 (wd (A &&& B) 2), .int .u64 (wd (A &&& B) 3)] := by
    subst hW; intro j u hj
    match j, hj with
    | 0, hj => simp at hj; subst hj; constructor <;> go_simp
    | 1, hj => simp at hj; subst hj; constructor <;> go_simp
    | 2, hj => simp at hj; subst hj; constructor <;> go_simp
    | 3, hj => simp at hj; subst hj; constructor <;> go_simp
  clear hW
  replace xa := xa.later hg3
  replace xb := xb.later hg3
  replace xc := xc.later hg3
  replace xu := xu.later hg3
  replace hgW := hgW.trans hg3
  clear hg3
  have c_a0 := xa.cell 0 _ rfl
  have c_a1 := xa.cell 1 _ rfl
  have c_a2 := xa.cell 2 _ rfl
  have c_a3 := xa.cell 3 _ rfl
  have m_a0 := xa.mark 0 _ rfl
  have m_a1 := xa.mark 1 _ rfl
  have m_a2 := xa.mark 2 _ rfl
  have m_a3 := xa.mark 3 _ rfl
  have l_a := xa.lt (Nat.succ_pos _)
  have c_b0 := xb.cell 0 _ rfl
  have c_b1 := xb.cell 1 _ rfl
  have c_b2 := xb.cell 2 _ rfl
  have c_b3 := xb.cell 3 _ rfl
  have m_b0 := xb.mark 0 _ rfl
  have m_b1 := xb.mark 1 _ rfl
  have m_b2 := xb.mark 2 _ rfl
  have m_b3 := xb.mark 3 _ rfl
  have l_b := xb.lt (Nat.succ_pos _)
  have c_c0 := xc.cell 0 _ rfl
  have c_c1 := xc.cell 1 _ rfl
  have c_c2 := xc.cell 2 _ rfl
  have c_c3 := xc.cell 3 _ rfl
  have m_c0 := xc.mark 0 _ rfl
  have m_c1 := xc.mark 1 _ rfl
  have m_c2 := xc.mark 2 _ rfl
  have m_c3 := xc.mark 3 _ rfl
  have l_c := xc.lt (Nat.succ_pos _)
  have c_u0 := xu.cell 0 _ rfl
  have c_u1 := xu.cell 1 _ rfl
  have c_u2 := xu.cell 2 _ rfl
  have c_u3 := xu.cell 3 _ rfl
  have m_u0 := xu.mark 0 _ rfl
  have m_u1 := xu.mark 1 _ rfl
  have m_u2 := xu.mark 2 _ rfl
  have m_u3 := xu.mark 3 _ rfl
  have l_u := xu.lt (Nat.succ_pos _)
  have c_n0 := xn.cell 0 _ rfl
  have c_n1 := xn.cell 1 _ rfl
  have c_n2 := xn.cell 2 _ rfl
  have c_n3 := xn.cell 3 _ rfl
  have m_n0 := xn.mark 0 _ rfl
  have m_n1 := xn.mark 1 _ rfl
  have m_n2 := xn.mark 2 _ rfl
  have m_n3 := xn.mark 3 _ rfl
  have l_n := xn.lt (Nat.succ_pos _)
  have k1 : (A ||| B == B ||| A) = true := beq_of (BitVec.or_comm ..)
  have k2 : (A &&& B == B &&& A) = true := beq_of (BitVec.and_comm ..)
  have k3 : (A ||| B ||| C == A ||| (B ||| C)) = true := beq_of (BitVec.or_assoc ..)
  have k4 : (A &&& B &&& C == A &&& (B &&& C)) = true := beq_of (BitVec.and_assoc ..)
  refine wp_region_G (.take 0 (.take 1 (.take 2 (.run 3 false (.take 4 (.take 5 (.take 6 (.take 7 (.take 8 (.run 9 false (.take 10 (.take 11 (.take 12 (.take 13 (.take 14 (.take 16 (.take 17 (.take 18 (.run 15 false (.run 19 false (.run 20 false (.take 21 (.take 22 (.take 23 (.take 24 (.take 25 (.take 27 (.take 28 (.take 29 (.run 26 false (.run 30 false (.run 31 false (.take 32 (.take 33 .nil)))))))))))))))))))))))))))))))))) (by kernel_rfl) (by kernel_rfl) ?_
  simp only [pickOps, nthOp]
  intro wq hG
  repeat (first | (refine wpG_skip_take ?_ ?_; (focus rfl); try simp only [Act.put, List.setIfInBounds_toArray, List.set_cons_zero, List.set_cons_succ]) | (refine wpG_skip_run ?_ ?_; (focus rfl); try simp only [Act.put, List.setIfInBounds_toArray, List.set_cons_zero, List.set_cons_succ]) | (refine wpG_take ?_ ?_; (focus rfl); apply Exists.intro; refine ⟨fun w' hw' => ?_, ?_⟩; (focus (have hc := Gr.cells hw'; go_simp; (try rfl); done)); try simp only [Act.put, List.setIfInBounds_toArray, List.set_cons_zero, List.set_cons_succ]) | (refine wpG_run ?_ (fun K hK => ?_); (focus rfl); go_simp; (first | (go_at_call 6; (with_reducible refine (union_any _ _ _).mono ?_); rintro e w' ⟨rfl, hb⟩) | (go_at_call 7; (with_reducible refine (inter_any _ _ _).mono ?_); rintro e w' ⟨rfl, hb⟩) | (go_at_call 8; (with_reducible refine (complement_any _ _).mono ?_); rintro e w' ⟨rfl, hb⟩) | (go_at_call 10; (with_reducible refine (minus_any _ _ _).mono ?_); rintro e w' ⟨rfl, hb⟩) | (go_at_call 11; (with_reducible refine (within_any _ _ _).mono ?_); rintro e w' ⟨rfl, hb⟩) | (go_at_call 12; (with_reducible refine (count_any _ _).mono ?_); rintro e w' ⟨rfl, hb⟩) | (go_at_call 9; (with_reducible refine (all_any _).mono ?_); rintro e w' ⟨rfl, hb⟩)); (try dsimp only); replace hG := hG.trans hb; refine hK.out _ _ hG ?_; clear hK K hb; try simp only [Act.put, List.setIfInBounds_toArray, List.set_cons_zero, List.set_cons_succ]))
  refine wpG_done ?_
  clear k1 k2 k3 k4
  go_wp2
  have k1 : (A &&& (B ||| C) == (A &&& B) ||| (A &&& C)) = true := beq_of (set_and_or ..)
  have k2 : (A ||| (B &&& C) == (A ||| B) &&& (A ||| C)) = true := beq_of (set_or_and ..)
  refine wp_region_B hG (.take 0 (.take 1 (.take 2 (.take 5 (.take 6 (.take 7 (.run 3 false (.run 4 false (.run 8 false (.run 9 false (.take 10 (.take 11 (.take 12 (.take 13 (.take 14 (.take 17 (.take 18 (.take 19 (.run 15 false (.run 16 false (.run 20 false (.run 21 false (.take 22 (.take 23 .nil)))))))))))))))))))))))) (by kernel_rfl) (by kernel_rfl) ?_
  simp only [pickOps, nthOp]
  clear hG; intro wq hG
  repeat (first | (refine wpG_skip_take ?_ ?_; (focus rfl); try simp only [Act.put, List.setIfInBounds_toArray, List.set_cons_zero, List.set_cons_succ]) | (refine wpG_skip_run ?_ ?_; (focus rfl); try simp only [Act.put, List.setIfInBounds_toArray, List.set_cons_zero, List.set_cons_succ]) | (refine wpG_take ?_ ?_; (focus rfl); apply Exists.intro; refine ⟨fun w' hw' => ?_, ?_⟩; (focus (have hc := Gr.cells hw'; go_simp; (try rfl); done)); try simp only [Act.put, List.setIfInBounds_toArray, List.set_cons_zero, List.set_cons_succ]) | (refine wpG_run ?_ (fun K hK => ?_); (focus rfl); go_simp; (first | (go_at_call 6; (with_reducible refine (union_any _ _ _).mono ?_); rintro e w' ⟨rfl, hb⟩) | (go_at_call 7; (with_reducible refine (inter_any _ _ _).mono ?_); rintro e w' ⟨rfl, hb⟩) | (go_at_call 8; (with_reducible refine (complement_any _ _).mono ?_); rintro e w' ⟨rfl, hb⟩) | (go_at_call 10; (with_reducible refine (minus_any _ _ _).mono ?_); rintro e w' ⟨rfl, hb⟩) | (go_at_call 11; (with_reducible refine (within_any _ _ _).mono ?_); rintro e w' ⟨rfl, hb⟩) | (go_at_call 12; (with_reducible refine (count_any _ _).mono ?_); rintro e w' ⟨rfl, hb⟩) | (go_at_call 9; (with_reducible refine (all_any _).mono ?_); rintro e w' ⟨rfl, hb⟩)); (try dsimp only); replace hG := hG.trans hb; refine hK.out _ _ hG ?_; clear hK K hb; try simp only [Act.put, List.setIfInBounds_toArray, List.set_cons_zero, List.set_cons_succ]))
  refine wpG_done ?_
  clear k1 k2
  have hc := hG.cells
  go_wp2_with fail
  go_at_call 8
  clear hc
  refine (complement_any _ _).mono ?_; rintro e w4 ⟨rfl, hb⟩
  replace hG := hG.trans hb
  clear hb
  clear c_a0 c_a1 c_a2 c_a3 m_a0 m_a1 m_a2 m_a3 l_a
  clear c_b0 c_b1 c_b2 c_b3 m_b0 m_b1 m_b2 m_b3 l_b
  clear c_c0 c_c1 c_c2 c_c3 m_c0 m_c1 m_c2 m_c3 l_c
  clear c_u0 c_u1 c_u2 c_u3 m_u0 m_u1 m_u2 m_u3 l_u
  clear c_n0 c_n1 c_n2 c_n3 m_n0 m_n1 m_n2 m_n3 l_n
  go_wp2
  refine name_world (fun W5 hW => ?_)
  have hg5 := hG.trans (by rw [hW]; exact Gr.alloc _ _ : Gr w4 W5)
  have xm : boxAt W5 (w4.heap.size) [.int .u64 (wd (~~~A) 0), .int .u64 (wd (~~~A) 1), .int .u64 (wd (~~~A) 2), .int .u64 (wd (~~~A) 3)] := by
    subst hW; intro j u hj
    match j, hj with
    | 0, hj => simp at hj; subst hj; constructor <;> go_simp
    | 1, hj => simp at hj; subst hj; constructor <;> go_simp
    | 2, hj => simp at hj; subst hj; constructor <;> go_simp
    | 3, hj => simp at hj; subst hj; constructor <;> go_simp
  clear hW
  replace xa := xa.later hg5
  replace xb := xb.later hg5
  replace xu := xu.later hg5
  replace xn := xn.later hg5
  replace hgW := hgW.trans hg5
  clear hg5 hG xc
  have c_a0 := xa.cell 0 _ rfl
  have c_a1 := xa.cell 1 _ rfl
  have c_a2 := xa.cell 2 _ rfl
  have c_a3 := xa.cell 3 _ rfl
  have m_a0 := xa.mark 0 _ rfl
  have m_a1 := xa.mark 1 _ rfl
  have m_a2 := xa.mark 2 _ rfl
  have m_a3 := xa.mark 3 _ rfl
  have l_a := xa.lt (Nat.succ_pos _)
  have c_b0 := xb.cell 0 _ rfl
  have c_b1 := xb.cell 1 _ rfl
  have c_b2 := xb.cell 2 _ rfl
  have c_b3 := xb.cell 3 _ rfl
  have m_b0 := xb.mark 0 _ rfl
  have m_b1 := xb.mark 1 _ rfl
  have m_b2 := xb.mark 2 _ rfl
  have m_b3 := xb.mark 3 _ rfl
  have l_b := xb.lt (Nat.succ_pos _)
  have c_u0 := xu.cell 0 _ rfl
  have c_u1 := xu.cell 1 _ rfl
  have c_u2 := xu.cell 2 _ rfl
  have c_u3 := xu.cell 3 _ rfl
  have m_u0 := xu.mark 0 _ rfl
  have m_u1 := xu.mark 1 _ rfl
  have m_u2 := xu.mark 2 _ rfl
  have m_u3 := xu.mark 3 _ rfl
  have l_u := xu.lt (Nat.succ_pos _)
  have c_n0 := xn.cell 0 _ rfl
  have c_n1 := xn.cell 1 _ rfl
  have c_n2 := xn.cell 2 _ rfl
  have c_n3 := xn.cell 3 _ rfl
  have m_n0 := xn.mark 0 _ rfl
  have m_n1 := xn.mark 1 _ rfl
  have m_n2 := xn.mark 2 _ rfl
  have m_n3 := xn.mark 3 _ rfl
  have l_n := xn.lt (Nat.succ_pos _)
  have c_m0 := xm.cell 0 _ rfl
  have c_m1 := xm.cell 1 _ rfl
  have c_m2 := xm.cell 2 _ rfl
  have c_m3 := xm.cell 3 _ rfl
  have m_m0 := xm.mark 0 _ rfl
  have m_m1 := xm.mark 1 _ rfl
  have m_m2 := xm.mark 2 _ rfl
  have m_m3 := xm.mark 3 _ rfl
  have l_m := xm.lt (Nat.succ_pos _)
  have k1 : (~~~(A ||| B) == ~~~A &&& ~~~B) = true := beq_of (set_not_or ..)
  have k2 : (A ||| ~~~A == ~~~emptyS) = true := beq_of (set_or_not ..)
  have k3 : (A &&& ~~~A == emptyS) = true := beq_of (set_and_not ..)
  have k4 : (~~~(~~~A) == A) = true := beq_of (BitVec.not_not ..)
  refine wp_region_G (.take 0 (.take 2 (.take 3 (.run 1 false (.run 4 false (.run 5 false (.take 6 (.take 7 (.take 8 (.take 10 (.run 9 false (.take 11 (.take 12 (.take 13 (.take 14 (.take 15 (.run 16 false (.run 17 false (.take 18 (.take 19 (.take 20 (.take 21 (.take 22 (.take 24 (.run 23 false (.take 25 (.take 26 .nil))))))))))))))))))))))))))) (by kernel_rfl) (by kernel_rfl) ?_
  simp only [pickOps, nthOp]
  intro wq hG
  repeat (first | (refine wpG_skip_take ?_ ?_; (focus rfl); try simp only [Act.put, List.setIfInBounds_toArray, List.set_cons_zero, List.set_cons_succ]) | (refine wpG_skip_run ?_ ?_; (focus rfl); try simp only [Act.put, List.setIfInBounds_toArray, List.set_cons_zero, List.set_cons_succ]) | (refine wpG_take ?_ ?_; (focus rfl); apply Exists.intro; refine ⟨fun w' hw' => ?_, ?_⟩; (focus (have hc := Gr.cells hw'; go_simp; (try rfl); done)); try simp only [Act.put, List.setIfInBounds_toArray, List.set_cons_zero, List.set_cons_succ]) | (refine wpG_run ?_ (fun K hK => ?_); (focus rfl); go_simp; (first | (go_at_call 6; (with_reducible refine (union_any _ _ _).mono ?_); rintro e w' ⟨rfl, hb⟩) | (go_at_call 7; (with_reducible refine (inter_any _ _ _).mono ?_); rintro e w' ⟨rfl, hb⟩) | (go_at_call 8; (with_reducible refine (complement_any _ _).mono ?_); rintro e w' ⟨rfl, hb⟩) | (go_at_call 10; (with_reducible refine (minus_any _ _ _).mono ?_); rintro e w' ⟨rfl, hb⟩) | (go_at_call 11; (with_reducible refine (within_any _ _ _).mono ?_); rintro e w' ⟨rfl, hb⟩) | (go_at_call 12; (with_reducible refine (count_any _ _).mono ?_); rintro e w' ⟨rfl, hb⟩) | (go_at_call 9; (with_reducible refine (all_any _).mono ?_); rintro e w' ⟨rfl, hb⟩)); (try dsimp only); replace hG := hG.trans hb; refine hK.out _ _ hG ?_; clear hK K hb; try simp only [Act.put, List.setIfInBounds_toArray, List.set_cons_zero, List.set_cons_succ]))
  refine wpG_done ?_
  clear k1 k2 k3 k4
  go_wp2
  have k1 : (A &&& B &&& A == A &&& B) = true := beq_of (set_ext _ _ fun k _ => by simp only [BitVec.getLsbD_and]; cases A.getLsbD k <;> cases B.getLsbD k <;> rfl)
  have k2 : (A &&& (A ||| B) == A) = true := beq_of (set_ext _ _ fun k _ => by simp only [BitVec.getLsbD_and, BitVec.getLsbD_or]; cases A.getLsbD k <;> cases B.getLsbD k <;> rfl)
  have k3 := set_within A B
  refine wp_region_B hG (.take 0 (.take 1 (.take 3 (.take 4 (.run 2 false (.run 5 false (.run 6 false (.take 7 (.take 8 (.take 9 (.take 10 (.run 11 false (.take 12 (.take 13 (.take 14 (.take 15 (.take 16 (.run 17 false (.take 18 (.take 19 (.take 20 (.take 21 (.take 22 (.take 24 (.take 25 (.take 26 (.run 23 false (.take 27 (.take 28 .nil))))))))))))))))))))))))))))) (by kernel_rfl) (by kernel_rfl) ?_
  simp only [pickOps, nthOp]
  clear hG; intro wq hG
  repeat (first | (refine wpG_skip_take ?_ ?_; (focus rfl); try simp only [Act.put, List.setIfInBounds_toArray, List.set_cons_zero, List.set_cons_succ]) | (refine wpG_skip_run ?_ ?_; (focus rfl); try simp only [Act.put, List.setIfInBounds_toArray, List.set_cons_zero, List.set_cons_succ]) | (refine wpG_take ?_ ?_; (focus rfl); apply Exists.intro; refine ⟨fun w' hw' => ?_, ?_⟩; (focus (have hc := Gr.cells hw'; go_simp; (try rfl); done)); try simp only [Act.put, List.setIfInBounds_toArray, List.set_cons_zero, List.set_cons_succ]) | (refine wpG_run ?_ (fun K hK => ?_); (focus rfl); go_simp; (first | (go_at_call 6; (with_reducible refine (union_any _ _ _).mono ?_); rintro e w' ⟨rfl, hb⟩) | (go_at_call 7; (with_reducible refine (inter_any _ _ _).mono ?_); rintro e w' ⟨rfl, hb⟩) | (go_at_call 8; (with_reducible refine (complement_any _ _).mono ?_); rintro e w' ⟨rfl, hb⟩) | (go_at_call 10; (with_reducible refine (minus_any _ _ _).mono ?_); rintro e w' ⟨rfl, hb⟩) | (go_at_call 11; (with_reducible refine (within_any _ _ _).mono ?_); rintro e w' ⟨rfl, hb⟩) | (go_at_call 12; (with_reducible refine (count_any _ _).mono ?_); rintro e w' ⟨rfl, hb⟩) | (go_at_call 9; (with_reducible refine (all_any _).mono ?_); rintro e w' ⟨rfl, hb⟩)); (try dsimp only); replace hG := hG.trans hb; refine hK.out _ _ hG ?_; clear hK K hb; try simp only [Act.put, List.setIfInBounds_toArray, List.set_cons_zero, List.set_cons_succ]))
  refine wpG_done ?_
  clear k1 k2 k3
  go_wp2
  obtain ⟨cu, hu⟩ : ∃ c : Int, (card (A ||| B) : Int) = c := ⟨_, rfl⟩
  obtain ⟨cn, hn⟩ : ∃ c : Int, (card (A &&& B) : Int) = c := ⟨_, rfl⟩
  obtain ⟨ca, ha⟩ : ∃ c : Int, (card A : Int) = c := ⟨_, rfl⟩
  obtain ⟨cb, hbb⟩ : ∃ c : Int, (card B : Int) = c := ⟨_, rfl⟩
  obtain ⟨cm, hm⟩ : ∃ c : Int, (card (~~~A) : Int) = c := ⟨_, rfl⟩
  have k1 : (cu + cn == ca + cb) = true := beq_of (by have := card_or_and A B; omega)
  have k2 : (ca + cm == 256) = true := beq_of (by have := card_not A; omega)
  have b1 : 0 ≤ cu ∧ cu ≤ 256 := by have := card_le (A ||| B); omega
  have b2 : 0 ≤ cn ∧ cn ≤ 256 := by have := card_le (A &&& B); omega
  have b3 : 0 ≤ ca ∧ ca ≤ 256 := by have := card_le A; omega
  have b4 : 0 ≤ cb ∧ cb ≤ 256 := by have := card_le B; omega
  have b5 : 0 ≤ cm ∧ cm ≤ 256 := by have := card_le (~~~A); omega
  have e1 : IntKind.i64.wrap (cu + cn) = cu + cn := IntWalk.i64_in _ (by omega)
  have e2 : IntKind.i64.wrap (ca + cb) = ca + cb := IntWalk.i64_in _ (by omega)
  have e3 : IntKind.i64.wrap (ca + cm) = ca + cm := IntWalk.i64_in _ (by omega)
  have Hu := Lib.hid hu
  have Hn := Lib.hid hn
  have Ha := Lib.hid ha
  have Hb := Lib.hid hbb
  have Hm := Lib.hid hm
  clear hu hn ha hbb hm
  refine wp_region_B hG (.take 0 (.take 2 (.take 5 (.take 7 (.run 1 false (.run 3 false (.take 4 (.run 6 false (.run 8 false (.take 9 (.take 10 (.take 11 (.take 12 (.take 14 (.run 13 false (.run 15 false (.take 16 (.take 17 (.take 18 (.take 19 (.run 20 false (.take 21 (.run 22 true .nil))))))))))))))))))))))) (by kernel_rfl) (by kernel_rfl) ?_
  simp only [pickOps, nthOp]
  clear hG; intro wq hG
  repeat (first | (refine wpG_skip_take ?_ ?_; (focus rfl); try simp only [Act.put, List.setIfInBounds_toArray, List.set_cons_zero, List.set_cons_succ]) | (refine wpG_skip_run ?_ ?_; (focus rfl); try simp only [Act.put, List.setIfInBounds_toArray, List.set_cons_zero, List.set_cons_succ]) | (refine wpG_take ?_ ?_; (focus rfl); apply Exists.intro; refine ⟨fun w' hw' => ?_, ?_⟩; (focus (have hc := Gr.cells hw'; go_simp; (try rfl); done)); try simp only [Act.put, List.setIfInBounds_toArray, List.set_cons_zero, List.set_cons_succ]) | (refine wpG_run ?_ (fun K hK => ?_); (focus rfl); go_simp; (first | (go_at_call 12; (with_reducible refine (count_at _ _ _ Hu.out).mono ?_); rintro e w' ⟨rfl, hb⟩) | (go_at_call 12; (with_reducible refine (count_at _ _ _ Hn.out).mono ?_); rintro e w' ⟨rfl, hb⟩) | (go_at_call 12; (with_reducible refine (count_at _ _ _ Ha.out).mono ?_); rintro e w' ⟨rfl, hb⟩) | (go_at_call 12; (with_reducible refine (count_at _ _ _ Hb.out).mono ?_); rintro e w' ⟨rfl, hb⟩) | (go_at_call 12; (with_reducible refine (count_at _ _ _ Hm.out).mono ?_); rintro e w' ⟨rfl, hb⟩) | (go_at_call 13; (with_reducible refine (wakes_any _).mono ?_); rintro e w' ⟨rfl, hb⟩)); (try dsimp only); replace hG := hG.trans hb; refine hK.out _ _ hG ?_; clear hK K hb; try simp only [Act.put, List.setIfInBounds_toArray, List.set_cons_zero, List.set_cons_succ]))
  refine wpG_last ?_ (fun K hK => ?_); (focus rfl)
  have hc := hG.cells
  have hm := hG.marks
  go_simp
  refine hK.out _ _ ?_
  try simp only [Act.put, List.setIfInBounds_toArray, List.set_cons_zero, List.set_cons_succ]
  clear hK K hc hm
  refine wpG_done ?_
  go_wp2
  go_ret
  exact ⟨rfl, hgW.trans hG⟩

end Go.Proofs.Ytambkpgcccjhmaa
