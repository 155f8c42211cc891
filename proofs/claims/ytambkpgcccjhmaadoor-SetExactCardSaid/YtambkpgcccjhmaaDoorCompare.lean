/- Compare. No condition but the table's. -/
import Derived.Test.YtambkpgcccjhmaaDoorLeast
import Derived.Test.YtambkpgcccjhmaaDoorWakes
namespace Go.Proofs.YtambkpgcccjhmaaDoor
open Go Go.RowKit

theorem compare_eq (A : BitVec 256) (w : World) : Calls Tryd.prog 6 #[.agg #[.int .u64 (wd A 0), .int .u64 (wd A 1), .int .u64 (wd A 2), .int .u64 (wd A 3)], .agg #[.int .u64 (wd A 0), .int .u64 (wd A 1), .int .u64 (wd A 2), .int .u64 (wd A 3)]] w fun e w' => e = .returned (.int .i64 0) ∧ Gr w w' := by
  go_enter Tryd.func6, Tryd.ntmps6
  go_wp2
  go_ret
  exact ⟨rfl, (Gr.alloc _ _).trans (Gr.alloc _ _)⟩

set_option maxHeartbeats 1000000 in
theorem compare_ne (A B : BitVec 256) (k : Nat) (r : Bool) (c : Int) (HC : Hid (c = if r = true then -1 else 1)) (h : IsLow (A &&& ~~~B ||| B &&& ~~~A) k) (hr : A.getLsbD k = r) (hne : (A == B) = false) (w : World) (hT : Tab w) :
    Calls Tryd.prog 6 #[.agg #[.int .u64 (wd A 0), .int .u64 (wd A 1), .int .u64 (wd A 2), .int .u64 (wd A 3)], .agg #[.int .u64 (wd B 0), .int .u64 (wd B 1), .int .u64 (wd B 2), .int .u64 (wd B 3)]] w fun e w' => e = .returned (.int .i64 c) ∧ Gr w w' := by
  have hk := h.1
  have hkI : (k : Int) < 256 := by omega
  have HL := Lib.hid h
  have HT := Lib.hid hT
  have HR := Lib.hid hr
  have HK := Lib.hid hk
  clear h hT hr hk
  go_enter Tryd.func6, Tryd.ntmps6
  go_wp2
  refine wp_region_G (.take 0 (.take 1 (.take 3 (.take 4 (.run 2 false (.run 5 false (.run 6 false (.run 7 false (.take 8 (.take 9 (.take 10 (.run 11 false (.run 12 true .nil))))))))))))) (by kernel_rfl) (by kernel_rfl) ?_
  simp only [pickOps, nthOp]
  intro wq hG
  repeat (first | (refine wpG_skip_take ?_ ?_; (focus rfl); try simp only [Act.put, List.setIfInBounds_toArray, List.set_cons_zero, List.set_cons_succ]) | (refine wpG_skip_run ?_ ?_; (focus rfl); try simp only [Act.put, List.setIfInBounds_toArray, List.set_cons_zero, List.set_cons_succ]) | (refine wpG_take ?_ ?_; (focus rfl); apply Exists.intro; refine ⟨fun w' hw' => ?_, ?_⟩; (focus (have hc := Gr.cells hw'; go_simp; (try rfl); done)); try simp only [Act.put, List.setIfInBounds_toArray, List.set_cons_zero, List.set_cons_succ]) | (refine wpG_run ?_ (fun K hK => ?_); (focus rfl); go_simp; (first | (go_at_call 28; (with_reducible refine (minus_any _ _ _).mono ?_); rintro e w' ⟨rfl, hb⟩) | (go_at_call 8; (with_reducible refine (union_any _ _ _).mono ?_); rintro e w' ⟨rfl, hb⟩) | (go_at_call 13; (with_reducible refine (least_any _ _ HL.out _ (HT.out.later (((Gr.alloc _ _).trans (Gr.alloc _ _)).trans hG))).mono ?_); rintro e w' ⟨rfl, hb⟩)); (try dsimp only); replace hG := hG.trans hb; refine hK.out _ _ hG ?_; clear hK K hb; try simp only [Act.put, List.setIfInBounds_toArray, List.set_cons_zero, List.set_cons_succ]))
  refine wpG_run rfl (fun K hK => ?_)
  go_simp
  refine hK.out _ _ hG ?_
  clear hK K
  try simp only [Act.put, List.setIfInBounds_toArray, List.set_cons_zero, List.set_cons_succ]
  refine wpG_last ?_ (fun K hK => ?_); (focus rfl)
  have hc := hG.cells
  have hm := hG.marks
  go_simp
  refine hK.out _ _ ?_
  try simp only [Act.put, List.setIfInBounds_toArray, List.set_cons_zero, List.set_cons_succ]
  clear hK K hc hm
  refine wpG_done ?_
  have hg := ((Gr.alloc w (.cells #[.int .u64 (wd A 0), .int .u64 (wd A 1), .int .u64 (wd A 2), .int .u64 (wd A 3)] 24)).trans (Gr.alloc _ (.cells #[.int .u64 (wd B 0), .int .u64 (wd B 1), .int .u64 (wd B 2), .int .u64 (wd B 3)] 24))).trans hG
  have hc := hG.cells
  clear hne hG
  have HG := Lib.hid hg
  clear hg
  go_wp2_with fail
  clear hc
  go_at_call 12
  refine (has_of A k _ _ HK.out HR.out).mono ?_; rintro e w' ⟨rfl, hb⟩
  clear hkI
  cases r
  · go_wp2
    go_ret
    exact ⟨by rw [HC.out]; rfl, HG.out.trans hb⟩
  · go_wp2
    go_ret
    exact ⟨by rw [HC.out]; rfl, HG.out.trans hb⟩

theorem compare_any (A B : BitVec 256) (c : Int) (h : IsCmp A B c) (w : World) (hT : Tab w) : Calls Tryd.prog 6 #[.agg #[.int .u64 (wd A 0), .int .u64 (wd A 1), .int .u64 (wd A 2), .int .u64 (wd A 3)], .agg #[.int .u64 (wd B 0), .int .u64 (wd B 1), .int .u64 (wd B 2), .int .u64 (wd B 3)]] w fun e w' => e = .returned (.int .i64 c) ∧ Gr w w' := by
  by_cases hab : A = B
  · subst hab
    have : c = 0 := h.zero.2 rfl
    subst this
    exact compare_eq A w
  · obtain ⟨k, hk⟩ := low_of_ne A B hab
    have := h.one (cmp_of_low A B k hk)
    rw [this]
    exact compare_ne A B k _ _ (Lib.hid rfl) hk rfl (by simpa using hab) w hT

end Go.Proofs.YtambkpgcccjhmaaDoor
