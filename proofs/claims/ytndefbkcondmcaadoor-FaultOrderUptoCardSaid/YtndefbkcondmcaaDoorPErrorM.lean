/- The Error methods of fault's wrappers (numbers below a hundred), fault.Text; wakes of bolterlaw2. No condition but the errors' variables. -/
import Derived.Test.YtndefbkcondmcaaDoorPMade
import Derived.Test.YtndefbkcondmcaaDoorPEqFault
namespace Go.Proofs.YtndefbkcondmcaaDoor
open Go Go.RowKit

theorem es_error_m (v : Value) (w : World) : (Go.method 265 82 v "Error").run Tryd.prog w = .ok (88, v) w := by kernel_rfl
theorem placed_error_m (v : Value) (w : World) : (Go.method 265 54 v "Error").run Tryd.prog w = .ok (58, v) w := by kernel_rfl
theorem staged_error_m (v : Value) (w : World) : (Go.method 265 68 v "Error").run Tryd.prog w = .ok (86, v) w := by kernel_rfl
set_option maxRecDepth 100000 in
theorem es_error (a : Addr) (t : List UInt8) (w : World) (h : w.cell? a = some (.string (st t))) : Calls Tryd.prog 88 #[.pointer (some a)] w fun e w' => e = .returned (.string (st t)) ∧ Gr w w' := by
  obtain ⟨bl, off, sp⟩ := a
  have hb : bl < w.heap.size := World.block_lt_of_cell? w _ h
  go_enter Tryd.func88, Tryd.ntmps88
  go_wp2_with fail
  go_ret
  exact ⟨rfl, Gr.refl _⟩
set_option maxRecDepth 100000 in
set_option maxHeartbeats 4000000 in
theorem placed_error (b : Nat) (a : Addr) (n : Nat) (t : List UInt8) (w : World) (h0 : w.cell? ⟨b, 0, none⟩ = some (.iface 82 (.pointer (some a)))) (h1 : w.cell? ⟨b, 1, none⟩ = some (.int .i64 (n : Int))) (hn : n < 100) (hE : ∀ w', Gr w w' → Calls Tryd.prog 88 #[.pointer (some a)] w' fun e w'' => e = .returned (.string (st t)) ∧ Gr w' w'') (ht : t.length ≤ 1000) :
    Calls Tryd.prog 58 #[.pointer (some ⟨b, 0, none⟩)] w fun e w' => e = .returned (.string (st ([97, 116, 32] ++ Lib.decDigits n ++ [58, 32] ++ t))) ∧ Gr w w' := by
  have hb : b < w.heap.size := World.block_lt_of_cell? w _ h0
  have hD : (Lib.decDigits n).length ≤ 20 := by
    have := itoa_len (n : Int) (by omega) (by omega)
    unfold Lib.itoa at this
    rw [if_neg (by omega), Int.toNat_natCast] at this
    by_cases h10 : n < 10
    · rw [Lib.decDigits_one h10]; simp
    · rw [Lib.decDigits_two h10 hn]; simp
  have hI : ∀ w', Calls Tryd.prog 60 #[.int .i64 (n : Int)] w' fun e w'' => e = .returned (.string (st (Lib.decDigits n))) ∧ Gr w' w'' := fun w' => by
    refine (Tryd.strconv_Itoa_small n hn w').mono ?_
    rintro e w'' ⟨rfl, rfl⟩
    exact ⟨rfl, Gr.refl _⟩
  obtain ⟨D, hDD⟩ : ∃ D, Lib.decDigits n = D := ⟨_, rfl⟩
  rw [hDD] at hI hD ⊢
  have HI := Lib.hid hI
  have HE := Lib.hid hE
  have mE := es_error_m
  have cc1 : ∀ w', (Op.stringOp .add { data := #[97, 116, 32] } (st D)).run Tryd.prog w' = .ok (.string (st ([97, 116, 32] ++ D))) w' := fun w' => run_cat w' [97, 116, 32] D (by simp; omega)
  have cc2 : ∀ w', (Op.stringOp .add (st ([97, 116, 32] ++ D)) { data := #[58, 32] }).run Tryd.prog w' = .ok (.string (st ([97, 116, 32] ++ D ++ [58, 32]))) w' := fun w' => run_cat w' ([97, 116, 32] ++ D) [58, 32] (by simp; omega)
  have cc3 : ∀ w', (Op.stringOp .add (st ([97, 116, 32] ++ D ++ [58, 32])) (st t)).run Tryd.prog w' = .ok (.string (st ([97, 116, 32] ++ D ++ [58, 32] ++ t))) w' := fun w' => run_cat w' ([97, 116, 32] ++ D ++ [58, 32]) t (by simp; omega)
  obtain ⟨c1, hc1⟩ : ∃ c1, [97, 116, 32] ++ D = c1 := ⟨_, rfl⟩
  rw [hc1] at cc1 cc2 cc3 ⊢
  obtain ⟨c2, hc2⟩ : ∃ c2, c1 ++ [58, 32] = c2 := ⟨_, rfl⟩
  rw [hc2] at cc2 cc3 ⊢
  obtain ⟨c3, hc3⟩ : ∃ c3, c2 ++ t = c3 := ⟨_, rfl⟩
  rw [hc3] at cc3 ⊢
  clear hI hE hDD hc1 hc2 hc3
  go_enter Tryd.func58, Tryd.ntmps58
  go_wp2_with fail
  refine wp_region_G (.take 0 (.take 1 (.take 2 (.take 3 (.take 7 (.take 8 (.take 9 (.take 10 (.run 4 false (.take 5 (.take 6 (.run 11 false (.take 12 (.run 13 true .nil)))))))))))))) (by kernel_rfl) (by kernel_rfl) ?_
  simp only [pickOps, nthOp]
  intro wq hG
  repeat (first | (refine wpG_skip_take ?_ ?_; (focus rfl); try simp only [Act.put, List.setIfInBounds_toArray, List.set_cons_zero, List.set_cons_succ]) | (refine wpG_skip_run ?_ ?_; (focus rfl); try simp only [Act.put, List.setIfInBounds_toArray, List.set_cons_zero, List.set_cons_succ]) | (refine wpG_take ?_ ?_; (focus rfl); apply Exists.intro; refine ⟨fun w' hw' => ?_, ?_⟩; (focus (have hc := Gr.cells hw'; go_simp; (try rfl); done)); try simp only [Act.put, List.setIfInBounds_toArray, List.set_cons_zero, List.set_cons_succ]) | (refine wpG_run ?_ (fun K hK => ?_); (focus rfl); go_simp; (first | (go_at_call 60; (with_reducible refine (HI.out _).mono ?_); rintro e w' ⟨rfl, hb⟩) | (go_at_call 88; (with_reducible refine (HE.out _ hG).mono ?_); rintro e w' ⟨rfl, hb⟩)); (try dsimp only); replace hG := hG.trans hb; refine hK.out _ _ hG ?_; clear hK K hb; try simp only [Act.put, List.setIfInBounds_toArray, List.set_cons_zero, List.set_cons_succ]))
  refine wpG_last ?_ (fun K hK => ?_); (focus rfl)
  have hc := hG.cells
  have hm := hG.marks
  go_simp
  refine hK.out _ _ ?_
  try simp only [Act.put, List.setIfInBounds_toArray, List.set_cons_zero, List.set_cons_succ]
  clear hK K hc hm
  refine wpG_done ?_
  go_wp2
  go_ret
  exact ⟨rfl, hG⟩
set_option maxRecDepth 100000 in
set_option maxHeartbeats 4000000 in
theorem staged_error (b : Nat) (a : Addr) (n : Nat) (t : List UInt8) (w : World) (h0 : w.cell? ⟨b, 0, none⟩ = some (.iface 54 (.pointer (some a)))) (h1 : w.cell? ⟨b, 1, none⟩ = some (.int .i64 (n : Int))) (hn : n < 100) (hE : ∀ w', Gr w w' → Calls Tryd.prog 58 #[.pointer (some a)] w' fun e w'' => e = .returned (.string (st t)) ∧ Gr w' w'') (ht : t.length ≤ 1000) :
    Calls Tryd.prog 86 #[.pointer (some ⟨b, 0, none⟩)] w fun e w' => e = .returned (.string (st ([115, 116, 97, 103, 101, 32] ++ Lib.decDigits n ++ [58, 32] ++ t))) ∧ Gr w w' := by
  have hb : b < w.heap.size := World.block_lt_of_cell? w _ h0
  have hD : (Lib.decDigits n).length ≤ 20 := by
    have := itoa_len (n : Int) (by omega) (by omega)
    unfold Lib.itoa at this
    rw [if_neg (by omega), Int.toNat_natCast] at this
    by_cases h10 : n < 10
    · rw [Lib.decDigits_one h10]; simp
    · rw [Lib.decDigits_two h10 hn]; simp
  have hI : ∀ w', Calls Tryd.prog 60 #[.int .i64 (n : Int)] w' fun e w'' => e = .returned (.string (st (Lib.decDigits n))) ∧ Gr w' w'' := fun w' => by
    refine (Tryd.strconv_Itoa_small n hn w').mono ?_
    rintro e w'' ⟨rfl, rfl⟩
    exact ⟨rfl, Gr.refl _⟩
  obtain ⟨D, hDD⟩ : ∃ D, Lib.decDigits n = D := ⟨_, rfl⟩
  rw [hDD] at hI hD ⊢
  have HI := Lib.hid hI
  have HE := Lib.hid hE
  have mE := placed_error_m
  have cc1 : ∀ w', (Op.stringOp .add { data := #[115, 116, 97, 103, 101, 32] } (st D)).run Tryd.prog w' = .ok (.string (st ([115, 116, 97, 103, 101, 32] ++ D))) w' := fun w' => run_cat w' [115, 116, 97, 103, 101, 32] D (by simp; omega)
  have cc2 : ∀ w', (Op.stringOp .add (st ([115, 116, 97, 103, 101, 32] ++ D)) { data := #[58, 32] }).run Tryd.prog w' = .ok (.string (st ([115, 116, 97, 103, 101, 32] ++ D ++ [58, 32]))) w' := fun w' => run_cat w' ([115, 116, 97, 103, 101, 32] ++ D) [58, 32] (by simp; omega)
  have cc3 : ∀ w', (Op.stringOp .add (st ([115, 116, 97, 103, 101, 32] ++ D ++ [58, 32])) (st t)).run Tryd.prog w' = .ok (.string (st ([115, 116, 97, 103, 101, 32] ++ D ++ [58, 32] ++ t))) w' := fun w' => run_cat w' ([115, 116, 97, 103, 101, 32] ++ D ++ [58, 32]) t (by simp; omega)
  obtain ⟨c1, hc1⟩ : ∃ c1, [115, 116, 97, 103, 101, 32] ++ D = c1 := ⟨_, rfl⟩
  rw [hc1] at cc1 cc2 cc3 ⊢
  obtain ⟨c2, hc2⟩ : ∃ c2, c1 ++ [58, 32] = c2 := ⟨_, rfl⟩
  rw [hc2] at cc2 cc3 ⊢
  obtain ⟨c3, hc3⟩ : ∃ c3, c2 ++ t = c3 := ⟨_, rfl⟩
  rw [hc3] at cc3 ⊢
  clear hI hE hDD hc1 hc2 hc3
  go_enter Tryd.func86, Tryd.ntmps86
  go_wp2_with fail
  refine wp_region_G (.take 0 (.take 1 (.take 2 (.take 3 (.take 7 (.take 8 (.take 9 (.take 10 (.run 4 false (.take 5 (.take 6 (.run 11 false (.take 12 (.run 13 true .nil)))))))))))))) (by kernel_rfl) (by kernel_rfl) ?_
  simp only [pickOps, nthOp]
  intro wq hG
  repeat (first | (refine wpG_skip_take ?_ ?_; (focus rfl); try simp only [Act.put, List.setIfInBounds_toArray, List.set_cons_zero, List.set_cons_succ]) | (refine wpG_skip_run ?_ ?_; (focus rfl); try simp only [Act.put, List.setIfInBounds_toArray, List.set_cons_zero, List.set_cons_succ]) | (refine wpG_take ?_ ?_; (focus rfl); apply Exists.intro; refine ⟨fun w' hw' => ?_, ?_⟩; (focus (have hc := Gr.cells hw'; go_simp; (try rfl); done)); try simp only [Act.put, List.setIfInBounds_toArray, List.set_cons_zero, List.set_cons_succ]) | (refine wpG_run ?_ (fun K hK => ?_); (focus rfl); go_simp; (first | (go_at_call 60; (with_reducible refine (HI.out _).mono ?_); rintro e w' ⟨rfl, hb⟩) | (go_at_call 58; (with_reducible refine (HE.out _ hG).mono ?_); rintro e w' ⟨rfl, hb⟩)); (try dsimp only); replace hG := hG.trans hb; refine hK.out _ _ hG ?_; clear hK K hb; try simp only [Act.put, List.setIfInBounds_toArray, List.set_cons_zero, List.set_cons_succ]))
  refine wpG_last ?_ (fun K hK => ?_); (focus rfl)
  have hc := hG.cells
  have hm := hG.marks
  go_simp
  refine hK.out _ _ ?_
  try simp only [Act.put, List.setIfInBounds_toArray, List.set_cons_zero, List.set_cons_succ]
  clear hK K hc hm
  refine wpG_done ?_
  go_wp2
  go_ret
  exact ⟨rfl, hG⟩

end Go.Proofs.YtndefbkcondmcaaDoor
