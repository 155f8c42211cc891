/- bolterref3: hex, plain, Byte. No condition. -/
import Derived.Test.YtihjmeoklbmnmaaDoorText
namespace Go.Proofs.YtihjmeoklbmnmaaDoor
open Go Go.RowKit

set_option maxRecDepth 100000 in
set_option maxHeartbeats 4000000 in
theorem hex_any (n q r : Nat) (w : World) (hn : (n : Int) < 256) (hq : (n : Int) / 16 = (q : Int)) (hr : (n : Int) % 16 = (r : Int)) :
    Calls Tryd.prog 29 #[.int .u8 (n : Int)] w fun e w' => e = .returned (.string (st [92, 120, hexD q, hexD r])) ∧ Gr w w' := by
  have q16 : q < 16 := by omega
  have r16 : r < 16 := by omega
  have ix : ∀ (q : Nat) (w' : World), q < 16 → (Instr.index 9 (.string { data := #[48, 49, 50, 51, 52, 53, 54, 55, 56, 57, 97, 98, 99, 100, 101, 102] }) (.int .u8 (q : Int))).run Tryd.prog w' = .ok (.int .u8 ((hexD q).toNat : Int)) w' := fun q w' hq => by
    have hk : ∀ q : Fin 16, ([48, 49, 50, 51, 52, 53, 54, 55, 56, 57, 97, 98, 99, 100, 101, 102] : List UInt8)[q.1]? = some (hexD q.1) := by decide
    exact run_at (P := Tryd.prog) w' 9 [48, 49, 50, 51, 52, 53, 54, 55, 56, 57, 97, 98, 99, 100, 101, 102] q (hexD q) .u8 Tryd.underlying9 (hk ⟨q, hq⟩)
  have ixq := fun w' => ix q w' q16
  have ixr := fun w' => ix r w' r16
  have eq : (n : Int).tdiv 16 = (q : Int) := by rw [Int.tdiv_eq_ediv_of_nonneg (by omega)]; exact hq
  have er : (n : Int).tmod 16 = (r : Int) := by rw [Int.tmod_eq_emod_of_nonneg (by omega)]; exact hr
  have ewq : IntKind.u8.wrap (q : Int) = (q : Int) := by rw [IntKind.wrap_u8]; omega
  have ewr : IntKind.u8.wrap (r : Int) = (r : Int) := by rw [IntKind.wrap_u8]; omega
  have cv : ∀ w' : World, (convert 46 9 (.slice (some ⟨w'.heap.size, 0, none⟩) 4 4)).run Tryd.prog (w'.alloc (.cells #[.int .u8 92, .int .u8 120, .int .u8 ((hexD q).toNat : Int), .int .u8 ((hexD r).toNat : Int)] 5)).drew = .ok (.string (st [92, 120, hexD q, hexD r])) (w'.alloc (.cells #[.int .u8 92, .int .u8 120, .int .u8 ((hexD q).toNat : Int), .int .u8 ((hexD r).toNat : Int)] 5)).drew := fun w' =>
    conv_bytes (P := Tryd.prog) _ 46 9 5 ⟨w'.heap.size, 0, none⟩ 4 4 [92, 120, hexD q, hexD r] Tryd.underlying46 Tryd.underlying5 Tryd.underlying9 rfl (fun j v hj => by
      rw [addr_add0]
      match j, hj with
      | 0, hj => simp [vB] at hj; subst hj; simp
      | 1, hj => simp [vB] at hj; subst hj; simp
      | 2, hj => simp [vB] at hj; subst hj; simp
      | 3, hj => simp [vB] at hj; subst hj; simp)
  clear q16 r16 ix
  go_enter Tryd.func29, Tryd.ntmps29
  go_wp2_with fail
  go_region
  go_wp2
  go_ret
  exact ⟨rfl, (Gr.alloc _ _).trans (Gr.drew _)⟩

set_option maxRecDepth 100000 in
theorem plain_10 (w : World) : Calls Tryd.prog 28 #[.int .u8 10] w fun e w' => e = .returned (.tuple #[.string (st [92, 110]), .bool true]) ∧ Gr w w' := by
  go_enter Tryd.func28, Tryd.ntmps28
  go_wp2_with fail
  refine bodyPost_ret (v := .tuple #[.string (st [92, 110]), .bool true]) (by simp [results, Tryd.results28, go_sem]; rfl) rfl ⟨rfl, Gr.refl _⟩
set_option maxRecDepth 100000 in
theorem plain_9 (w : World) : Calls Tryd.prog 28 #[.int .u8 9] w fun e w' => e = .returned (.tuple #[.string (st [92, 116]), .bool true]) ∧ Gr w w' := by
  go_enter Tryd.func28, Tryd.ntmps28
  go_wp2_with fail
  refine bodyPost_ret (v := .tuple #[.string (st [92, 116]), .bool true]) (by simp [results, Tryd.results28, go_sem]; rfl) rfl ⟨rfl, Gr.refl _⟩
set_option maxRecDepth 100000 in
theorem plain_13 (w : World) : Calls Tryd.prog 28 #[.int .u8 13] w fun e w' => e = .returned (.tuple #[.string (st [92, 114]), .bool true]) ∧ Gr w w' := by
  go_enter Tryd.func28, Tryd.ntmps28
  go_wp2_with fail
  refine bodyPost_ret (v := .tuple #[.string (st [92, 114]), .bool true]) (by simp [results, Tryd.results28, go_sem]; rfl) rfl ⟨rfl, Gr.refl _⟩
set_option maxRecDepth 100000 in
theorem plain_no (n : Nat) (w : World) (e10 : ((n : Int) == 10) = false) (e9 : ((n : Int) == 9) = false) (e13 : ((n : Int) == 13) = false) : Calls Tryd.prog 28 #[.int .u8 (n : Int)] w fun e w' => e = .returned (.tuple #[.string { data := #[] }, .bool false]) ∧ Gr w w' := by
  go_enter Tryd.func28, Tryd.ntmps28
  go_wp2_with fail
  refine bodyPost_ret (v := .tuple #[.string { data := #[] }, .bool false]) (by simp [results, Tryd.results28, go_sem]) rfl ⟨rfl, Gr.refl _⟩
theorem conv_one {P : Program} (w : World) (src dst e : TypeId) (n : Nat) (hs : P.underlying src = some (.slice e)) (he : P.underlying e = some (.int .u8)) (hd : P.underlying dst = some .string) (hn : n < 256) :
    (convert src dst (.slice (some ⟨w.heap.size, 0, none⟩) 1 1)).run P (w.alloc (.cells #[.int .u8 (n : Int)] e)) = .ok (.string (st [UInt8.ofNat n])) (w.alloc (.cells #[.int .u8 (n : Int)] e)) :=
  conv_bytes (P := P) _ src dst e ⟨w.heap.size, 0, none⟩ 1 1 [UInt8.ofNat n] hs he hd rfl (fun j v hj => by
    rw [addr_add0]
    match j, hj with
    | 0, hj =>
      simp only [List.map_cons, List.map_nil, List.getElem?_cons_zero, Option.some.injEq] at hj; subst hj
      unfold vB; rw [UInt8.toNat_ofNat_of_lt' hn]; simp)

set_option maxRecDepth 100000 in
theorem byte_10 (w : World) : Calls Tryd.prog 24 #[.int .u8 10] w fun e w' => e = .returned (.string (st [92, 110])) ∧ Gr w w' := by
  go_enter Tryd.func24, Tryd.ntmps24
  go_wp2_with (go_at_call 28; (with_reducible refine (plain_10 _).mono ?_); rintro e w1 ⟨rfl, hb⟩)
  go_ret
  exact ⟨rfl, hb⟩
set_option maxRecDepth 100000 in
theorem byte_9 (w : World) : Calls Tryd.prog 24 #[.int .u8 9] w fun e w' => e = .returned (.string (st [92, 116])) ∧ Gr w w' := by
  go_enter Tryd.func24, Tryd.ntmps24
  go_wp2_with (go_at_call 28; (with_reducible refine (plain_9 _).mono ?_); rintro e w1 ⟨rfl, hb⟩)
  go_ret
  exact ⟨rfl, hb⟩
set_option maxRecDepth 100000 in
theorem byte_13 (w : World) : Calls Tryd.prog 24 #[.int .u8 13] w fun e w' => e = .returned (.string (st [92, 114])) ∧ Gr w w' := by
  go_enter Tryd.func24, Tryd.ntmps24
  go_wp2_with (go_at_call 28; (with_reducible refine (plain_13 _).mono ?_); rintro e w1 ⟨rfl, hb⟩)
  go_ret
  exact ⟨rfl, hb⟩
set_option maxRecDepth 100000 in
set_option maxHeartbeats 4000000 in
theorem byte_92 (w : World) : Calls Tryd.prog 24 #[.int .u8 92] w fun e w' => e = .returned (.string (st [92, 92])) ∧ Gr w w' := by
  have hp : ∀ w' : World, Calls Tryd.prog 28 #[.int .u8 92] w' fun e w'' => e = .returned (.tuple #[.string { data := #[] }, .bool false]) ∧ Gr w' w'' := fun w' => plain_no 92 w' (by decide) (by decide) (by decide)
  have hp := Lib.hid hp
  have cv : ∀ w' : World, (convert 46 9 (.slice (some ⟨w'.heap.size, 0, none⟩) 1 1)).run Tryd.prog (w'.alloc (.cells #[.int .u8 92] 5)) = .ok (.string (st [92])) (w'.alloc (.cells #[.int .u8 92] 5)) :=
    fun w' => conv_one (P := Tryd.prog) w' 46 9 5 92 Tryd.underlying46 Tryd.underlying5 Tryd.underlying9 (by decide)
  have c1 := cat_is (P := Tryd.prog) { data := #[92] } (st [92]) (st [92, 92]) [92] [92] rfl rfl rfl (by simp)
  go_enter Tryd.func24, Tryd.ntmps24
  go_wp2_with (go_at_call 28; (with_reducible refine (hp.out _).mono ?_); rintro e w1 ⟨rfl, hb⟩)
  go_ret
  exact ⟨rfl, hb.trans (Gr.alloc _ _)⟩
set_option maxRecDepth 100000 in
set_option maxHeartbeats 4000000 in
theorem byte_91 (w : World) : Calls Tryd.prog 24 #[.int .u8 91] w fun e w' => e = .returned (.string (st [92, 91])) ∧ Gr w w' := by
  have hp : ∀ w' : World, Calls Tryd.prog 28 #[.int .u8 91] w' fun e w'' => e = .returned (.tuple #[.string { data := #[] }, .bool false]) ∧ Gr w' w'' := fun w' => plain_no 91 w' (by decide) (by decide) (by decide)
  have hp := Lib.hid hp
  have cv : ∀ w' : World, (convert 46 9 (.slice (some ⟨w'.heap.size, 0, none⟩) 1 1)).run Tryd.prog (w'.alloc (.cells #[.int .u8 91] 5)) = .ok (.string (st [91])) (w'.alloc (.cells #[.int .u8 91] 5)) :=
    fun w' => conv_one (P := Tryd.prog) w' 46 9 5 91 Tryd.underlying46 Tryd.underlying5 Tryd.underlying9 (by decide)
  have c1 := cat_is (P := Tryd.prog) { data := #[92] } (st [91]) (st [92, 91]) [92] [91] rfl rfl rfl (by simp)
  go_enter Tryd.func24, Tryd.ntmps24
  go_wp2_with (go_at_call 28; (with_reducible refine (hp.out _).mono ?_); rintro e w1 ⟨rfl, hb⟩)
  go_ret
  exact ⟨rfl, hb.trans (Gr.alloc _ _)⟩
set_option maxRecDepth 100000 in
set_option maxHeartbeats 4000000 in
theorem byte_93 (w : World) : Calls Tryd.prog 24 #[.int .u8 93] w fun e w' => e = .returned (.string (st [92, 93])) ∧ Gr w w' := by
  have hp : ∀ w' : World, Calls Tryd.prog 28 #[.int .u8 93] w' fun e w'' => e = .returned (.tuple #[.string { data := #[] }, .bool false]) ∧ Gr w' w'' := fun w' => plain_no 93 w' (by decide) (by decide) (by decide)
  have hp := Lib.hid hp
  have cv : ∀ w' : World, (convert 46 9 (.slice (some ⟨w'.heap.size, 0, none⟩) 1 1)).run Tryd.prog (w'.alloc (.cells #[.int .u8 93] 5)) = .ok (.string (st [93])) (w'.alloc (.cells #[.int .u8 93] 5)) :=
    fun w' => conv_one (P := Tryd.prog) w' 46 9 5 93 Tryd.underlying46 Tryd.underlying5 Tryd.underlying9 (by decide)
  have c1 := cat_is (P := Tryd.prog) { data := #[92] } (st [93]) (st [92, 93]) [92] [93] rfl rfl rfl (by simp)
  go_enter Tryd.func24, Tryd.ntmps24
  go_wp2_with (go_at_call 28; (with_reducible refine (hp.out _).mono ?_); rintro e w1 ⟨rfl, hb⟩)
  go_ret
  exact ⟨rfl, hb.trans (Gr.alloc _ _)⟩
set_option maxRecDepth 100000 in
set_option maxHeartbeats 4000000 in
theorem byte_45 (w : World) : Calls Tryd.prog 24 #[.int .u8 45] w fun e w' => e = .returned (.string (st [92, 45])) ∧ Gr w w' := by
  have hp : ∀ w' : World, Calls Tryd.prog 28 #[.int .u8 45] w' fun e w'' => e = .returned (.tuple #[.string { data := #[] }, .bool false]) ∧ Gr w' w'' := fun w' => plain_no 45 w' (by decide) (by decide) (by decide)
  have hp := Lib.hid hp
  have cv : ∀ w' : World, (convert 46 9 (.slice (some ⟨w'.heap.size, 0, none⟩) 1 1)).run Tryd.prog (w'.alloc (.cells #[.int .u8 45] 5)) = .ok (.string (st [45])) (w'.alloc (.cells #[.int .u8 45] 5)) :=
    fun w' => conv_one (P := Tryd.prog) w' 46 9 5 45 Tryd.underlying46 Tryd.underlying5 Tryd.underlying9 (by decide)
  have c1 := cat_is (P := Tryd.prog) { data := #[92] } (st [45]) (st [92, 45]) [92] [45] rfl rfl rfl (by simp)
  go_enter Tryd.func24, Tryd.ntmps24
  go_wp2_with (go_at_call 28; (with_reducible refine (hp.out _).mono ?_); rintro e w1 ⟨rfl, hb⟩)
  go_ret
  exact ⟨rfl, hb.trans (Gr.alloc _ _)⟩
set_option maxRecDepth 100000 in
set_option maxHeartbeats 4000000 in
theorem byte_94 (w : World) : Calls Tryd.prog 24 #[.int .u8 94] w fun e w' => e = .returned (.string (st [92, 94])) ∧ Gr w w' := by
  have hp : ∀ w' : World, Calls Tryd.prog 28 #[.int .u8 94] w' fun e w'' => e = .returned (.tuple #[.string { data := #[] }, .bool false]) ∧ Gr w' w'' := fun w' => plain_no 94 w' (by decide) (by decide) (by decide)
  have hp := Lib.hid hp
  have cv : ∀ w' : World, (convert 46 9 (.slice (some ⟨w'.heap.size, 0, none⟩) 1 1)).run Tryd.prog (w'.alloc (.cells #[.int .u8 94] 5)) = .ok (.string (st [94])) (w'.alloc (.cells #[.int .u8 94] 5)) :=
    fun w' => conv_one (P := Tryd.prog) w' 46 9 5 94 Tryd.underlying46 Tryd.underlying5 Tryd.underlying9 (by decide)
  have c1 := cat_is (P := Tryd.prog) { data := #[92] } (st [94]) (st [92, 94]) [92] [94] rfl rfl rfl (by simp)
  go_enter Tryd.func24, Tryd.ntmps24
  go_wp2_with (go_at_call 28; (with_reducible refine (hp.out _).mono ?_); rintro e w1 ⟨rfl, hb⟩)
  go_ret
  exact ⟨rfl, hb.trans (Gr.alloc _ _)⟩
set_option maxRecDepth 100000 in
set_option maxHeartbeats 4000000 in
theorem byte_38 (w : World) : Calls Tryd.prog 24 #[.int .u8 38] w fun e w' => e = .returned (.string (st [92, 38])) ∧ Gr w w' := by
  have hp : ∀ w' : World, Calls Tryd.prog 28 #[.int .u8 38] w' fun e w'' => e = .returned (.tuple #[.string { data := #[] }, .bool false]) ∧ Gr w' w'' := fun w' => plain_no 38 w' (by decide) (by decide) (by decide)
  have hp := Lib.hid hp
  have cv : ∀ w' : World, (convert 46 9 (.slice (some ⟨w'.heap.size, 0, none⟩) 1 1)).run Tryd.prog (w'.alloc (.cells #[.int .u8 38] 5)) = .ok (.string (st [38])) (w'.alloc (.cells #[.int .u8 38] 5)) :=
    fun w' => conv_one (P := Tryd.prog) w' 46 9 5 38 Tryd.underlying46 Tryd.underlying5 Tryd.underlying9 (by decide)
  have c1 := cat_is (P := Tryd.prog) { data := #[92] } (st [38]) (st [92, 38]) [92] [38] rfl rfl rfl (by simp)
  go_enter Tryd.func24, Tryd.ntmps24
  go_wp2_with (go_at_call 28; (with_reducible refine (hp.out _).mono ?_); rintro e w1 ⟨rfl, hb⟩)
  go_ret
  exact ⟨rfl, hb.trans (Gr.alloc _ _)⟩
set_option maxRecDepth 100000 in
set_option maxHeartbeats 4000000 in
theorem byte_plain (n : Nat) (w : World) (h1 : 33 ≤ (n : Int)) (h2 : (n : Int) ≤ 126) (a1 : ((n : Int) == 92) = false) (a2 : ((n : Int) == 91) = false) (a3 : ((n : Int) == 93) = false) (a4 : ((n : Int) == 45) = false) (a5 : ((n : Int) == 94) = false) (a6 : ((n : Int) == 38) = false) :
    Calls Tryd.prog 24 #[.int .u8 (n : Int)] w fun e w' => e = .returned (.string (st [UInt8.ofNat n])) ∧ Gr w w' := by
  have hn : n < 256 := by omega
  have e10 : ((n : Int) == 10) = false := by simp; omega
  have e9 : ((n : Int) == 9) = false := by simp; omega
  have e13 : ((n : Int) == 13) = false := by simp; omega
  have hp := Lib.hid (fun w' => plain_no n w' e10 e9 e13)
  have cv := fun w' => conv_one (P := Tryd.prog) w' 46 9 5 n Tryd.underlying46 Tryd.underlying5 Tryd.underlying9 hn
  obtain ⟨x, hx⟩ : ∃ x, UInt8.ofNat n = x := ⟨_, rfl⟩
  rw [hx] at cv ⊢
  clear e10 e9 e13 hn hx
  go_enter Tryd.func24, Tryd.ntmps24
  go_wp2_with (go_at_call 28; (with_reducible refine (hp.out _).mono ?_); rintro e w1 ⟨rfl, hb⟩)
  go_ret
  exact ⟨rfl, hb.trans (Gr.alloc _ _)⟩
set_option maxRecDepth 100000 in
set_option maxHeartbeats 4000000 in
theorem byte_hex (n q r : Nat) (w : World) (hn : (n : Int) < 256) (h : ¬ 33 ≤ (n : Int) ∨ ¬ (n : Int) ≤ 126) (hq : (n : Int) / 16 = (q : Int)) (hr : (n : Int) % 16 = (r : Int)) (e10 : ((n : Int) == 10) = false) (e9 : ((n : Int) == 9) = false) (e13 : ((n : Int) == 13) = false) :
    Calls Tryd.prog 24 #[.int .u8 (n : Int)] w fun e w' => e = .returned (.string (st [92, 120, hexD q, hexD r])) ∧ Gr w w' := by
  have hp := Lib.hid (fun w' => plain_no n w' e10 e9 e13)
  have hh := Lib.hid (fun w' => hex_any n q r w' hn hq hr)
  have a1 : ((n : Int) == 92) = false := by simp; omega
  have a2 : ((n : Int) == 91) = false := by simp; omega
  have a3 : ((n : Int) == 93) = false := by simp; omega
  have a4 : ((n : Int) == 45) = false := by simp; omega
  have a5 : ((n : Int) == 94) = false := by simp; omega
  have a6 : ((n : Int) == 38) = false := by simp; omega
  clear e10 e9 e13 hq hr
  go_enter Tryd.func24, Tryd.ntmps24
  go_wp2_with (first | (go_at_call 28; (with_reducible refine (hp.out _).mono ?_); rintro e w1 ⟨rfl, hb⟩) | (go_at_call 29; (with_reducible refine (hh.out _).mono ?_); rintro e w2 ⟨rfl, hb2⟩))
  all_goals go_ret
  all_goals exact ⟨rfl, hb.trans hb2⟩
/-- A byte's text, by the document. -/
theorem byte_any (c : UInt8) (w : World) : Calls Tryd.prog 24 #[.int .u8 (c.toNat : Int)] w fun e w' => e = .returned (.string (st (wrT c))) ∧ Gr w w' := by
  have hc := c.toNat_lt
  have eq : ∀ k, k < 256 → ¬ c.toNat = k → ¬ c = UInt8.ofNat k := fun k hk h e => h ((u8_eq c k hk).1 e)
  unfold wrT wr
  by_cases h10 : c.toNat = 10
  · rw [if_pos (show c = 10 from (u8_eq c 10 (by omega)).2 h10), h10]; exact byte_10 _
  rw [if_neg (show ¬ c = 10 from eq 10 (by omega) h10)]
  by_cases h9 : c.toNat = 9
  · rw [if_pos (show c = 9 from (u8_eq c 9 (by omega)).2 h9), h9]; exact byte_9 _
  rw [if_neg (show ¬ c = 9 from eq 9 (by omega) h9)]
  by_cases h13 : c.toNat = 13
  · rw [if_pos (show c = 13 from (u8_eq c 13 (by omega)).2 h13), h13]; exact byte_13 _
  rw [if_neg (show ¬ c = 13 from eq 13 (by omega) h13)]
  by_cases hh : c.toNat < 33 ∨ 126 < c.toNat
  · rw [if_pos hh]
    exact byte_hex c.toNat _ _ w (by omega) (by omega) (by omega) (by omega) (by simp; omega) (by simp; omega) (by simp; omega)
  rw [if_neg hh]
  have hm : c ∈ marksT ↔ (c.toNat = 92 ∨ c.toNat = 91 ∨ c.toNat = 93 ∨ c.toNat = 45 ∨ c.toNat = 94 ∨ c.toNat = 38) := by
    simp only [marksT, List.mem_cons, List.not_mem_nil, or_false]
    rw [← u8_eq c 92 (by omega), ← u8_eq c 91 (by omega), ← u8_eq c 93 (by omega), ← u8_eq c 45 (by omega), ← u8_eq c 94 (by omega), ← u8_eq c 38 (by omega)]
    rfl
  by_cases h : c ∈ marksT
  · rw [if_pos h]
    have hc2 := hm.1 h
    rcases hc2 with h2 | h2 | h2 | h2 | h2 | h2
    · rw [h2, show c = 92 from (u8_eq c 92 (by omega)).2 h2]; exact byte_92 w
    · rw [h2, show c = 91 from (u8_eq c 91 (by omega)).2 h2]; exact byte_91 w
    · rw [h2, show c = 93 from (u8_eq c 93 (by omega)).2 h2]; exact byte_93 w
    · rw [h2, show c = 45 from (u8_eq c 45 (by omega)).2 h2]; exact byte_45 w
    · rw [h2, show c = 94 from (u8_eq c 94 (by omega)).2 h2]; exact byte_94 w
    · rw [h2, show c = 38 from (u8_eq c 38 (by omega)).2 h2]; exact byte_38 w
  · rw [if_neg h]
    have hm2 : ¬ (c.toNat = 92 ∨ c.toNat = 91 ∨ c.toNat = 93 ∨ c.toNat = 45 ∨ c.toNat = 94 ∨ c.toNat = 38) := fun h' => h (hm.2 h')
    simp only [not_or] at hm2
    have := byte_plain c.toNat w (by omega) (by omega) (by simp; omega) (by simp; omega) (by simp; omega) (by simp; omega) (by simp; omega) (by simp; omega)
    rw [UInt8.ofNat_toNat] at this; exact this

end Go.Proofs.YtihjmeoklbmnmaaDoor
