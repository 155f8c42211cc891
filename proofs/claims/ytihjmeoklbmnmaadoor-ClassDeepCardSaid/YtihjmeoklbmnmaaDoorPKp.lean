/- A reader of a text: what is kept while it goes on; refusals at a place. No condition. -/
import Derived.Test.YtihjmeoklbmnmaaDoorPGb
import Derived.Test.YtihjmeoklbmnmaaDoorPGa
namespace Go.Proofs.YtihjmeoklbmnmaaDoor
open Go Go.RowKit

/-- All blocks but p are as they were. -/
structure Kp (p : Nat) (w w' : World) : Prop where
  os : w'.os = w.os
  tape : w'.tape = w.tape
  output : w'.output = w.output
  size : w.heap.size ≤ w'.heap.size
  block : ∀ k, k < w.heap.size → k ≠ p → w'.heap[k]? = w.heap[k]?
theorem Kp.refl (p : Nat) (w : World) : Kp p w w := ⟨rfl, rfl, rfl, Nat.le_refl _, fun _ _ _ => rfl⟩
theorem Kp.trans {p : Nat} {a b c : World} (h : Kp p a b) (k : Kp p b c) : Kp p a c :=
  ⟨k.os.trans h.os, k.tape.trans h.tape, k.output.trans h.output, Nat.le_trans h.size k.size, fun i hi hp => (k.block i (Nat.lt_of_lt_of_le hi h.size) hp).trans (h.block i hi hp)⟩
theorem Kp.gr {p : Nat} {w w' : World} (h : Gr w w') : Kp p w w' := ⟨h.os, h.tape, h.output, h.size, fun k hk _ => Below.block h k hk⟩
theorem Kp.put {p : Nat} {w w' : World} (h : Kp p w w') {a : Addr} (ha : w.heap.size ≤ a.block ∨ a.block = p) (v : Value) : Kp p w (w'.setCell a v) :=
  ⟨h.os, h.tape, h.output, by simp [World.setCell]; exact h.size, fun k hk hp => (Below.heap_setCell w' a v k (by rintro rfl; rcases ha with ha | ha <;> omega)).trans (h.block k hk hp)⟩
theorem Kp.at_p {p : Nat} {w w' : World} (h : Kp p w w') (j : Nat) (v : Value) : Kp p w (w'.setCell ⟨p, j, none⟩ v) := h.put (a := ⟨p, j, none⟩) (.inr rfl) v
theorem Kp.of_gr {p : Nat} {w0 w w' : World} (h0 : Gr w0 w) (h : Kp p w w') (hp : w0.heap.size ≤ p) : Gr w0 w' :=
  Below.trans h0 ⟨h.os, h.tape, h.output, h.size, fun k hk => h.block k (Nat.lt_of_lt_of_le hk h0.size) (by omega)⟩
theorem boxAt.kept {w w' : World} {p b : Nat} {vs : List Value} (h : boxAt w b vs) (hk : Kp p w w') (hb : b ≠ p) (hn : 0 < vs.length) : boxAt w' b vs := h.heap (hk.block b (h.lt hn) hb)
theorem Kp.cell {p : Nat} {w w' : World} (hk : Kp p w w') {a : Addr} {v : Value} (h : w.cell? a = some v) (ha : a.block ≠ p) : w'.cell? a = some v := by
  rw [← h]; exact World.cell?_of_block (w := w) (hk.block a.block (World.block_lt_of_cell? w _ h) ha)

/-- The errors that a reader refuses with; where the library keeps a number. -/
structure Sy (w : World) (p : Nat) (es ed : Value) : Prop where
  syn : w.cell? ⟨1, 0, none⟩ = some es
  deep : w.cell? ⟨0, 0, none⟩ = some ed
  synI : ∃ t x, es = .iface t x
  deepI : ∃ t x, ed = .iface t x
  max : ∃ m, w.cell? ⟨17, 0, none⟩ = some (.int .i64 m)
  nsyn : 1 ≠ p
  ndeep : 0 ≠ p
  nmax : 17 ≠ p
theorem Sy.kept {w w' : World} {p : Nat} {es ed : Value} (h : Sy w p es ed) (hk : Kp p w w') : Sy w' p es ed :=
  ⟨hk.cell h.syn h.nsyn, hk.cell h.deep h.ndeep, h.synI, h.deepI, by obtain ⟨m, hm⟩ := h.max; exact ⟨m, hk.cell hm h.nmax⟩, h.nsyn, h.ndeep, h.nmax⟩
/-- An error with a place, that lies from block B on. -/
def Refused (w : World) (B : Nat) (e er : Value) (k : Int) : Prop := ∃ b, er = .iface 92 (.pointer (some ⟨b, 0, none⟩)) ∧ boxAt w b [e, .int .i64 k] ∧ B ≤ b
theorem Refused.kept {w w' : World} {p B : Nat} {e er : Value} {k : Int} (h : Refused w B e er k) (hk : Kp p w w') (hp : p < B) : Refused w' B e er k := by
  obtain ⟨b, h1, h2, h3⟩ := h
  exact ⟨b, h1, h2.kept hk (by omega) (by simp), h3⟩
theorem Refused.put {w : World} {B : Nat} {e er : Value} {k : Int} (h : Refused w B e er k) (a : Addr) (v : Value) (ha : a.block < B) : Refused (w.setCell a v) B e er k := by
  obtain ⟨b, h1, h2, h3⟩ := h
  exact ⟨b, h1, h2.far _ _ (by omega), h3⟩
theorem Refused.put4 {w : World} {B : Nat} {e er : Value} {k : Int} (h : Refused w B e er k) (c : Nat) (hc : c < B) (v0 v1 v2 v3 : Value) :
    Refused ((((w.setCell ⟨c, 0, none⟩ v0).setCell ⟨c, 1, none⟩ v1).setCell ⟨c, 2, none⟩ v2).setCell ⟨c, 3, none⟩ v3) B e er k :=
  (((h.put _ v0 hc).put _ v1 hc).put _ v2 hc).put _ v3 hc
theorem Refused.mono {w : World} {B B' : Nat} {e er : Value} {k : Int} (h : Refused w B e er k) (hB : B' ≤ B) : Refused w B' e er k := by
  obtain ⟨b, h1, h2, h3⟩ := h
  exact ⟨b, h1, h2, by omega⟩
theorem Refused.iface {w : World} {B : Nat} {e er : Value} {k : Int} (h : Refused w B e er k) : ∃ t x, er = .iface t x := by
  obtain ⟨b, h1, _⟩ := h
  exact ⟨_, _, h1⟩
theorem Kp.put4 {p : Nat} {w w' : World} (h : Kp p w w') {b : Nat} (hb : w.heap.size ≤ b) (v0 v1 v2 v3 : Value) :
    Kp p w ((((w'.setCell ⟨b, 0, none⟩ v0).setCell ⟨b, 1, none⟩ v1).setCell ⟨b, 2, none⟩ v2).setCell ⟨b, 3, none⟩ v3) :=
  (((h.put (a := ⟨b, 0, none⟩) (.inl hb) v0).put (a := ⟨b, 1, none⟩) (.inl hb) v1).put (a := ⟨b, 2, none⟩) (.inl hb) v2).put (a := ⟨b, 3, none⟩) (.inl hb) v3

set_option maxRecDepth 100000 in
theorem place_any (t : TypeId) (x : Value) (i : Int) (w : World) : Calls Tryd.prog 42 #[.iface t x, .int .i64 i] w fun e' w' => e' = .returned (.iface 92 (.pointer (some ⟨w.heap.size, 0, none⟩))) ∧ boxAt w' w.heap.size [.iface t x, .int .i64 i] ∧ Gr w w' := by
  go_enter Tryd.func42, Tryd.ntmps42
  go_wp2_with fail
  go_ret
  exact ⟨rfl, boxAt.new _ _ rfl, Gr.alloc _ _⟩
/-- A refusal for syntax. -/
theorem syntax_any (i : Int) (p : Nat) (es ed : Value) (w : World) (h : Sy w p es ed) (hp : p < w.heap.size) : Calls Tryd.prog 33 #[.int .i64 i] w fun e' w' => ∃ er, e' = .returned er ∧ Refused w' w.heap.size es er i ∧ Gr w w' := by
  obtain ⟨t, x, rfl⟩ := h.synI
  have hc := h.syn
  have hlt : 1 < w.heap.size := World.block_lt_of_cell? w _ hc
  clear h
  go_enter Tryd.func33, Tryd.ntmps33
  go_wp2_with (go_at_call 42; (with_reducible refine (place_any _ _ _ _).mono ?_); rintro e w1 ⟨rfl, hb, hg⟩)
  go_ret
  exact ⟨_, rfl, ⟨_, rfl, hb, Nat.le_refl _⟩, hg⟩

/-! ### nibble -/

set_option maxRecDepth 100000 in
set_option maxHeartbeats 1000000 in
theorem nibble_d (n : Nat) (w : World) (h1 : 48 ≤ (n : Int)) (h2 : (n : Int) ≤ 57) : Calls Tryd.prog 44 #[.int .u8 (n : Int)] w fun e w' => e = .returned (.int .u8 (((n - 48 : Nat)) : Int)) ∧ w' = w := by
  have e : IntKind.u8.wrap ((n : Int) - 48) = ((n - 48 : Nat) : Int) := by rw [IntKind.wrap_u8]; omega
  obtain ⟨y, hy⟩ : ∃ y, n - 48 = y := ⟨_, rfl⟩
  rw [hy] at e ⊢
  clear hy
  go_enter Tryd.func44, Tryd.ntmps44
  go_wp2_with fail
  go_ret
  exact ⟨rfl, rfl⟩
set_option maxRecDepth 100000 in
set_option maxHeartbeats 1000000 in
theorem nibble_l (n : Nat) (w : World) (h1 : 97 ≤ (n : Int)) (h2 : (n : Int) ≤ 102) : Calls Tryd.prog 44 #[.int .u8 (n : Int)] w fun e w' => e = .returned (.int .u8 (((n - 87 : Nat)) : Int)) ∧ w' = w := by
  have e0 : ¬ (n : Int) ≤ 57 := by omega
  have e1 : 48 ≤ (n : Int) := by omega
  have e2 : IntKind.u8.wrap ((n : Int) - 97) = (n : Int) - 97 := by rw [IntKind.wrap_u8]; omega
  have e : IntKind.u8.wrap ((n : Int) - 97 + 10) = ((n - 87 : Nat) : Int) := by rw [IntKind.wrap_u8]; omega
  obtain ⟨y, hy⟩ : ∃ y, n - 87 = y := ⟨_, rfl⟩
  rw [hy] at e ⊢
  clear hy
  go_enter Tryd.func44, Tryd.ntmps44
  go_wp2_with fail
  go_ret
  exact ⟨rfl, rfl⟩
set_option maxRecDepth 100000 in
set_option maxHeartbeats 1000000 in
theorem nibble_u (n : Nat) (w : World) (h1 : 65 ≤ (n : Int)) (h2 : (n : Int) ≤ 70) : Calls Tryd.prog 44 #[.int .u8 (n : Int)] w fun e w' => e = .returned (.int .u8 (((n - 55 : Nat)) : Int)) ∧ w' = w := by
  have e0 : ¬ (n : Int) ≤ 57 := by omega
  have e1 : 48 ≤ (n : Int) := by omega
  have e3 : ¬ 97 ≤ (n : Int) := by omega
  have e2 : IntKind.u8.wrap ((n : Int) - 65) = (n : Int) - 65 := by rw [IntKind.wrap_u8]; omega
  have e : IntKind.u8.wrap ((n : Int) - 65 + 10) = ((n - 55 : Nat) : Int) := by rw [IntKind.wrap_u8]; omega
  obtain ⟨y, hy⟩ : ∃ y, n - 55 = y := ⟨_, rfl⟩
  rw [hy] at e ⊢
  clear hy
  go_enter Tryd.func44, Tryd.ntmps44
  go_wp2_with fail
  go_ret
  exact ⟨rfl, rfl⟩
set_option maxRecDepth 100000 in
set_option maxHeartbeats 1000000 in
theorem nibble_n (n : Nat) (w : World) (h1 : (n : Int) < 48 ∨ 57 < (n : Int)) (h2 : (n : Int) < 97 ∨ 102 < (n : Int)) (h3 : (n : Int) < 65 ∨ 70 < (n : Int)) : Calls Tryd.prog 44 #[.int .u8 (n : Int)] w fun e w' => e = .returned (.int .u8 16) ∧ w' = w := by
  have e0 : ¬ 48 ≤ (n : Int) ∨ ¬ (n : Int) ≤ 57 := by omega
  have e1 : ¬ 97 ≤ (n : Int) ∨ ¬ (n : Int) ≤ 102 := by omega
  have e2 : ¬ 65 ≤ (n : Int) ∨ ¬ (n : Int) ≤ 70 := by omega
  clear h1 h2 h3
  have c0 : (decide (48 ≤ (n : Int)) && decide ((n : Int) ≤ 57)) = false := by rcases e0 with h | h <;> simp [h]
  go_enter Tryd.func44, Tryd.ntmps44
  rcases e0 with a | a <;> rcases e1 with b | b <;> rcases e2 with c | c
  all_goals go_wp2_with fail
  all_goals go_ret
  all_goals exact ⟨rfl, rfl⟩
theorem nibble_any (c : UInt8) (w : World) : Calls Tryd.prog 44 #[.int .u8 (c.toNat : Int)] w fun e w' => e = .returned (.int .u8 (nibL c : Int)) ∧ w' = w := by
  unfold nibL
  split
  · exact nibble_d _ w (by omega) (by omega)
  · split
    · exact nibble_l _ w (by omega) (by omega)
    · split
      · exact nibble_u _ w (by omega) (by omega)
      · exact nibble_n _ w (by omega) (by omega) (by omega)

/-- The reader p stands at place k of the text t. -/
def Rdr (w : World) (p : Nat) (t : List UInt8) (k : Nat) : Prop := boxAt w p [.string (st t), .int .i64 (k : Int)]

/-- .. or wherever. -/
def Any (w : World) (p : Nat) (t : List UInt8) : Prop := ∃ q : Int, boxAt w p [.string (st t), .int .i64 q]
theorem Rdr.any {w : World} {p k : Nat} {t : List UInt8} (h : Rdr w p t k) : Any w p t := ⟨_, h⟩
theorem Any.later {w w' : World} {p : Nat} {t : List UInt8} (h : Any w p t) (hG : Gr w w') : Any w' p t := by
  obtain ⟨q, h⟩ := h
  exact ⟨q, boxAt.later h hG⟩
theorem Any.far4 {w : World} {p b : Nat} {t : List UInt8} (h : Any w p t) (hp : b ≠ p) (v0 v1 v2 v3 : Value) :
    Any ((((w.setCell ⟨b, 0, none⟩ v0).setCell ⟨b, 1, none⟩ v1).setCell ⟨b, 2, none⟩ v2).setCell ⟨b, 3, none⟩ v3) p t := by
  obtain ⟨q, h⟩ := h
  exact ⟨q, boxAt.far4 h hp _ _ _ _⟩

set_option maxRecDepth 100000 in
set_option maxHeartbeats 2000000 in
theorem here_some (p k : Nat) (t : List UInt8) (c : UInt8) (w : World) (h : Rdr w p t k) (hc : t[k]? = some c) : Calls Tryd.prog 32 #[.pointer (some ⟨p, 0, none⟩)] w fun e w' => e = .returned (.tuple #[.int .u8 (c.toNat : Int), .bool true]) ∧ Gr w w' := by
  have hsz := st_size t
  have hk := (List.getElem?_eq_some_iff.1 hc).1
  have hkI : (k : Int) < (t.length : Int) := by omega
  have hkN : ¬ t.length ≤ k := by omega
  have hix := fun w' => run_at (P := Tryd.prog) w' 9 t k c .i64 Tryd.underlying9 hc
  have h' := Lib.hid h
  have c0 := boxAt.cell h 0 _ rfl
  have c1 := boxAt.cell h 1 _ rfl
  have lp := boxAt.lt h (Nat.succ_pos _)
  clear h hc hk
  go_enter Tryd.func32, Tryd.ntmps32
  go_wp2_with fail
  refine wp_region_G (.take 0 (.take 1 (.take 2 (.take 3 (.take 4 (.take 5 (.take 6 (.take 7 (.take 8 (.take 9 .nil)))))))))) (by kernel_rfl) (by kernel_rfl) ?_
  simp only [pickOps, nthOp]
  intro wq hG
  repeat (first | (refine wpG_skip_take ?_ ?_; (focus rfl); try simp only [Act.put, List.setIfInBounds_toArray, List.set_cons_zero, List.set_cons_succ]) | (refine wpG_skip_run ?_ ?_; (focus rfl); try simp only [Act.put, List.setIfInBounds_toArray, List.set_cons_zero, List.set_cons_succ]) | (refine wpG_take ?_ ?_; (focus rfl); apply Exists.intro; refine ⟨fun w' hw' => ?_, ?_⟩; (focus (have hc := Gr.cells hw'; go_simp; (try rfl); done)); try simp only [Act.put, List.setIfInBounds_toArray, List.set_cons_zero, List.set_cons_succ]))
  refine wpG_done ?_
  have hg := hG
  have d0 := hG.cell c0
  have d1 := hG.cell c1
  have lq : p < wq.heap.size := by have := hG.size; omega
  clear hG c0 c1
  go_wp2_with fail
  refine wp_region_G (.take 0 (.take 1 (.take 2 (.take 3 (.take 4 (.take 5 (.take 6 (.take 7 (.take 8 (.run 9 false (.run 10 true .nil))))))))))) (by kernel_rfl) (by kernel_rfl) ?_
  simp only [pickOps, nthOp]
  intro wq hG
  repeat (first | (refine wpG_skip_take ?_ ?_; (focus rfl); try simp only [Act.put, List.setIfInBounds_toArray, List.set_cons_zero, List.set_cons_succ]) | (refine wpG_skip_run ?_ ?_; (focus rfl); try simp only [Act.put, List.setIfInBounds_toArray, List.set_cons_zero, List.set_cons_succ]) | (refine wpG_take ?_ ?_; (focus rfl); apply Exists.intro; refine ⟨fun w' hw' => ?_, ?_⟩; (focus (have hc := Gr.cells hw'; go_simp; (try rfl); done)); try simp only [Act.put, List.setIfInBounds_toArray, List.set_cons_zero, List.set_cons_succ]) | (refine wpG_run ?_ (fun K hK => ?_); (focus rfl); go_simp; (first | (have hb := Gr.refl wq)); (try dsimp only); replace hG := hG.trans hb; refine hK.out _ _ hG ?_; clear hK K hb; try simp only [Act.put, List.setIfInBounds_toArray, List.set_cons_zero, List.set_cons_succ]))
  refine wpG_last ?_ (fun K hK => ?_); (focus rfl)
  have hc := hG.cells
  have hm := hG.marks
  go_simp
  refine hK.out _ _ ?_
  try simp only [Act.put, List.setIfInBounds_toArray, List.set_cons_zero, List.set_cons_succ]
  clear hK K hc hm
  refine wpG_done ?_
  go_wp2
  refine bodyPost_ret (v := .tuple #[.int .u8 (c.toNat : Int), .bool true]) (by simp [results, Tryd.results32, go_sem]) rfl ⟨rfl, hg.trans hG⟩
set_option maxRecDepth 100000 in
set_option maxHeartbeats 2000000 in
theorem here_none (p k : Nat) (t : List UInt8) (w : World) (h : Rdr w p t k) (hk : t.length ≤ k) : Calls Tryd.prog 32 #[.pointer (some ⟨p, 0, none⟩)] w fun e w' => e = .returned (.tuple #[.int .u8 0, .bool false]) ∧ Gr w w' := by
  have hsz := st_size t
  have hkI : (t.length : Int) ≤ (k : Int) := by omega
  have c0 := boxAt.cell h 0 _ rfl
  have c1 := boxAt.cell h 1 _ rfl
  have lp := boxAt.lt h (Nat.succ_pos _)
  clear h
  go_enter Tryd.func32, Tryd.ntmps32
  go_wp2_with fail
  refine wp_region_G (.take 0 (.take 1 (.take 2 (.take 3 (.take 4 (.take 5 (.take 6 (.take 7 (.take 8 (.take 9 .nil)))))))))) (by kernel_rfl) (by kernel_rfl) ?_
  simp only [pickOps, nthOp]
  intro wq hG
  repeat (first | (refine wpG_skip_take ?_ ?_; (focus rfl); try simp only [Act.put, List.setIfInBounds_toArray, List.set_cons_zero, List.set_cons_succ]) | (refine wpG_skip_run ?_ ?_; (focus rfl); try simp only [Act.put, List.setIfInBounds_toArray, List.set_cons_zero, List.set_cons_succ]) | (refine wpG_take ?_ ?_; (focus rfl); apply Exists.intro; refine ⟨fun w' hw' => ?_, ?_⟩; (focus (have hc := Gr.cells hw'; go_simp; (try rfl); done)); try simp only [Act.put, List.setIfInBounds_toArray, List.set_cons_zero, List.set_cons_succ]))
  refine wpG_done ?_
  go_wp2_with fail
  refine bodyPost_ret (v := .tuple #[.int .u8 0, .bool false]) (by simp [results, Tryd.results32, go_sem]) rfl ⟨rfl, hG⟩
set_option maxRecDepth 100000 in
set_option maxHeartbeats 2000000 in
theorem begins_any (p k : Nat) (t s : List UInt8) (w : World) (h : Rdr w p t k) (hk : k ≤ t.length) : Calls Tryd.prog 41 #[.pointer (some ⟨p, 0, none⟩), .string (st s)] w fun e w' => e = .returned (.bool (pre s (t.drop k))) ∧ Gr w w' := by
  have hsl := fun w' => run_from (P := Tryd.prog) w' 9 t k .i64 Tryd.underlying9 hk
  have c0 := boxAt.cell h 0 _ rfl
  have c1 := boxAt.cell h 1 _ rfl
  have lp := boxAt.lt h (Nat.succ_pos _)
  have hp := fun w' => Tryd.strings_HasPrefix (st (t.drop k)) (st s) w'
  have HP := Lib.hid hp
  clear h hk hp
  go_enter Tryd.func41, Tryd.ntmps41
  go_wp2_with fail
  refine wp_region_G (.take 0 (.take 1 (.take 2 (.take 3 (.take 4 (.take 5 (.take 6 (.take 7 (.take 8 (.take 9 (.run 10 false (.run 11 true .nil)))))))))))) (by kernel_rfl) (by kernel_rfl) ?_
  simp only [pickOps, nthOp]
  intro wq hG
  repeat (first | (refine wpG_skip_take ?_ ?_; (focus rfl); try simp only [Act.put, List.setIfInBounds_toArray, List.set_cons_zero, List.set_cons_succ]) | (refine wpG_skip_run ?_ ?_; (focus rfl); try simp only [Act.put, List.setIfInBounds_toArray, List.set_cons_zero, List.set_cons_succ]) | (refine wpG_take ?_ ?_; (focus rfl); apply Exists.intro; refine ⟨fun w' hw' => ?_, ?_⟩; (focus (have hc := Gr.cells hw'; go_simp; (try rfl); done)); try simp only [Act.put, List.setIfInBounds_toArray, List.set_cons_zero, List.set_cons_succ]) | (refine wpG_run ?_ (fun K hK => ?_); (focus rfl); go_simp; (first | (go_at_call 53; (with_reducible refine (HP.out _).mono ?_); rintro e w' ⟨rfl, rfl⟩; have hb := Gr.refl w')); (try dsimp only); replace hG := hG.trans hb; refine hK.out _ _ hG ?_; clear hK K hb; try simp only [Act.put, List.setIfInBounds_toArray, List.set_cons_zero, List.set_cons_succ]))
  refine wpG_last ?_ (fun K hK => ?_); (focus rfl)
  have hc := hG.cells
  have hm := hG.marks
  go_simp
  refine hK.out _ _ ?_
  try simp only [Act.put, List.setIfInBounds_toArray, List.set_cons_zero, List.set_cons_succ]
  clear hK K hc hm
  refine wpG_done ?_
  go_wp2
  go_ret
  refine ⟨?_, hG⟩
  rw [st_data, st_data]; rfl

set_option maxRecDepth 100000 in
set_option maxHeartbeats 1000000 in
theorem lower_any (w : World) : Calls Tryd.prog 56 #[] w fun e w' => e = .returned (.agg #[.int .u64 (wd lowerS 0), .int .u64 (wd lowerS 1), .int .u64 (wd lowerS 2), .int .u64 (wd lowerS 3)]) ∧ Gr w w' := by
  go_enter Tryd.func56, Tryd.ntmps56
  go_wp2_with fail
  go_at_call 68
  refine name_calls (fun W hW => ?_)
  have xr : boxAt W w.heap.size [.int .u64 0, .int .u64 0, .int .u64 0, .int .u64 0] := boxAt.new _ _ hW
  have hgW : Gr w W := by rw [hW]; exact Gr.alloc _ _
  clear hW
  refine (range_any 97 122 W (by decide) (by decide)).mono ?_; rintro e w1 ⟨rfl, hb⟩
  have xr := xr.later hb
  replace hgW := hgW.trans hb
  clear hb
  have c_r0 := xr.cell 0 _ rfl
  have c_r1 := xr.cell 1 _ rfl
  have c_r2 := xr.cell 2 _ rfl
  have c_r3 := xr.cell 3 _ rfl
  have m_r0 := xr.mark 0 _ rfl
  have m_r1 := xr.mark 1 _ rfl
  have m_r2 := xr.mark 2 _ rfl
  have m_r3 := xr.mark 3 _ rfl
  have l_r := xr.lt (Nat.succ_pos _)
  go_wp2
  refine bodyPost_ret (v := .agg #[.int .u64 (wd lowerS 0), .int .u64 (wd lowerS 1), .int .u64 (wd lowerS 2), .int .u64 (wd lowerS 3)]) (by simp [results, Tryd.results56, go_sem, c_r0, c_r1, c_r2, c_r3]; exact ⟨rfl, rfl, rfl, rfl⟩) rfl ⟨rfl, ?_⟩
  exact Below.put4 hgW (Nat.le_refl _) _ _ _ _
set_option maxRecDepth 100000 in
set_option maxHeartbeats 1000000 in
theorem upper_any (w : World) : Calls Tryd.prog 57 #[] w fun e w' => e = .returned (.agg #[.int .u64 (wd upperS 0), .int .u64 (wd upperS 1), .int .u64 (wd upperS 2), .int .u64 (wd upperS 3)]) ∧ Gr w w' := by
  go_enter Tryd.func57, Tryd.ntmps57
  go_wp2_with fail
  go_at_call 68
  refine name_calls (fun W hW => ?_)
  have xr : boxAt W w.heap.size [.int .u64 0, .int .u64 0, .int .u64 0, .int .u64 0] := boxAt.new _ _ hW
  have hgW : Gr w W := by rw [hW]; exact Gr.alloc _ _
  clear hW
  refine (range_any 65 90 W (by decide) (by decide)).mono ?_; rintro e w1 ⟨rfl, hb⟩
  have xr := xr.later hb
  replace hgW := hgW.trans hb
  clear hb
  have c_r0 := xr.cell 0 _ rfl
  have c_r1 := xr.cell 1 _ rfl
  have c_r2 := xr.cell 2 _ rfl
  have c_r3 := xr.cell 3 _ rfl
  have m_r0 := xr.mark 0 _ rfl
  have m_r1 := xr.mark 1 _ rfl
  have m_r2 := xr.mark 2 _ rfl
  have m_r3 := xr.mark 3 _ rfl
  have l_r := xr.lt (Nat.succ_pos _)
  go_wp2
  refine bodyPost_ret (v := .agg #[.int .u64 (wd upperS 0), .int .u64 (wd upperS 1), .int .u64 (wd upperS 2), .int .u64 (wd upperS 3)]) (by simp [results, Tryd.results57, go_sem, c_r0, c_r1, c_r2, c_r3]; exact ⟨rfl, rfl, rfl, rfl⟩) rfl ⟨rfl, ?_⟩
  exact Below.put4 hgW (Nat.le_refl _) _ _ _ _
set_option maxRecDepth 100000 in
set_option maxHeartbeats 1000000 in
theorem digit_any (w : World) : Calls Tryd.prog 55 #[] w fun e w' => e = .returned (.agg #[.int .u64 (wd digitS 0), .int .u64 (wd digitS 1), .int .u64 (wd digitS 2), .int .u64 (wd digitS 3)]) ∧ Gr w w' := by
  go_enter Tryd.func55, Tryd.ntmps55
  go_wp2_with fail
  go_at_call 68
  refine name_calls (fun W hW => ?_)
  have xr : boxAt W w.heap.size [.int .u64 0, .int .u64 0, .int .u64 0, .int .u64 0] := boxAt.new _ _ hW
  have hgW : Gr w W := by rw [hW]; exact Gr.alloc _ _
  clear hW
  refine (range_any 48 57 W (by decide) (by decide)).mono ?_; rintro e w1 ⟨rfl, hb⟩
  have xr := xr.later hb
  replace hgW := hgW.trans hb
  clear hb
  have c_r0 := xr.cell 0 _ rfl
  have c_r1 := xr.cell 1 _ rfl
  have c_r2 := xr.cell 2 _ rfl
  have c_r3 := xr.cell 3 _ rfl
  have m_r0 := xr.mark 0 _ rfl
  have m_r1 := xr.mark 1 _ rfl
  have m_r2 := xr.mark 2 _ rfl
  have m_r3 := xr.mark 3 _ rfl
  have l_r := xr.lt (Nat.succ_pos _)
  go_wp2
  refine bodyPost_ret (v := .agg #[.int .u64 (wd digitS 0), .int .u64 (wd digitS 1), .int .u64 (wd digitS 2), .int .u64 (wd digitS 3)]) (by simp [results, Tryd.results55, go_sem, c_r0, c_r1, c_r2, c_r3]; exact ⟨rfl, rfl, rfl, rfl⟩) rfl ⟨rfl, ?_⟩
  exact Below.put4 hgW (Nat.le_refl _) _ _ _ _
set_option maxRecDepth 100000 in
set_option maxHeartbeats 1000000 in
theorem alnum_any (w : World) : Calls Tryd.prog 46 #[] w fun e w' => e = .returned (.agg #[.int .u64 (wd alnumS 0), .int .u64 (wd alnumS 1), .int .u64 (wd alnumS 2), .int .u64 (wd alnumS 3)]) ∧ Gr w w' := by
  go_enter Tryd.func46, Tryd.ntmps46
  go_wp2_with fail
  go_at_call 55
  refine name_calls (fun W hW => ?_)
  have xr : boxAt W w.heap.size [.int .u64 0, .int .u64 0, .int .u64 0, .int .u64 0] := boxAt.new _ _ hW
  have hgW : Gr w W := by rw [hW]; exact Gr.alloc _ _
  clear hW
  refine (digit_any W).mono ?_; rintro e w1 ⟨rfl, hb⟩
  have xr := xr.later hb
  replace hgW := hgW.trans hb
  clear hb
  go_wp2_with fail
  go_at_call 56
  refine (lower_any w1).mono ?_; rintro e w2 ⟨rfl, hb⟩
  have xr := xr.later hb
  replace hgW := hgW.trans hb
  clear hb
  go_wp2_with fail
  go_at_call 57
  refine (upper_any w2).mono ?_; rintro e w3 ⟨rfl, hb⟩
  have xr := xr.later hb
  replace hgW := hgW.trans hb
  clear hb
  go_wp2_with fail
  go_at_call 15
  refine (union_any _ _ w3).mono ?_; rintro e w4 ⟨rfl, hb⟩
  have xr := xr.later hb
  replace hgW := hgW.trans hb
  clear hb
  go_wp2_with fail
  go_at_call 15
  refine (union_any _ _ w4).mono ?_; rintro e w5 ⟨rfl, hb⟩
  have xr := xr.later hb
  replace hgW := hgW.trans hb
  clear hb
  have c_r0 := xr.cell 0 _ rfl
  have c_r1 := xr.cell 1 _ rfl
  have c_r2 := xr.cell 2 _ rfl
  have c_r3 := xr.cell 3 _ rfl
  have m_r0 := xr.mark 0 _ rfl
  have m_r1 := xr.mark 1 _ rfl
  have m_r2 := xr.mark 2 _ rfl
  have m_r3 := xr.mark 3 _ rfl
  have l_r := xr.lt (Nat.succ_pos _)
  go_wp2
  refine bodyPost_ret (v := .agg #[.int .u64 (wd alnumS 0), .int .u64 (wd alnumS 1), .int .u64 (wd alnumS 2), .int .u64 (wd alnumS 3)]) (by simp [results, Tryd.results46, go_sem, c_r0, c_r1, c_r2, c_r3]; exact ⟨rfl, rfl, rfl, rfl⟩) rfl ⟨rfl, ?_⟩
  exact Below.put4 hgW (Nat.le_refl _) _ _ _ _
theorem alnumS_bit (c : UInt8) : alnumS.getLsbD c.toNat = alnumC c := by
  have hc := c.toNat_lt
  unfold alnumS digitS lowerS upperS alnumC
  simp only [BitVec.getLsbD_or, getLsbD_rangeSet]
  rw [Bool.eq_iff_iff]
  simp; omega

end Go.Proofs.YtihjmeoklbmnmaaDoor
