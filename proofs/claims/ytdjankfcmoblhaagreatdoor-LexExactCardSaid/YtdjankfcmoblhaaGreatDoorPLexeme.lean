/- lex: one lexeme. No condition but a length's bound and the errors' variables. Printed by gen_lexeme.py. -/
import Derived.Test.YtdjankfcmoblhaaGreatDoorPGf
namespace Go.Proofs.YtdjankfcmoblhaaGreatDoor
open Go Go.RowKit

/-- A lexeme, as a value. -/
def lxV (kd a e : Int) (tx : ByteArray) (n : Int) (s : BitVec 256) : Value :=
  .agg #[.int .i64 kd, .int .i64 a, .int .i64 e, .string tx, .int .i64 n, .int .u64 (wd s 0), .int .u64 (wd s 1), .int .u64 (wd s 2), .int .u64 (wd s 3)]
theorem lxV_zero (kd a e : Int) (tx : ByteArray) (n : Int) : lxV kd a e tx n emptyS = .agg #[.int .i64 kd, .int .i64 a, .int .i64 e, .string tx, .int .i64 n, .int .u64 0, .int .u64 0, .int .u64 0, .int .u64 0] := by
  unfold lxV; simp only [wd_zero]
/-- A lexeme's cells. -/
def lxC (kd a e : Int) (tx : ByteArray) (n : Int) (s : BitVec 256) : List Value :=
  [.int .i64 kd, .int .i64 a, .int .i64 e, .string tx, .int .i64 n, .int .u64 (wd s 0), .int .u64 (wd s 1), .int .u64 (wd s 2), .int .u64 (wd s 3)]
theorem run_sub {P : Program} (w : World) (t : TypeId) (l : List UInt8) (a b : Nat) (ht : P.underlying t = some .string) (h1 : a ≤ b) (h2 : b ≤ l.length) :
    (Instr.slice t (.string (st l)) (some (.int .i64 (a : Int))) (some (.int .i64 (b : Int))) none).run P w = .ok (.string (st ((l.drop a).take (b - a)))) w := by
  have h := run_slice_string (P := P) w t (st l) .i64 .i64 (a : Int) (b : Int) ht (by omega) (by omega) (by rw [st_size]; omega)
  rw [Int.toNat_natCast, Int.toNat_natCast, st_extract] at h
  exact h
theorem run_mem (f : UInt8 → Bool) : ∀ (l : List UInt8) (c : UInt8), c ∈ l.take (runL f l) → f c = true
  | [], c, h => by cases h
  | d :: l, c, h => by
    rw [runL_cons] at h
    split at h
    · rename_i hd
      rw [List.take_succ_cons] at h
      rcases List.mem_cons.1 h with rfl | h
      · rw [Bool.and_eq_true] at hd; exact hd.2
      · exact run_mem f l c h
    · cases h
/-- Nine cells of one block are written. -/
def puts9 (w : World) (b : Nat) (v0 v1 v2 v3 v4 v5 v6 v7 v8 : Value) : World :=
  ((((((((w.setCell ⟨b, 0, none⟩ v0).setCell ⟨b, 1, none⟩ v1).setCell ⟨b, 2, none⟩ v2).setCell ⟨b, 3, none⟩ v3).setCell ⟨b, 4, none⟩ v4).setCell ⟨b, 5, none⟩ v5).setCell ⟨b, 6, none⟩ v6).setCell ⟨b, 7, none⟩ v7).setCell ⟨b, 8, none⟩ v8
theorem Gr.puts9 {w w1 : World} (h : Gr w w1) {b : Nat} (hb : w.heap.size ≤ b) (v0 v1 v2 v3 v4 v5 v6 v7 v8 : Value) : Gr w (puts9 w1 b v0 v1 v2 v3 v4 v5 v6 v7 v8) :=
  ((((((((h.setCell (p := ⟨b, 0, none⟩) hb v0).setCell (p := ⟨b, 1, none⟩) hb v1).setCell (p := ⟨b, 2, none⟩) hb v2).setCell (p := ⟨b, 3, none⟩) hb v3).setCell (p := ⟨b, 4, none⟩) hb v4).setCell (p := ⟨b, 5, none⟩) hb v5).setCell (p := ⟨b, 6, none⟩) hb v6).setCell (p := ⟨b, 7, none⟩) hb v7).setCell (p := ⟨b, 8, none⟩) hb v8
theorem Refused.puts9 {w : World} {B : Nat} {e er : Value} {k : Int} (h : Refused w B e er k) {b : Nat} (hb : b < B) (v0 v1 v2 v3 v4 v5 v6 v7 v8 : Value) : Refused (puts9 w b v0 v1 v2 v3 v4 v5 v6 v7 v8) B e er k :=
  ((((((((h.put ⟨b, 0, none⟩ v0 hb).put ⟨b, 1, none⟩ v1 hb).put ⟨b, 2, none⟩ v2 hb).put ⟨b, 3, none⟩ v3 hb).put ⟨b, 4, none⟩ v4 hb).put ⟨b, 5, none⟩ v5 hb).put ⟨b, 6, none⟩ v6 hb).put ⟨b, 7, none⟩ v7 hb).put ⟨b, 8, none⟩ v8 hb
theorem boxAt.puts9 {w : World} {b : Nat} {vs : List Value} (h : boxAt w b vs) (hl : vs.length = 9) (v0 v1 v2 v3 v4 v5 v6 v7 v8 : Value) : boxAt (puts9 w b v0 v1 v2 v3 v4 v5 v6 v7 v8) b [v0, v1, v2, v3, v4, v5, v6, v7, v8] := by
  match vs, hl with
  | [_, _, _, _, _, _, _, _, _], _ => exact ((((((((h.put 0 v0 (by simp)).put 1 v1 (by simp)).put 2 v2 (by simp)).put 3 v3 (by simp)).put 4 v4 (by simp)).put 5 v5 (by simp)).put 6 v6 (by simp)).put 7 v7 (by simp)).put 8 v8 (by simp)

set_option maxRecDepth 100000 in
set_option maxHeartbeats 4000000 in
theorem lexeme_blank (t : List UInt8) (a a1 : Nat) (w : World) (hT : (t.length : Int) ≤ 4294967280) (ha : a < t.length) (ha1 : a + 1 = a1) (k : Nat) (hk : k = 32 ∨ k = 9 ∨ k = 13) :
    Calls Tryz.prog 11 #[.string (st t), .int .i64 (a : Int), .int .i32 (k : Int)] w fun e w' => e = .returned (.tuple #[lxV 0 a a1 { data := #[] } 0 emptyS, .nilIface]) ∧ Gr w w' := by
  have hw1 : IntKind.i64.wrap ((a : Int) + 1) = (a1 : Int) := by rw [IntWalk.i64_in _ (by omega)]; omega
  rw [lxV_zero]
  clear ha1 hT ha
  rcases hk with rfl | rfl | rfl
  all_goals
    go_enter Tryz.func11, Tryz.ntmps11
    go_wp2_with fail
    refine bodyPost_ret (v := .tuple #[.agg #[.int .i64 0, .int .i64 (a : Int), .int .i64 (a1 : Int), .string { data := #[] }, .int .i64 0, .int .u64 0, .int .u64 0, .int .u64 0, .int .u64 0], .nilIface]) (by simp [results, Tryz.results11, go_sem]) rfl ?_
    exact ⟨rfl, Gr.alloc _ _⟩

set_option maxRecDepth 100000 in
set_option maxHeartbeats 4000000 in
theorem lexeme_lf (t : List UInt8) (a a1 : Nat) (w : World) (hT : (t.length : Int) ≤ 4294967280) (ha : a < t.length) (ha1 : a + 1 = a1) :
    Calls Tryz.prog 11 #[.string (st t), .int .i64 (a : Int), .int .i32 10] w fun e w' => e = .returned (.tuple #[lxV 6 a a1 { data := #[] } 0 emptyS, .nilIface]) ∧ Gr w w' := by
  have hw1 : IntKind.i64.wrap ((a : Int) + 1) = (a1 : Int) := by rw [IntWalk.i64_in _ (by omega)]; omega
  rw [lxV_zero]
  clear ha1 hT ha
  go_enter Tryz.func11, Tryz.ntmps11
  go_wp2_with fail
  refine bodyPost_ret (v := .tuple #[.agg #[.int .i64 6, .int .i64 (a : Int), .int .i64 (a1 : Int), .string { data := #[] }, .int .i64 0, .int .u64 0, .int .u64 0, .int .u64 0, .int .u64 0], .nilIface]) (by simp [results, Tryz.results11, go_sem]) rfl ?_
  exact ⟨rfl, Gr.alloc _ _⟩

set_option maxRecDepth 100000 in
set_option maxHeartbeats 4000000 in
theorem lexeme_name (t : List UInt8) (a a1 : Nat) (w : World) (hT : (t.length : Int) ≤ 4294967280) (ha : a < t.length) (ha1 : a + 1 = a1) (k : Nat) (hl : letK k = true) (e32 : ((k : Int) == 32) = false) (e9 : ((k : Int) == 9) = false) (e13 : ((k : Int) == 13) = false) (e35 : ((k : Int) == 35) = false) (e10 : ((k : Int) == 10) = false) (hs : runL furC (t.drop a) ≤ 32) :
    Calls Tryz.prog 11 #[.string (st t), .int .i64 (a : Int), .int .i32 (k : Int)] w fun e w' => e = .returned (.tuple #[lxV 1 a (a + runL furC (t.drop a) : Nat) (st ((t.drop a).take (runL furC (t.drop a)))) 0 emptyS, .nilIface]) ∧ Gr w w' := by
  have hw1 : IntKind.i64.wrap ((a : Int) + 1) = (a1 : Int) := by rw [IntWalk.i64_in _ (by omega)]; omega
  have hlet := Lib.hid (fun w => hl ▸ klet_any k w)
  have hrun := Lib.hid (fun w => run_fur t a w hT (Nat.le_of_lt ha))
  obtain ⟨E, hE⟩ : ∃ E, a + runL furC (t.drop a) = E := ⟨_, rfl⟩
  have hEl : a ≤ E ∧ E ≤ t.length := by have := runL_le furC (t.drop a); rw [List.length_drop] at this; omega
  rw [hE] at hrun
  obtain ⟨q, hq⟩ : ∃ q, (t.drop a).take (E - a) = q := ⟨_, rfl⟩
  have hsl := fun w' => run_sub (P := Tryz.prog) w' 9 t a E Tryz.underlying9 hEl.1 hEl.2
  rw [hq] at hsl
  have hql : q.length = E - a := by rw [← hq, List.length_take, List.length_drop]; omega
  have hqs := st_size q
  rw [show runL furC (t.drop a) = E - a by omega, hq, show a + (E - a) = E by omega, lxV_zero]
  have h32 : (q.length : Int) ≤ 32 := by omega
  have h32' : ¬ 32 < q.length := by omega
  clear hE hq ha1 hT ha hl hs hEl hql
  go_enter Tryz.func11, Tryz.ntmps11
  go_wp2_with first
    | (go_at_call 25; (with_reducible refine (hlet.out _).mono ?_); rintro e w1 ⟨rfl, rfl⟩)
    | (go_at_call 23; (with_reducible refine (hrun.out _).mono ?_); rintro e w1 ⟨rfl, rfl⟩)
  refine bodyPost_ret (v := .tuple #[.agg #[.int .i64 1, .int .i64 (a : Int), .int .i64 (E : Int), .string (st q), .int .i64 0, .int .u64 0, .int .u64 0, .int .u64 0, .int .u64 0], .nilIface]) (by simp [results, Tryz.results11, go_sem]) rfl ?_
  exact ⟨rfl, Gr.alloc _ _⟩

set_option maxRecDepth 100000 in
set_option maxHeartbeats 4000000 in
theorem lexeme_long (t : List UInt8) (a a1 : Nat) (w : World) (hT : (t.length : Int) ≤ 4294967280) (ha : a < t.length) (ha1 : a + 1 = a1) (k : Nat) (hl : letK k = true) (e32 : ((k : Int) == 32) = false) (e9 : ((k : Int) == 9) = false) (e13 : ((k : Int) == 13) = false) (e35 : ((k : Int) == 35) = false) (e10 : ((k : Int) == 10) = false) (hs : ¬ runL furC (t.drop a) ≤ 32) (es ed : Value) (hS : Sy0 w es ed) :
    Calls Tryz.prog 11 #[.string (st t), .int .i64 (a : Int), .int .i32 (k : Int)] w fun e w' => Gr w w' ∧ ∃ f tx er, e = .returned (.tuple #[lxV 1 a f tx 0 emptyS, er]) ∧ Refused w' w.heap.size es er (a : Int) := by
  have hw1 : IntKind.i64.wrap ((a : Int) + 1) = (a1 : Int) := by rw [IntWalk.i64_in _ (by omega)]; omega
  have hlet := Lib.hid (fun w => hl ▸ klet_any k w)
  have hrun := Lib.hid (fun w => run_fur t a w hT (Nat.le_of_lt ha))
  obtain ⟨E, hE⟩ : ∃ E, a + runL furC (t.drop a) = E := ⟨_, rfl⟩
  have hEl : a ≤ E ∧ E ≤ t.length := by have := runL_le furC (t.drop a); rw [List.length_drop] at this; omega
  rw [hE] at hrun
  obtain ⟨q, hq⟩ : ∃ q, (t.drop a).take (E - a) = q := ⟨_, rfl⟩
  have hsl := fun w' => run_sub (P := Tryz.prog) w' 9 t a E Tryz.underlying9 hEl.1 hEl.2
  rw [hq] at hsl
  have hql : q.length = E - a := by rw [← hq, List.length_take, List.length_drop]; omega
  have hqs := st_size q
  have h32 : 32 < (q.length : Int) := by omega
  have h32' : 32 < q.length := by omega
  clear hE hq ha1 hT ha hl hs hEl hql
  obtain ⟨ty, y, rfl⟩ := hS.synI
  have HC := hS.syn
  have hcell := fun o => (Gr.alloc w o).cell HC
  have HS := Lib.hid hS
  clear hS HC
  go_enter Tryz.func11, Tryz.ntmps11
  go_wp2_with first
    | (go_at_call 25; (with_reducible refine (hlet.out _).mono ?_); rintro e w1 ⟨rfl, rfl⟩)
    | (go_at_call 23; (with_reducible refine (hrun.out _).mono ?_); rintro e w1 ⟨rfl, rfl⟩)
  go_at_call 27
  refine name_calls (fun W hW => ?_)
  have xb : boxAt W w.heap.size [.int .i64 1, .int .i64 (a : Int), .int .i64 (E : Int), .string (st q), .int .i64 0, .int .u64 0, .int .u64 0, .int .u64 0, .int .u64 0] := boxAt.new _ _ hW
  have hg : Gr w W := by rw [hW]; exact Gr.alloc _ _
  have hlW : w.heap.size < W.heap.size := xb.lt (Nat.succ_pos _)
  clear hW hcell
  refine (place_any ty y (a : Int) W).mono ?_; rintro e w1 ⟨rfl, hb, hg1⟩
  replace xb := xb.later hg1
  have c_x0 := xb.cell 0 _ rfl
  have c_x1 := xb.cell 1 _ rfl
  have c_x2 := xb.cell 2 _ rfl
  have c_x3 := xb.cell 3 _ rfl
  have c_x4 := xb.cell 4 _ rfl
  have c_x5 := xb.cell 5 _ rfl
  have c_x6 := xb.cell 6 _ rfl
  have c_x7 := xb.cell 7 _ rfl
  have c_x8 := xb.cell 8 _ rfl
  have m_x0 := xb.mark 0 _ rfl
  have m_x1 := xb.mark 1 _ rfl
  have m_x2 := xb.mark 2 _ rfl
  have m_x3 := xb.mark 3 _ rfl
  have m_x4 := xb.mark 4 _ rfl
  have m_x5 := xb.mark 5 _ rfl
  have m_x6 := xb.mark 6 _ rfl
  have m_x7 := xb.mark 7 _ rfl
  have m_x8 := xb.mark 8 _ rfl
  have l_x := xb.lt (Nat.succ_pos _)
  go_wp2_with fail
  refine bodyPost_ret (v := .tuple #[.agg #[.int .i64 1, .int .i64 (a : Int), .int .i64 (E : Int), .string (st q), .int .i64 0, .int .u64 0, .int .u64 0, .int .u64 0, .int .u64 0], (.iface 71 (.pointer (some ⟨W.heap.size, 0, none⟩)))]) (by simp [results, Tryz.results11, go_sem, c_x0, c_x1, c_x2, c_x3, c_x4, c_x5, c_x6, c_x7, c_x8]) rfl ?_
  refine ⟨(hg.trans hg1).puts9 (Nat.le_refl _) _ _ _ _ _ _ _ _ _, _, _, _, by rw [lxV_zero], ?_⟩
  refine Refused.mono (B := W.heap.size) (Refused.puts9 ⟨_, rfl, hb, Nat.le_refl _⟩ hlW _ _ _ _ _ _ _ _ _) (Nat.le_of_lt hlW)


theorem while_run (l : List UInt8) : (l.takeWhile notLF).length = runL notLF l + ((l.drop (runL notLF l)).takeWhile notLF).length := by
  induction l with
  | nil => rfl
  | cons c l ih =>
    rw [runL_cons]
    cases hn : notLF c with
    | false => rw [List.takeWhile_cons, if_neg (by rw [hn]; decide), Bool.and_false, if_neg (by decide), List.drop_zero, List.takeWhile_cons, if_neg (by rw [hn]; decide)]; rfl
    | true =>
      by_cases h : c.toNat < 128
      · rw [show decide (c.toNat < 128) = true from by simpa using h, Bool.true_and, if_pos rfl, List.takeWhile_cons, if_pos hn, List.length_cons, List.drop_succ_cons, ih]; omega
      · rw [show decide (c.toNat < 128) = false from by simpa using h, Bool.false_and, if_neg (by decide), List.drop_zero, Nat.zero_add]
def endOf (b : Nat) (w : World) : Nat := match w.cell? ⟨b, 2, none⟩ with
  | some (.int _ q) => q.toNat
  | _ => 0
theorem endOf_is {w : World} {b k : Nat} {vs : List Value} (h : boxAt w b vs) (hv : vs[2]? = some (.int .i64 (k : Int))) : endOf b w = k := by
  unfold endOf; rw [boxAt.cell h 2 _ hv]; simp

set_option maxRecDepth 100000 in
set_option maxHeartbeats 4000000 in
theorem lexeme_remark (t : List UInt8) (a a1 : Nat) (w : World) (hT : (t.length : Int) ≤ 4294967280) (ha : a < t.length) (ha1 : a + 1 = a1) :
    Calls Tryz.prog 11 #[.string (st t), .int .i64 (a : Int), .int .i32 35] w fun e w' => e = .returned (.tuple #[lxV 0 a (a + ((t.drop a).takeWhile notLF).length : Nat) { data := #[] } 0 emptyS, .nilIface]) ∧ Gr w w' := by
  have hw1 : IntKind.i64.wrap ((a : Int) + 1) = (a1 : Int) := by rw [IntWalk.i64_in _ (by omega)]; omega
  rw [lxV_zero]
  have hsz := st_size t
  have hrun := Lib.hid (fun w => run_lf t a w hT (Nat.le_of_lt ha))
  obtain ⟨E1, hE1⟩ : ∃ E, a + runL notLF (t.drop a) = E := ⟨_, rfl⟩
  obtain ⟨E, hE⟩ : ∃ E, a + ((t.drop a).takeWhile notLF).length = E := ⟨_, rfl⟩
  have hE1l : E1 ≤ t.length := by have := runL_le notLF (t.drop a); rw [List.length_drop] at this; omega
  have hEE : Hid (E1 + ((t.drop E1).takeWhile notLF).length = E) := Lib.hid (by rw [← hE, while_run (t.drop a), List.drop_drop, ← hE1]; omega)
  rw [hE1] at hrun
  rw [hE]
  have HT := Lib.hid hT
  clear hE hE1 ha1 hT ha
  go_enter Tryz.func11, Tryz.ntmps11
  go_wp2_with (go_at_call 23; (with_reducible refine (hrun.out _).mono ?_); rintro e w1 ⟨rfl, rfl⟩)
  go_loopw [] (fun wr => ∃ j : Nat, j ≤ t.length ∧ Hid (j + ((t.drop j).takeWhile notLF).length = E) ∧ boxAt wr w.heap.size [.int .i64 0, .int .i64 (a : Int), .int .i64 (j : Int), .string { data := #[] }, .int .i64 0, .int .u64 0, .int .u64 0, .int .u64 0, .int .u64 0] ∧ Gr w wr) (fun wr => t.length - endOf w.heap.size wr)
  case atStart => exact ⟨E1, hE1l, hEE, boxAt.new _ _ rfl, Gr.alloc _ _⟩
  case round =>
    obtain ⟨j, hj, hJ, xb, hg⟩ := hrel
    have HX := Lib.hid xb
    have c_x0 := xb.cell 0 _ rfl
    have c_x1 := xb.cell 1 _ rfl
    have c_x2 := xb.cell 2 _ rfl
    have c_x3 := xb.cell 3 _ rfl
    have c_x4 := xb.cell 4 _ rfl
    have c_x5 := xb.cell 5 _ rfl
    have c_x6 := xb.cell 6 _ rfl
    have c_x7 := xb.cell 7 _ rfl
    have c_x8 := xb.cell 8 _ rfl
    have m_x0 := xb.mark 0 _ rfl
    have m_x1 := xb.mark 1 _ rfl
    have m_x2 := xb.mark 2 _ rfl
    have m_x3 := xb.mark 3 _ rfl
    have m_x4 := xb.mark 4 _ rfl
    have m_x5 := xb.mark 5 _ rfl
    have m_x6 := xb.mark 6 _ rfl
    have m_x7 := xb.mark 7 _ rfl
    have m_x8 := xb.mark 8 _ rfl
    have l_x := xb.lt (Nat.succ_pos _)
    clear xb
    cases hc : t[j]? with
    | none =>
      have hl : j = t.length := by
        rcases Nat.lt_or_ge j t.length with h | h
        · rw [List.getElem?_eq_getElem h] at hc; cases hc
        · omega
      have HR : Hid (E = t.length) := Lib.hid (by have := hJ.out; rw [hl, List.drop_length] at this; simpa using this.symm)
      subst hl
      clear hc hj
      go_wp2_with fail
      refine bodyPost_ret (v := .tuple #[.agg #[.int .i64 0, .int .i64 (a : Int), .int .i64 (t.length : Int), .string { data := #[] }, .int .i64 0, .int .u64 0, .int .u64 0, .int .u64 0, .int .u64 0], .nilIface]) (by simp [results, Tryz.results11, go_sem, c_x0, c_x1, c_x2, c_x3, c_x4, c_x5, c_x6, c_x7, c_x8]) rfl ?_
      refine ⟨?_, hg.puts9 (Nat.le_refl _) _ _ _ _ _ _ _ _ _⟩
      rw [HR.out]
    | some c =>
      have hjl : j < t.length := (List.getElem?_eq_some_iff.1 hc).1
      have hd := drop_at t j c hc
      have hix := fun w' => run_at (P := Tryz.prog) w' 9 t j c .i64 Tryz.underlying9 hc
      have hjI : (j : Int) < (t.length : Int) := by omega
      have hc256 := c.toNat_lt
      by_cases h10 : c.toNat = 10
      · have hcc : c = 10 := (u8_eq c 10 (by omega)).2 h10
        have HR : Hid (E = j) := Lib.hid (by rw [← hJ.out, hd, List.takeWhile_cons, if_neg (by rw [hcc]; decide)]; rfl)
        rw [h10] at hix
        simp only [Int.cast_ofNat_Int] at hix
        clear hc hd h10 hc256 hj
        go_wp2_with fail
        refine bodyPost_ret (v := .tuple #[.agg #[.int .i64 0, .int .i64 (a : Int), .int .i64 (j : Int), .string { data := #[] }, .int .i64 0, .int .u64 0, .int .u64 0, .int .u64 0, .int .u64 0], .nilIface]) (by simp [results, Tryz.results11, go_sem, c_x0, c_x1, c_x2, c_x3, c_x4, c_x5, c_x6, c_x7, c_x8]) rfl ?_
        refine ⟨?_, hg.puts9 (Nat.le_refl _) _ _ _ _ _ _ _ _ _⟩
        rw [HR.out]
      · have hcc : ¬ c = 10 := fun h => h10 ((u8_eq c 10 (by omega)).1 h)
        have e10 : ((c.toNat : Int) == 10) = false := by rw [beq_eq_false_iff_ne]; omega
        obtain ⟨j1, hj1⟩ : ∃ x, j + 1 = x := ⟨_, rfl⟩
        have hwj : IntKind.i64.wrap ((j : Int) + 1) = (j1 : Int) := by rw [IntWalk.i64_in _ (by have := HT.out; omega)]; omega
        have HJ1 : Hid (j1 + ((t.drop j1).takeWhile notLF).length = E) := Lib.hid (by
          rw [← hJ.out, hd, List.takeWhile_cons, if_pos (by unfold notLF; simp [hcc]), List.length_cons, hj1]; omega)
        have HL := Lib.hid (show j + 1 = j1 ∧ j1 ≤ t.length from by omega)
        clear hc hd h10 hc256 hj hcc hj1
        go_wp2_with fail
        go_roundw
        case rel => exact ⟨j1, HL.out.2, HJ1, HX.out.put 2 _ (by simp), hg.setCell (p := ⟨w.heap.size, 2, none⟩) (Nat.le_refl _) _⟩
        case measure =>
          rw [endOf_is (k := j1) (HX.out.put 2 _ (by simp)) rfl, endOf_is (k := j) HX.out rfl]
          have := HL.out; omega

set_option maxRecDepth 100000 in
set_option maxHeartbeats 4000000 in
theorem lexeme_num (t : List UInt8) (a a1 : Nat) (w : World) (hT : (t.length : Int) ≤ 4294967280) (ha : a < t.length) (ha1 : a + 1 = a1) (k : Nat) (hl : letK k = false) (hd : digK k = true) (e32 : ((k : Int) == 32) = false) (e9 : ((k : Int) == 9) = false) (e13 : ((k : Int) == 13) = false) (e35 : ((k : Int) == 35) = false) (e10 : ((k : Int) == 10) = false) :
    Calls Tryz.prog 11 #[.string (st t), .int .i64 (a : Int), .int .i32 (k : Int)] w fun e w' => e = .returned (.tuple #[lxV 2 a (a + runL digC (t.drop a) : Nat) { data := #[] } (numP ((t.drop a).take (runL digC (t.drop a)))) emptyS, .nilIface]) ∧ Gr w w' := by
  have hw1 : IntKind.i64.wrap ((a : Int) + 1) = (a1 : Int) := by rw [IntWalk.i64_in _ (by omega)]; omega
  rw [lxV_zero]
  have hlet := Lib.hid (fun w => hl ▸ klet_any k w)
  have hdig := Lib.hid (fun w => hd ▸ kdig_any k w)
  have hrun := Lib.hid (fun w => run_dig t a w hT (Nat.le_of_lt ha))
  obtain ⟨E, hE⟩ : ∃ E, a + runL digC (t.drop a) = E := ⟨_, rfl⟩
  have hEl : a ≤ E ∧ E ≤ t.length := by have := runL_le digC (t.drop a); rw [List.length_drop] at this; omega
  rw [hE] at hrun
  obtain ⟨q, hq⟩ : ∃ q, (t.drop a).take (E - a) = q := ⟨_, rfl⟩
  have hsl := fun w' => run_sub (P := Tryz.prog) w' 9 t a E Tryz.underlying9 hEl.1 hEl.2
  rw [hq] at hsl
  have hql : q.length ≤ t.length := by rw [← hq, List.length_take, List.length_drop]; omega
  have hqd : ∀ c ∈ q, digC c = true := by
    intro c hc
    rw [← hq, show E - a = runL digC (t.drop a) by omega] at hc
    exact run_mem digC _ c hc
  have hnum := Lib.hid (fun w => number_any q w (by omega) hqd)
  rw [show runL digC (t.drop a) = E - a by omega, hq, show a + (E - a) = E by omega]
  obtain ⟨m, hm⟩ : ∃ m, numP q = m := ⟨_, rfl⟩
  rw [hm] at hnum ⊢
  clear hE hq ha1 hT ha hl hd hEl hql hqd hm
  go_enter Tryz.func11, Tryz.ntmps11
  go_wp2_with first
    | (go_at_call 25; (with_reducible refine (hlet.out _).mono ?_); rintro e w1 ⟨rfl, rfl⟩)
    | (go_at_call 28; (with_reducible refine (hdig.out _).mono ?_); rintro e w1 ⟨rfl, rfl⟩)
    | (go_at_call 29; (with_reducible refine (hnum.out _).mono ?_); rintro e w1 ⟨rfl, rfl⟩)
    | (go_at_call 23; (with_reducible refine (hrun.out _).mono ?_); rintro e w1 ⟨rfl, rfl⟩)
  refine bodyPost_ret (v := .tuple #[.agg #[.int .i64 2, .int .i64 (a : Int), .int .i64 (E : Int), .string { data := #[] }, .int .i64 (m : Int), .int .u64 0, .int .u64 0, .int .u64 0, .int .u64 0], .nilIface]) (by simp [results, Tryz.results11, go_sem]) rfl ?_
  exact ⟨rfl, Gr.alloc _ _⟩

theorem no_letter_34 (w : World) : Calls Tryz.prog 25 #[.int .i32 34] w fun e w' => e = .returned (.bool false) ∧ w' = w := klet_any 34 w
theorem no_digit_34 (w : World) : Calls Tryz.prog 28 #[.int .i32 34] w fun e w' => e = .returned (.bool false) ∧ w' = w := kdig_any 34 w
theorem no_letter_91 (w : World) : Calls Tryz.prog 25 #[.int .i32 91] w fun e w' => e = .returned (.bool false) ∧ w' = w := klet_any 91 w
theorem no_digit_91 (w : World) : Calls Tryz.prog 28 #[.int .i32 91] w fun e w' => e = .returned (.bool false) ∧ w' = w := kdig_any 91 w
theorem no_letter_46 (w : World) : Calls Tryz.prog 25 #[.int .i32 46] w fun e w' => e = .returned (.bool false) ∧ w' = w := klet_any 46 w
theorem no_digit_46 (w : World) : Calls Tryz.prog 28 #[.int .i32 46] w fun e w' => e = .returned (.bool false) ∧ w' = w := kdig_any 46 w
set_option maxRecDepth 100000 in
set_option maxHeartbeats 4000000 in
theorem lexeme_text_ok (t : List UInt8) (a a1 : Nat) (w : World) (hT : (t.length : Int) ≤ 4294967280) (ha : a < t.length) (ha1 : a + 1 = a1) (es ed : Value) (hS : Sy0 w es ed) (s r : List UInt8) (hX : unquoteP t (a : Int) = .ok s r) :
    Calls Tryz.prog 11 #[.string (st t), .int .i64 (a : Int), .int .i32 34] w fun e w' => Gr w w' ∧ e = .returned (.tuple #[lxV 3 a (t.length - r.length : Nat) (st s) 0 emptyS, .nilIface]) := by
  have hw1 : IntKind.i64.wrap ((a : Int) + 1) = (a1 : Int) := by rw [IntWalk.i64_in _ (by omega)]; omega
  have hlet := Lib.hid (no_letter_34)
  have hdig := Lib.hid (no_digit_34)
  have HS := Lib.hid hS
  have HT := Lib.hid hT
  clear ha1 hT ha hS
  go_enter Tryz.func11, Tryz.ntmps11
  go_wp2_with first
    | (go_at_call 25; (with_reducible refine (hlet.out _).mono ?_); rintro e w1 ⟨rfl, rfl⟩)
    | (go_at_call 28; (with_reducible refine (hdig.out _).mono ?_); rintro e w1 ⟨rfl, rfl⟩)
  go_at_call 30
  refine name_calls (fun W hW => ?_)
  have xb : boxAt W w.heap.size [.int .i64 3, .int .i64 (a : Int), .int .i64 (a1 : Int), .string { data := #[] }, .int .i64 0, .int .u64 0, .int .u64 0, .int .u64 0, .int .u64 0] := boxAt.new _ _ hW
  have hg : Gr w W := by rw [hW]; exact Gr.alloc _ _
  have hlW : w.heap.size < W.heap.size := xb.lt (Nat.succ_pos _)
  clear hW
  have hu := unquote_any t (a : Int) es ed W HT.out (HS.out.later hg)
  rw [hX] at hu
  refine hu.mono ?_
  rintro e w1 ⟨hg1, hm⟩
  clear hu
  replace xb := xb.later hg1
  have hG := hg.trans hg1
  have c_x0 := xb.cell 0 _ rfl
  have c_x1 := xb.cell 1 _ rfl
  have c_x2 := xb.cell 2 _ rfl
  have c_x3 := xb.cell 3 _ rfl
  have c_x4 := xb.cell 4 _ rfl
  have c_x5 := xb.cell 5 _ rfl
  have c_x6 := xb.cell 6 _ rfl
  have c_x7 := xb.cell 7 _ rfl
  have c_x8 := xb.cell 8 _ rfl
  have m_x0 := xb.mark 0 _ rfl
  have m_x1 := xb.mark 1 _ rfl
  have m_x2 := xb.mark 2 _ rfl
  have m_x3 := xb.mark 3 _ rfl
  have m_x4 := xb.mark 4 _ rfl
  have m_x5 := xb.mark 5 _ rfl
  have m_x6 := xb.mark 6 _ rfl
  have m_x7 := xb.mark 7 _ rfl
  have m_x8 := xb.mark 8 _ rfl
  have l_x := xb.lt (Nat.succ_pos _)
  simp only at hm
  subst hm
  obtain ⟨E, hE⟩ : ∃ E, t.length - r.length = E := ⟨_, rfl⟩
  rw [hE]
  have HE := Lib.hid hE
  clear hX hE
  go_wp2_with fail
  refine name_end (fun W3 hW3 => ?_)
  have yb : boxAt W3 w.heap.size [.int .i64 3, .int .i64 (a : Int), .int .i64 (E : Int), .string (st s), .int .i64 0, .int .u64 0, .int .u64 0, .int .u64 0, .int .u64 0] := by subst hW3; exact boxAt.puts9 ((xb.put 3 _ (by simp)).put 2 _ (by simp)) rfl _ _ _ _ _ _ _ _ _
  have c_y0 := yb.cell 0 _ rfl
  have c_y1 := yb.cell 1 _ rfl
  have c_y2 := yb.cell 2 _ rfl
  have c_y3 := yb.cell 3 _ rfl
  have c_y4 := yb.cell 4 _ rfl
  have c_y5 := yb.cell 5 _ rfl
  have c_y6 := yb.cell 6 _ rfl
  have c_y7 := yb.cell 7 _ rfl
  have c_y8 := yb.cell 8 _ rfl
  have m_y0 := yb.mark 0 _ rfl
  have m_y1 := yb.mark 1 _ rfl
  have m_y2 := yb.mark 2 _ rfl
  have m_y3 := yb.mark 3 _ rfl
  have m_y4 := yb.mark 4 _ rfl
  have m_y5 := yb.mark 5 _ rfl
  have m_y6 := yb.mark 6 _ rfl
  have m_y7 := yb.mark 7 _ rfl
  have m_y8 := yb.mark 8 _ rfl
  have l_y := yb.lt (Nat.succ_pos _)
  refine bodyPost_ret (v := .tuple #[lxV 3 (a : Int) (E : Int) (st s) 0 emptyS, .nilIface]) (by simp [lxV_zero, results, Tryz.results11, go_sem, c_y0, c_y1, c_y2, c_y3, c_y4, c_y5, c_y6, c_y7, c_y8]) rfl ?_
  subst hW3
  exact ⟨Gr.puts9 (((hG.setCell (p := ⟨w.heap.size, 3, none⟩) (Nat.le_refl _) _).setCell (p := ⟨w.heap.size, 2, none⟩) (Nat.le_refl _) _)) (Nat.le_refl _) _ _ _ _ _ _ _ _ _, by rw [HE.out]⟩

set_option maxRecDepth 100000 in
set_option maxHeartbeats 4000000 in
theorem lexeme_text_bad (t : List UInt8) (a a1 : Nat) (w : World) (hT : (t.length : Int) ≤ 4294967280) (ha : a < t.length) (ha1 : a + 1 = a1) (es ed : Value) (hS : Sy0 w es ed) (r : List UInt8) (hX : unquoteP t (a : Int) = .bad r) :
    Calls Tryz.prog 11 #[.string (st t), .int .i64 (a : Int), .int .i32 34] w fun e w' => Gr w w' ∧ ∃ er, e = .returned (.tuple #[lxV 3 a 0 { data := #[] } 0 emptyS, er]) ∧ Refused w' w.heap.size es er ((t.length - r.length : Nat) : Int) := by
  have hw1 : IntKind.i64.wrap ((a : Int) + 1) = (a1 : Int) := by rw [IntWalk.i64_in _ (by omega)]; omega
  have hlet := Lib.hid (no_letter_34)
  have hdig := Lib.hid (no_digit_34)
  have HS := Lib.hid hS
  have HT := Lib.hid hT
  clear ha1 hT ha hS
  go_enter Tryz.func11, Tryz.ntmps11
  go_wp2_with first
    | (go_at_call 25; (with_reducible refine (hlet.out _).mono ?_); rintro e w1 ⟨rfl, rfl⟩)
    | (go_at_call 28; (with_reducible refine (hdig.out _).mono ?_); rintro e w1 ⟨rfl, rfl⟩)
  go_at_call 30
  refine name_calls (fun W hW => ?_)
  have xb : boxAt W w.heap.size [.int .i64 3, .int .i64 (a : Int), .int .i64 (a1 : Int), .string { data := #[] }, .int .i64 0, .int .u64 0, .int .u64 0, .int .u64 0, .int .u64 0] := boxAt.new _ _ hW
  have hg : Gr w W := by rw [hW]; exact Gr.alloc _ _
  have hlW : w.heap.size < W.heap.size := xb.lt (Nat.succ_pos _)
  clear hW
  have hu := unquote_any t (a : Int) es ed W HT.out (HS.out.later hg)
  rw [hX] at hu
  refine hu.mono ?_
  rintro e w1 ⟨hg1, hm⟩
  clear hu
  replace xb := xb.later hg1
  have hG := hg.trans hg1
  have c_x0 := xb.cell 0 _ rfl
  have c_x1 := xb.cell 1 _ rfl
  have c_x2 := xb.cell 2 _ rfl
  have c_x3 := xb.cell 3 _ rfl
  have c_x4 := xb.cell 4 _ rfl
  have c_x5 := xb.cell 5 _ rfl
  have c_x6 := xb.cell 6 _ rfl
  have c_x7 := xb.cell 7 _ rfl
  have c_x8 := xb.cell 8 _ rfl
  have m_x0 := xb.mark 0 _ rfl
  have m_x1 := xb.mark 1 _ rfl
  have m_x2 := xb.mark 2 _ rfl
  have m_x3 := xb.mark 3 _ rfl
  have m_x4 := xb.mark 4 _ rfl
  have m_x5 := xb.mark 5 _ rfl
  have m_x6 := xb.mark 6 _ rfl
  have m_x7 := xb.mark 7 _ rfl
  have m_x8 := xb.mark 8 _ rfl
  have l_x := xb.lt (Nat.succ_pos _)
  simp only at hm
  obtain ⟨er, rfl, hr⟩ := hm
  obtain ⟨ty, y, rfl⟩ := hr.iface
  have HR := Lib.hid hr
  clear hX hr
  go_wp2_with fail
  refine name_end (fun W3 hW3 => ?_)
  have yb : boxAt W3 w.heap.size [.int .i64 3, .int .i64 (a : Int), .int .i64 0, .string { data := #[] }, .int .i64 0, .int .u64 0, .int .u64 0, .int .u64 0, .int .u64 0] := by subst hW3; exact boxAt.puts9 ((xb.put 3 _ (by simp)).put 2 _ (by simp)) rfl _ _ _ _ _ _ _ _ _
  have c_y0 := yb.cell 0 _ rfl
  have c_y1 := yb.cell 1 _ rfl
  have c_y2 := yb.cell 2 _ rfl
  have c_y3 := yb.cell 3 _ rfl
  have c_y4 := yb.cell 4 _ rfl
  have c_y5 := yb.cell 5 _ rfl
  have c_y6 := yb.cell 6 _ rfl
  have c_y7 := yb.cell 7 _ rfl
  have c_y8 := yb.cell 8 _ rfl
  have m_y0 := yb.mark 0 _ rfl
  have m_y1 := yb.mark 1 _ rfl
  have m_y2 := yb.mark 2 _ rfl
  have m_y3 := yb.mark 3 _ rfl
  have m_y4 := yb.mark 4 _ rfl
  have m_y5 := yb.mark 5 _ rfl
  have m_y6 := yb.mark 6 _ rfl
  have m_y7 := yb.mark 7 _ rfl
  have m_y8 := yb.mark 8 _ rfl
  have l_y := yb.lt (Nat.succ_pos _)
  refine bodyPost_ret (v := .tuple #[lxV 3 (a : Int) 0 { data := #[] } 0 emptyS, .iface ty y]) (by simp [lxV_zero, results, Tryz.results11, go_sem, c_y0, c_y1, c_y2, c_y3, c_y4, c_y5, c_y6, c_y7, c_y8]) rfl ?_
  subst hW3
  refine ⟨Gr.puts9 (((hG.setCell (p := ⟨w.heap.size, 3, none⟩) (Nat.le_refl _) _).setCell (p := ⟨w.heap.size, 2, none⟩) (Nat.le_refl _) _)) (Nat.le_refl _) _ _ _ _ _ _ _ _ _, _, rfl, ?_⟩
  exact Refused.mono (B := W.heap.size) (Refused.puts9 ((HR.out.put ⟨w.heap.size, 3, none⟩ _ hlW).put ⟨w.heap.size, 2, none⟩ _ hlW) hlW _ _ _ _ _ _ _ _ _) (Nat.le_of_lt hlW)

set_option maxRecDepth 100000 in
set_option maxHeartbeats 4000000 in
theorem lexeme_set_ok (t : List UInt8) (a a1 : Nat) (w : World) (hT : (t.length : Int) ≤ 4294967280) (ha : a < t.length) (ha1 : a + 1 = a1) (es ed : Value) (hS : Sy0 w es ed) (s : BitVec 256) (r : List UInt8) (hX : parseP t (a : Int) = .ok s r) :
    Calls Tryz.prog 11 #[.string (st t), .int .i64 (a : Int), .int .i32 91] w fun e w' => Gr w w' ∧ e = .returned (.tuple #[lxV 4 a (t.length - r.length : Nat) { data := #[] } 0 s, .nilIface]) := by
  have hw1 : IntKind.i64.wrap ((a : Int) + 1) = (a1 : Int) := by rw [IntWalk.i64_in _ (by omega)]; omega
  have hlet := Lib.hid (no_letter_91)
  have hdig := Lib.hid (no_digit_91)
  have HS := Lib.hid hS
  have HT := Lib.hid hT
  clear ha1 hT ha hS
  go_enter Tryz.func11, Tryz.ntmps11
  go_wp2_with first
    | (go_at_call 25; (with_reducible refine (hlet.out _).mono ?_); rintro e w1 ⟨rfl, rfl⟩)
    | (go_at_call 28; (with_reducible refine (hdig.out _).mono ?_); rintro e w1 ⟨rfl, rfl⟩)
  go_at_call 31
  refine name_calls (fun W hW => ?_)
  have xb : boxAt W w.heap.size [.int .i64 4, .int .i64 (a : Int), .int .i64 (a1 : Int), .string { data := #[] }, .int .i64 0, .int .u64 0, .int .u64 0, .int .u64 0, .int .u64 0] := boxAt.new _ _ hW
  have hg : Gr w W := by rw [hW]; exact Gr.alloc _ _
  have hlW : w.heap.size < W.heap.size := xb.lt (Nat.succ_pos _)
  clear hW
  have hu := parse_any t (a : Int) es ed W HT.out (HS.out.later hg)
  rw [hX] at hu
  refine hu.mono ?_
  rintro e w1 ⟨hg1, hm⟩
  clear hu
  replace xb := xb.later hg1
  have hG := hg.trans hg1
  have c_x0 := xb.cell 0 _ rfl
  have c_x1 := xb.cell 1 _ rfl
  have c_x2 := xb.cell 2 _ rfl
  have c_x3 := xb.cell 3 _ rfl
  have c_x4 := xb.cell 4 _ rfl
  have c_x5 := xb.cell 5 _ rfl
  have c_x6 := xb.cell 6 _ rfl
  have c_x7 := xb.cell 7 _ rfl
  have c_x8 := xb.cell 8 _ rfl
  have m_x0 := xb.mark 0 _ rfl
  have m_x1 := xb.mark 1 _ rfl
  have m_x2 := xb.mark 2 _ rfl
  have m_x3 := xb.mark 3 _ rfl
  have m_x4 := xb.mark 4 _ rfl
  have m_x5 := xb.mark 5 _ rfl
  have m_x6 := xb.mark 6 _ rfl
  have m_x7 := xb.mark 7 _ rfl
  have m_x8 := xb.mark 8 _ rfl
  have l_x := xb.lt (Nat.succ_pos _)
  simp only at hm
  subst hm
  obtain ⟨E, hE⟩ : ∃ E, t.length - r.length = E := ⟨_, rfl⟩
  rw [hE]
  have HE := Lib.hid hE
  clear hX hE
  go_wp2_with fail
  refine name_end (fun W3 hW3 => ?_)
  have yb : boxAt W3 w.heap.size [.int .i64 4, .int .i64 (a : Int), .int .i64 (E : Int), .string { data := #[] }, .int .i64 0, .int .u64 (wd s 0), .int .u64 (wd s 1), .int .u64 (wd s 2), .int .u64 (wd s 3)] := by subst hW3; exact boxAt.puts9 (((((xb.put 5 _ (by simp)).put 6 _ (by simp)).put 7 _ (by simp)).put 8 _ (by simp)).put 2 _ (by simp)) rfl _ _ _ _ _ _ _ _ _
  have c_y0 := yb.cell 0 _ rfl
  have c_y1 := yb.cell 1 _ rfl
  have c_y2 := yb.cell 2 _ rfl
  have c_y3 := yb.cell 3 _ rfl
  have c_y4 := yb.cell 4 _ rfl
  have c_y5 := yb.cell 5 _ rfl
  have c_y6 := yb.cell 6 _ rfl
  have c_y7 := yb.cell 7 _ rfl
  have c_y8 := yb.cell 8 _ rfl
  have m_y0 := yb.mark 0 _ rfl
  have m_y1 := yb.mark 1 _ rfl
  have m_y2 := yb.mark 2 _ rfl
  have m_y3 := yb.mark 3 _ rfl
  have m_y4 := yb.mark 4 _ rfl
  have m_y5 := yb.mark 5 _ rfl
  have m_y6 := yb.mark 6 _ rfl
  have m_y7 := yb.mark 7 _ rfl
  have m_y8 := yb.mark 8 _ rfl
  have l_y := yb.lt (Nat.succ_pos _)
  refine bodyPost_ret (v := .tuple #[lxV 4 (a : Int) (E : Int) { data := #[] } 0 s, .nilIface]) (by simp [lxV, results, Tryz.results11, go_sem, c_y0, c_y1, c_y2, c_y3, c_y4, c_y5, c_y6, c_y7, c_y8]) rfl ?_
  subst hW3
  exact ⟨Gr.puts9 (((((hG.setCell (p := ⟨w.heap.size, 5, none⟩) (Nat.le_refl _) _).setCell (p := ⟨w.heap.size, 6, none⟩) (Nat.le_refl _) _).setCell (p := ⟨w.heap.size, 7, none⟩) (Nat.le_refl _) _).setCell (p := ⟨w.heap.size, 8, none⟩) (Nat.le_refl _) _).setCell (p := ⟨w.heap.size, 2, none⟩) (Nat.le_refl _) _) (Nat.le_refl _) _ _ _ _ _ _ _ _ _, by rw [HE.out]⟩

set_option maxRecDepth 100000 in
set_option maxHeartbeats 4000000 in
theorem lexeme_set_bad (t : List UInt8) (a a1 : Nat) (w : World) (hT : (t.length : Int) ≤ 4294967280) (ha : a < t.length) (ha1 : a + 1 = a1) (es ed : Value) (hS : Sy0 w es ed) (d : Bool) (r : List UInt8) (hX : parseP t (a : Int) = .bad d r) :
    Calls Tryz.prog 11 #[.string (st t), .int .i64 (a : Int), .int .i32 91] w fun e w' => Gr w w' ∧ ∃ er, e = .returned (.tuple #[lxV 4 a 0 { data := #[] } 0 emptyS, er]) ∧ Refused w' w.heap.size (refE es ed d) er ((t.length - r.length : Nat) : Int) := by
  have hw1 : IntKind.i64.wrap ((a : Int) + 1) = (a1 : Int) := by rw [IntWalk.i64_in _ (by omega)]; omega
  have hlet := Lib.hid (no_letter_91)
  have hdig := Lib.hid (no_digit_91)
  have HS := Lib.hid hS
  have HT := Lib.hid hT
  clear ha1 hT ha hS
  go_enter Tryz.func11, Tryz.ntmps11
  go_wp2_with first
    | (go_at_call 25; (with_reducible refine (hlet.out _).mono ?_); rintro e w1 ⟨rfl, rfl⟩)
    | (go_at_call 28; (with_reducible refine (hdig.out _).mono ?_); rintro e w1 ⟨rfl, rfl⟩)
  go_at_call 31
  refine name_calls (fun W hW => ?_)
  have xb : boxAt W w.heap.size [.int .i64 4, .int .i64 (a : Int), .int .i64 (a1 : Int), .string { data := #[] }, .int .i64 0, .int .u64 0, .int .u64 0, .int .u64 0, .int .u64 0] := boxAt.new _ _ hW
  have hg : Gr w W := by rw [hW]; exact Gr.alloc _ _
  have hlW : w.heap.size < W.heap.size := xb.lt (Nat.succ_pos _)
  clear hW
  have hu := parse_any t (a : Int) es ed W HT.out (HS.out.later hg)
  rw [hX] at hu
  refine hu.mono ?_
  rintro e w1 ⟨hg1, hm⟩
  clear hu
  replace xb := xb.later hg1
  have hG := hg.trans hg1
  have c_x0 := xb.cell 0 _ rfl
  have c_x1 := xb.cell 1 _ rfl
  have c_x2 := xb.cell 2 _ rfl
  have c_x3 := xb.cell 3 _ rfl
  have c_x4 := xb.cell 4 _ rfl
  have c_x5 := xb.cell 5 _ rfl
  have c_x6 := xb.cell 6 _ rfl
  have c_x7 := xb.cell 7 _ rfl
  have c_x8 := xb.cell 8 _ rfl
  have m_x0 := xb.mark 0 _ rfl
  have m_x1 := xb.mark 1 _ rfl
  have m_x2 := xb.mark 2 _ rfl
  have m_x3 := xb.mark 3 _ rfl
  have m_x4 := xb.mark 4 _ rfl
  have m_x5 := xb.mark 5 _ rfl
  have m_x6 := xb.mark 6 _ rfl
  have m_x7 := xb.mark 7 _ rfl
  have m_x8 := xb.mark 8 _ rfl
  have l_x := xb.lt (Nat.succ_pos _)
  simp only at hm
  obtain ⟨er, rfl, hr⟩ := hm
  obtain ⟨ty, y, rfl⟩ := hr.iface
  have HR := Lib.hid hr
  clear hX hr
  go_wp2_with fail
  refine name_end (fun W3 hW3 => ?_)
  have yb : boxAt W3 w.heap.size [.int .i64 4, .int .i64 (a : Int), .int .i64 0, .string { data := #[] }, .int .i64 0, .int .u64 0, .int .u64 0, .int .u64 0, .int .u64 0] := by subst hW3; exact boxAt.puts9 (((((xb.put 5 _ (by simp)).put 6 _ (by simp)).put 7 _ (by simp)).put 8 _ (by simp)).put 2 _ (by simp)) rfl _ _ _ _ _ _ _ _ _
  have c_y0 := yb.cell 0 _ rfl
  have c_y1 := yb.cell 1 _ rfl
  have c_y2 := yb.cell 2 _ rfl
  have c_y3 := yb.cell 3 _ rfl
  have c_y4 := yb.cell 4 _ rfl
  have c_y5 := yb.cell 5 _ rfl
  have c_y6 := yb.cell 6 _ rfl
  have c_y7 := yb.cell 7 _ rfl
  have c_y8 := yb.cell 8 _ rfl
  have m_y0 := yb.mark 0 _ rfl
  have m_y1 := yb.mark 1 _ rfl
  have m_y2 := yb.mark 2 _ rfl
  have m_y3 := yb.mark 3 _ rfl
  have m_y4 := yb.mark 4 _ rfl
  have m_y5 := yb.mark 5 _ rfl
  have m_y6 := yb.mark 6 _ rfl
  have m_y7 := yb.mark 7 _ rfl
  have m_y8 := yb.mark 8 _ rfl
  have l_y := yb.lt (Nat.succ_pos _)
  refine bodyPost_ret (v := .tuple #[lxV 4 (a : Int) 0 { data := #[] } 0 emptyS, .iface ty y]) (by simp [lxV_zero, results, Tryz.results11, go_sem, c_y0, c_y1, c_y2, c_y3, c_y4, c_y5, c_y6, c_y7, c_y8]) rfl ?_
  subst hW3
  refine ⟨Gr.puts9 (((((hG.setCell (p := ⟨w.heap.size, 5, none⟩) (Nat.le_refl _) _).setCell (p := ⟨w.heap.size, 6, none⟩) (Nat.le_refl _) _).setCell (p := ⟨w.heap.size, 7, none⟩) (Nat.le_refl _) _).setCell (p := ⟨w.heap.size, 8, none⟩) (Nat.le_refl _) _).setCell (p := ⟨w.heap.size, 2, none⟩) (Nat.le_refl _) _) (Nat.le_refl _) _ _ _ _ _ _ _ _ _, _, rfl, ?_⟩
  exact Refused.mono (B := W.heap.size) (Refused.puts9 (((((HR.out.put ⟨w.heap.size, 5, none⟩ _ hlW).put ⟨w.heap.size, 6, none⟩ _ hlW).put ⟨w.heap.size, 7, none⟩ _ hlW).put ⟨w.heap.size, 8, none⟩ _ hlW).put ⟨w.heap.size, 2, none⟩ _ hlW) hlW _ _ _ _ _ _ _ _ _) (Nat.le_of_lt hlW)

theorem Sl.lit1 (c : UInt8) (x : Int) (w W : World) (hx : x = (c.toNat : Int)) (hW : W = w.alloc (.cells #[.int .u8 x] 5)) : Sl W (.slice (some ⟨w.heap.size, 0, none⟩) 1 1) 1 ([c] : List UInt8).length (([c] : List UInt8).map vB) :=
  ⟨rfl, by unfold maxLen; simp, .inr ⟨_, _, _, rfl, fun _ => by subst hW; simp, fun j u hj => by
    subst hx
    have := (boxAt.new (w := w) (W := W) [vB c] 5 hW).cell j u hj
    rw [Nat.zero_add]; exact this⟩⟩

set_option maxRecDepth 100000 in
set_option maxHeartbeats 4000000 in
theorem lexeme_point (t : List UInt8) (a a1 : Nat) (w : World) (hT : (t.length : Int) ≤ 4294967280) (ha : a < t.length) (ha1 : a + 1 = a1) :
    Calls Tryz.prog 11 #[.string (st t), .int .i64 (a : Int), .int .i32 46] w fun e w' => Gr w w' ∧ e = .returned (.tuple #[lxV 4 a a1 { data := #[] } 0 (~~~ofList [10]), .nilIface]) := by
  have hw1 : IntKind.i64.wrap ((a : Int) + 1) = (a1 : Int) := by rw [IntWalk.i64_in _ (by omega)]; omega
  have hlet := Lib.hid (no_letter_46)
  have hdig := Lib.hid (no_digit_46)
  clear ha1 hT ha
  go_enter Tryz.func11, Tryz.ntmps11
  go_wp2_with first
    | (go_at_call 25; (with_reducible refine (hlet.out _).mono ?_); rintro e w1 ⟨rfl, rfl⟩)
    | (go_at_call 28; (with_reducible refine (hdig.out _).mono ?_); rintro e w1 ⟨rfl, rfl⟩)
  go_at_call 33
  refine name_calls (fun W hW => ?_)
  obtain ⟨W0, hW0⟩ : ∃ W0, W0 = w.alloc (.cells #[.int .i64 0, .int .i64 (a : Int), .int .i64 (a1 : Int), .string { data := #[] }, .int .i64 0, .int .u64 0, .int .u64 0, .int .u64 0, .int .u64 0] 38) := ⟨_, rfl⟩
  have hsz : W0.heap.size = w.heap.size + 1 := by rw [hW0]; simp
  have hsl := Sl.lit1 10 10 W0 W rfl (by rw [hW, hW0])
  have x0 : boxAt W0 w.heap.size [.int .i64 0, .int .i64 (a : Int), .int .i64 (a1 : Int), .string { data := #[] }, .int .i64 0, .int .u64 0, .int .u64 0, .int .u64 0, .int .u64 0] := boxAt.new _ _ hW0
  have hg1 : Gr W0 W := by rw [hW, ← hW0]; exact Gr.alloc _ _
  have hg : Gr w W := by rw [hW]; exact (Gr.alloc _ _).trans (Gr.alloc _ _)
  have xb := x0.later hg1
  rw [hsz] at hsl
  clear hW hW0 x0 hg1 hsz
  refine (of_any [10] _ _ hsl).mono ?_
  rintro e w1 ⟨rfl, hb⟩
  replace xb := xb.later hb
  have hG := hg.trans hb
  clear hsl hb hg
  obtain ⟨s, hs⟩ : ∃ s, ofList [10] = s := ⟨_, rfl⟩
  rw [hs]
  have HS := Lib.hid hs
  clear hs
  go_wp2_with fail
  go_at_call 32
  refine (complement_any s w1).mono ?_; rintro e w8 ⟨rfl, hb⟩
  replace xb := xb.later hb
  have hG := hG.trans hb
  have c_x0 := xb.cell 0 _ rfl
  have c_x1 := xb.cell 1 _ rfl
  have c_x2 := xb.cell 2 _ rfl
  have c_x3 := xb.cell 3 _ rfl
  have c_x4 := xb.cell 4 _ rfl
  have c_x5 := xb.cell 5 _ rfl
  have c_x6 := xb.cell 6 _ rfl
  have c_x7 := xb.cell 7 _ rfl
  have c_x8 := xb.cell 8 _ rfl
  have m_x0 := xb.mark 0 _ rfl
  have m_x1 := xb.mark 1 _ rfl
  have m_x2 := xb.mark 2 _ rfl
  have m_x3 := xb.mark 3 _ rfl
  have m_x4 := xb.mark 4 _ rfl
  have m_x5 := xb.mark 5 _ rfl
  have m_x6 := xb.mark 6 _ rfl
  have m_x7 := xb.mark 7 _ rfl
  have m_x8 := xb.mark 8 _ rfl
  have l_x := xb.lt (Nat.succ_pos _)
  clear hb
  go_wp2_with fail
  refine name_end (fun W3 hW3 => ?_)
  have yb : boxAt W3 w.heap.size [.int .i64 4, .int .i64 (a : Int), .int .i64 (a1 : Int), .string { data := #[] }, .int .i64 0, .int .u64 (wd (~~~s) 0), .int .u64 (wd (~~~s) 1), .int .u64 (wd (~~~s) 2), .int .u64 (wd (~~~s) 3)] := by subst hW3; exact boxAt.puts9 (((((xb.put 0 _ (by simp)).put 5 _ (by simp)).put 6 _ (by simp)).put 7 _ (by simp)).put 8 _ (by simp)) rfl _ _ _ _ _ _ _ _ _
  have c_y0 := yb.cell 0 _ rfl
  have c_y1 := yb.cell 1 _ rfl
  have c_y2 := yb.cell 2 _ rfl
  have c_y3 := yb.cell 3 _ rfl
  have c_y4 := yb.cell 4 _ rfl
  have c_y5 := yb.cell 5 _ rfl
  have c_y6 := yb.cell 6 _ rfl
  have c_y7 := yb.cell 7 _ rfl
  have c_y8 := yb.cell 8 _ rfl
  have m_y0 := yb.mark 0 _ rfl
  have m_y1 := yb.mark 1 _ rfl
  have m_y2 := yb.mark 2 _ rfl
  have m_y3 := yb.mark 3 _ rfl
  have m_y4 := yb.mark 4 _ rfl
  have m_y5 := yb.mark 5 _ rfl
  have m_y6 := yb.mark 6 _ rfl
  have m_y7 := yb.mark 7 _ rfl
  have m_y8 := yb.mark 8 _ rfl
  have l_y := yb.lt (Nat.succ_pos _)
  refine bodyPost_ret (v := .tuple #[lxV 4 (a : Int) (a1 : Int) { data := #[] } 0 (~~~s), .nilIface]) (by simp [lxV, results, Tryz.results11, go_sem, c_y0, c_y1, c_y2, c_y3, c_y4, c_y5, c_y6, c_y7, c_y8]) rfl ?_
  subst hW3
  refine ⟨Gr.puts9 (((((hG.setCell (p := ⟨w.heap.size, 0, none⟩) (Nat.le_refl _) _).setCell (p := ⟨w.heap.size, 5, none⟩) (Nat.le_refl _) _).setCell (p := ⟨w.heap.size, 6, none⟩) (Nat.le_refl _) _).setCell (p := ⟨w.heap.size, 7, none⟩) (Nat.le_refl _) _).setCell (p := ⟨w.heap.size, 8, none⟩) (Nat.le_refl _) _) (Nat.le_refl _) _ _ _ _ _ _ _ _ _, by rw [HS.out]⟩

set_option maxRecDepth 100000 in
set_option maxHeartbeats 4000000 in
theorem lexeme_mark (t : List UInt8) (a a1 : Nat) (w : World) (hT : (t.length : Int) ≤ 4294967280) (ha : a < t.length) (ha1 : a + 1 = a1) (k : Nat) (hl : letK k = false) (hd : digK k = false) (e32 : ((k : Int) == 32) = false) (e9 : ((k : Int) == 9) = false) (e13 : ((k : Int) == 13) = false) (e35 : ((k : Int) == 35) = false) (e10 : ((k : Int) == 10) = false) (e34 : ((k : Int) == 34) = false) (e91 : ((k : Int) == 91) = false) (e46 : ((k : Int) == 46) = false) (n : Nat) (hn : 0 < n) (hne : a + n ≤ t.length)
    (hm : ∀ w, Calls Tryz.prog 34 #[.string (st t), .int .i64 (a : Int), .int .i32 (k : Int)] w fun e w' => e = .returned (.int .i64 (n : Int)) ∧ w' = w) :
    Calls Tryz.prog 11 #[.string (st t), .int .i64 (a : Int), .int .i32 (k : Int)] w fun e w' => e = .returned (.tuple #[lxV 5 a (a + n : Nat) (st ((t.drop a).take n)) 0 emptyS, .nilIface]) ∧ Gr w w' := by
  have hw1 : IntKind.i64.wrap ((a : Int) + 1) = (a1 : Int) := by rw [IntWalk.i64_in _ (by omega)]; omega
  have hlet := Lib.hid (fun w => hl ▸ klet_any k w)
  have hdig := Lib.hid (fun w => hd ▸ kdig_any k w)
  rw [lxV_zero]
  have hmk := Lib.hid hm
  obtain ⟨E, hE⟩ : ∃ E, a + n = E := ⟨_, rfl⟩
  obtain ⟨q, hq⟩ : ∃ q, (t.drop a).take n = q := ⟨_, rfl⟩
  have hsl := fun w' => run_sub (P := Tryz.prog) w' 9 t a E Tryz.underlying9 (by omega) (by omega)
  rw [show E - a = n by omega, hq] at hsl
  rw [hE, hq]
  have hwE : IntKind.i64.wrap ((a : Int) + (n : Int)) = (E : Int) := by rw [IntWalk.i64_in _ (by omega)]; omega
  have hn0 : ((n : Int) == 0) = false := by rw [beq_eq_false_iff_ne]; omega
  have hn1 : ¬ n = 0 := by omega
  clear hE hq ha1 hT ha hl hd hm hn hne
  go_enter Tryz.func11, Tryz.ntmps11
  go_wp2_with first
    | (go_at_call 25; (with_reducible refine (hlet.out _).mono ?_); rintro e w1 ⟨rfl, rfl⟩)
    | (go_at_call 28; (with_reducible refine (hdig.out _).mono ?_); rintro e w1 ⟨rfl, rfl⟩)
    | (go_at_call 34; (with_reducible refine (hmk.out _).mono ?_); rintro e w1 ⟨rfl, rfl⟩)
  refine bodyPost_ret (v := .tuple #[.agg #[.int .i64 5, .int .i64 (a : Int), .int .i64 (E : Int), .string (st q), .int .i64 0, .int .u64 0, .int .u64 0, .int .u64 0, .int .u64 0], .nilIface]) (by simp [results, Tryz.results11, go_sem]) rfl ?_
  exact ⟨rfl, Gr.alloc _ _⟩

set_option maxRecDepth 100000 in
set_option maxHeartbeats 4000000 in
theorem lexeme_none (t : List UInt8) (a a1 : Nat) (w : World) (hT : (t.length : Int) ≤ 4294967280) (ha : a < t.length) (ha1 : a + 1 = a1) (k : Nat) (hl : letK k = false) (hd : digK k = false) (e32 : ((k : Int) == 32) = false) (e9 : ((k : Int) == 9) = false) (e13 : ((k : Int) == 13) = false) (e35 : ((k : Int) == 35) = false) (e10 : ((k : Int) == 10) = false) (e34 : ((k : Int) == 34) = false) (e91 : ((k : Int) == 91) = false) (e46 : ((k : Int) == 46) = false) (es ed : Value) (hS : Sy0 w es ed)
    (hm : ∀ w, Calls Tryz.prog 34 #[.string (st t), .int .i64 (a : Int), .int .i32 (k : Int)] w fun e w' => e = .returned (.int .i64 0) ∧ w' = w) :
    Calls Tryz.prog 11 #[.string (st t), .int .i64 (a : Int), .int .i32 (k : Int)] w fun e w' => Gr w w' ∧ ∃ er, e = .returned (.tuple #[lxV 0 a a1 { data := #[] } 0 emptyS, er]) ∧ Refused w' w.heap.size es er (a : Int) := by
  have hw1 : IntKind.i64.wrap ((a : Int) + 1) = (a1 : Int) := by rw [IntWalk.i64_in _ (by omega)]; omega
  have hlet := Lib.hid (fun w => hl ▸ klet_any k w)
  have hdig := Lib.hid (fun w => hd ▸ kdig_any k w)
  have hmk := Lib.hid hm
  clear ha1 hT ha hl hd hm
  obtain ⟨ty, y, rfl⟩ := hS.synI
  have HC := Lib.hid hS.syn
  clear hS
  go_enter Tryz.func11, Tryz.ntmps11
  go_wp2_with first
    | (go_at_call 25; (with_reducible refine (hlet.out _).mono ?_); rintro e w1 ⟨rfl, rfl⟩)
    | (go_at_call 28; (with_reducible refine (hdig.out _).mono ?_); rintro e w1 ⟨rfl, rfl⟩)
    | (go_at_call 34; (with_reducible refine (hmk.out _).mono ?_); rintro e w1 ⟨rfl, rfl⟩)
  refine name_world (fun W hW => ?_)
  have xb : boxAt W w.heap.size [.int .i64 0, .int .i64 (a : Int), .int .i64 (a1 : Int), .string { data := #[] }, .int .i64 0, .int .u64 0, .int .u64 0, .int .u64 0, .int .u64 0] := boxAt.new _ _ hW
  have hg : Gr w W := by rw [hW]; exact Gr.alloc _ _
  clear hW
  refine wp_region_S (fun w' => Gr w w' ∧ boxAt w' w.heap.size [.int .i64 0, .int .i64 (a : Int), .int .i64 (a1 : Int), .string { data := #[] }, .int .i64 0, .int .u64 0, .int .u64 0, .int .u64 0, .int .u64 0]) (.take 0 (.take 1 (.take 2 (.run 3 false (.run 4 false (.run 5 true .nil)))))) ⟨hg.trans (Gr.drew _), xb.later (Gr.drew _)⟩ (by kernel_rfl) (by kernel_rfl) ?_
  simp only [pickOps, nthOp]
  intro w7 hN hG
  repeat (first | (refine wpG_skip_take ?_ ?_; (focus rfl); try simp only [Act.put, List.setIfInBounds_toArray, List.set_cons_zero, List.set_cons_succ]) | (refine wpG_skip_run ?_ ?_; (focus rfl); try simp only [Act.put, List.setIfInBounds_toArray, List.set_cons_zero, List.set_cons_succ]) | (refine wpG_take ?_ ?_; (focus rfl); apply Exists.intro; refine ⟨fun w' hw' => ?_, ?_⟩; (focus (have qe := hw'.1.cell HC.out; have q0 := hw'.2.cell 0 _ rfl; have q1 := hw'.2.cell 1 _ rfl; have q2 := hw'.2.cell 2 _ rfl; have q3 := hw'.2.cell 3 _ rfl; have q4 := hw'.2.cell 4 _ rfl; have q5 := hw'.2.cell 5 _ rfl; have q6 := hw'.2.cell 6 _ rfl; have q7 := hw'.2.cell 7 _ rfl; have q8 := hw'.2.cell 8 _ rfl; go_simp; (try rfl); done)); try simp only [Act.put, List.setIfInBounds_toArray, List.set_cons_zero, List.set_cons_succ]))
  obtain ⟨hG, xb7⟩ := hG
  clear hN hg xb
  refine wpG_run ?_ (fun K hK => ?_); (focus rfl)
  go_simp
  go_at_call 27
  (with_reducible refine (place_any ty y (a : Int) _).mono ?_); rintro e' w8 ⟨rfl, hbx, hb⟩
  have hl7 := xb7.lt (Nat.succ_pos _)
  have HR : Hid (Refused w8 w7.heap.size (.iface ty y) (.iface 71 (.pointer (some ⟨w7.heap.size, 0, none⟩))) (a : Int)) := Lib.hid ⟨_, rfl, hbx, Nat.le_refl _⟩
  replace xb7 := xb7.later hb
  replace hG := hG.trans hb
  try dsimp only
  refine hK.out _ _ ⟨hG, xb7⟩ ?_
  clear hK K hbx hb
  try simp only [Act.put, List.setIfInBounds_toArray, List.set_cons_zero, List.set_cons_succ]
  have c_x0 := xb7.cell 0 _ rfl
  have c_x1 := xb7.cell 1 _ rfl
  have c_x2 := xb7.cell 2 _ rfl
  have c_x3 := xb7.cell 3 _ rfl
  have c_x4 := xb7.cell 4 _ rfl
  have c_x5 := xb7.cell 5 _ rfl
  have c_x6 := xb7.cell 6 _ rfl
  have c_x7 := xb7.cell 7 _ rfl
  have c_x8 := xb7.cell 8 _ rfl
  have m_x0 := xb7.mark 0 _ rfl
  have m_x1 := xb7.mark 1 _ rfl
  have m_x2 := xb7.mark 2 _ rfl
  have m_x3 := xb7.mark 3 _ rfl
  have m_x4 := xb7.mark 4 _ rfl
  have m_x5 := xb7.mark 5 _ rfl
  have m_x6 := xb7.mark 6 _ rfl
  have m_x7 := xb7.mark 7 _ rfl
  have m_x8 := xb7.mark 8 _ rfl
  have l_x := xb7.lt (Nat.succ_pos _)
  refine wpG_run ?_ (fun K hK => ?_); (focus rfl)
  go_simp
  refine hK.out _ _ ⟨Gr.puts9 hG (Nat.le_refl _) _ _ _ _ _ _ _ _ _, boxAt.puts9 xb7 rfl _ _ _ _ _ _ _ _ _⟩ ?_
  clear hK K
  try simp only [Act.put, List.setIfInBounds_toArray, List.set_cons_zero, List.set_cons_succ]
  refine wpG_last ?_ (fun K hK => ?_); (focus rfl)
  go_simp
  refine hK.out _ _ ?_
  try simp only [Act.put, List.setIfInBounds_toArray, List.set_cons_zero, List.set_cons_succ]
  clear hK K
  clear c_x0 c_x1 c_x2 c_x3 c_x4 c_x5 c_x6 c_x7 c_x8 m_x0 m_x1 m_x2 m_x3 m_x4 m_x5 m_x6 m_x7 m_x8 l_x
  refine wpG_done ?_
  go_wp2
  refine name_end (fun W3 hW3 => ?_)
  have yb : boxAt W3 w.heap.size [.int .i64 0, .int .i64 (a : Int), .int .i64 (a1 : Int), .string { data := #[] }, .int .i64 0, .int .u64 0, .int .u64 0, .int .u64 0, .int .u64 0] := by subst hW3; exact boxAt.puts9 xb7 rfl _ _ _ _ _ _ _ _ _
  have hG3 : Gr w W3 := by subst hW3; exact Gr.puts9 hG (Nat.le_refl _) _ _ _ _ _ _ _ _ _
  have HR3 : Hid (Refused W3 w7.heap.size (.iface ty y) (.iface 71 (.pointer (some ⟨w7.heap.size, 0, none⟩))) (a : Int)) := Lib.hid (by subst hW3; exact Refused.puts9 HR.out hl7 _ _ _ _ _ _ _ _ _)
  clear hW3 xb7 hG HR
  have c_x0 := yb.cell 0 _ rfl
  have c_x1 := yb.cell 1 _ rfl
  have c_x2 := yb.cell 2 _ rfl
  have c_x3 := yb.cell 3 _ rfl
  have c_x4 := yb.cell 4 _ rfl
  have c_x5 := yb.cell 5 _ rfl
  have c_x6 := yb.cell 6 _ rfl
  have c_x7 := yb.cell 7 _ rfl
  have c_x8 := yb.cell 8 _ rfl
  have m_x0 := yb.mark 0 _ rfl
  have m_x1 := yb.mark 1 _ rfl
  have m_x2 := yb.mark 2 _ rfl
  have m_x3 := yb.mark 3 _ rfl
  have m_x4 := yb.mark 4 _ rfl
  have m_x5 := yb.mark 5 _ rfl
  have m_x6 := yb.mark 6 _ rfl
  have m_x7 := yb.mark 7 _ rfl
  have m_x8 := yb.mark 8 _ rfl
  have l_x := yb.lt (Nat.succ_pos _)
  refine bodyPost_ret (v := .tuple #[lxV 0 (a : Int) (a1 : Int) { data := #[] } 0 emptyS, .iface 71 (.pointer (some ⟨w7.heap.size, 0, none⟩))]) (by simp [lxV_zero, results, Tryz.results11, go_sem, c_x0, c_x1, c_x2, c_x3, c_x4, c_x5, c_x6, c_x7, c_x8]) rfl ?_
  exact ⟨hG3, _, rfl, HR3.out.mono (Nat.le_of_lt hl7)⟩


end Go.Proofs.YtdjankfcmoblhaaGreatDoor
