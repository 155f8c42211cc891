/- Rules that lie in memory: an expression, a mark, an expression. No condition. -/
import Derived.Test.YtpcmgkohebihmaaDoorCutA
namespace Go.Proofs.YtpcmgkohebihmaaDoor
open Go Go.RowKit

structure Co where
  head : Ex
  has : Bool
  trail : Ex
/-- These cells are this rule in this world. -/
inductive CoIn (w : World) : Co → List Value → Prop
  | mk (e : Ex) (b : Bool) (f : Ex) (cs ds : List Value) (he : ExIn w e cs) (hf : ExIn w f ds) : CoIn w ⟨e, b, f⟩ (cs ++ .bool b :: ds)
theorem CoIn.later {w w' : World} {x : Co} {cs : List Value} (h : CoIn w x cs) (hG : Gr w w') : CoIn w' x cs := by
  cases h with
  | mk e b f cs ds he hf => exact .mk e b f cs ds (he.later hG) (hf.later hG)
theorem CoIn.len {w : World} {x : Co} {cs : List Value} (h : CoIn w x cs) : cs.length = 21 := by
  cases h with
  | mk e b f cs ds he hf => simp [he.len, hf.len]

/-- The rule at place j: where it lies, and its cells. -/
theorem cores_at {w : World} {v : Value} {l : List (Co × List Value)} (hs : Sl w v 21 l.length (l.flatMap (·.2))) (hl : ∀ p ∈ l, CoIn w p.1 p.2) (j : Nat) (hj : j < l.length) :
    ∃ b off cap op pos s text mn mx p n c op2 pos2 s2 text2 mn2 mx2 p2 n2 c2 e hb f, v = .slice (some ⟨b, off, none⟩) l.length cap ∧ b < w.heap.size ∧
      l[j]? = some (⟨e, hb, f⟩, exCells op pos s text mn mx (.slice p n c) ++ .bool hb :: exCells op2 pos2 s2 text2 mn2 mx2 (.slice p2 n2 c2)) ∧
      ExIn w e (exCells op pos s text mn mx (.slice p n c)) ∧ ExIn w f (exCells op2 pos2 s2 text2 mn2 mx2 (.slice p2 n2 c2)) ∧
      (∀ w', Gr w w' → b < w'.heap.size ∧ ∀ t u, t < 21 → (exCells op pos s text mn mx (.slice p n c) ++ .bool hb :: exCells op2 pos2 s2 text2 mn2 mx2 (.slice p2 n2 c2))[t]? = some u → w'.cell? ⟨b, off + j * 21 + t, none⟩ = some u) := by
  obtain ⟨⟨a, ca⟩, ha⟩ : ∃ p, l[j]? = some p := ⟨_, List.getElem?_eq_getElem hj⟩
  have hmem := List.mem_of_getElem? ha
  have hin : CoIn w a ca := hl _ hmem
  obtain ⟨_, _, ⟨_, h0⟩ | ⟨b, off, cap, hv, hb, hc⟩⟩ := hs
  · omega
  have hbl := hb (by omega)
  cases hin with
  | mk e hb f cs ds he hf =>
    obtain ⟨op, pos, s, text, mn, mx, p, n, c, rfl⟩ := he.form
    obtain ⟨op2, pos2, s2, text2, mn2, mx2, p2, n2, c2, rfl⟩ := hf.form
    refine ⟨b, off, cap, op, pos, s, text, mn, mx, p, n, c, op2, pos2, s2, text2, mn2, mx2, p2, n2, c2, e, hb, f, hv, hbl, ha, he, hf, fun w' hg => ⟨Nat.lt_of_lt_of_le hbl hg.size, fun t u ht hu => ?_⟩⟩
    have := flatMap_get_of (fun p : Co × List Value => p.2) 21 l (fun p hp => (hl p hp).len) j t _ ha ht
    rw [Nat.add_assoc]
    exact hg.cell (hc _ _ (this.trans hu))

/-- A row that is laid and then written whole. -/
theorem new_row {w W : World} {z : Array Value} {t : TypeId} {cs : List Value} (h : W = (w.alloc (.cells z t)).setRow w.heap.size cs.toArray) : boxAt W w.heap.size cs ∧ Gr w W ∧ W.heap.size = w.heap.size + 1 := by
  have h0 := setRow_heap (w.alloc (.cells z t)) w.heap.size z cs.toArray t (0, 0) (heap_alloc_new w _)
  have hx : ∀ k, k ≠ w.heap.size → W.heap[k]? = (w.alloc (.cells z t)).heap[k]? := fun k hk => by rw [h]; exact setRow_other _ _ _ _ hk
  rw [← h] at h0
  refine ⟨fun j u hj => ⟨?_, ?_⟩, ?_, by rw [h]; simp⟩
  · rw [cell_of_row W _ j _ t _ h0]; simpa using hj
  · exact frozen_of_row W _ j _ t h0
  · refine ⟨by rw [h]; rfl, by rw [h]; rfl, by rw [h]; rfl, by rw [h]; simp, fun k hk => ?_⟩
    rw [hx k (by omega)]; exact Below.heap_alloc w _ k hk
theorem boxAt.row {w : World} {b : Nat} {vs : List Value} (h : boxAt w b vs) : ∀ t u, vs[t]? = some u → w.cell? ⟨b, 0 + t, none⟩ = some u := fun t u ht => by rw [Nat.zero_add]; exact h.cell t u ht
theorem all_ones (cs : List Value) (h : cs.all (·.oneCell') = true) : cs.toArray.all (·.oneCell') = true := by simpa using h
theorem name_wpList {P : Program} {ops : Array Oper} {Q : Exit → Act → World → Prop} {l : List Oper} {a : Act} {w0 : World} (h : ∀ W, W = w0 → wpList P ops Q l a W) : wpList P ops Q l a w0 := h _ rfl

theorem name_body {P : Program} {f : Func} {R : Ending → World → Prop} {x : Exit} {a : Act} {w0 : World} (h : ∀ W, W = w0 → bodyPost P f R x a W) : bodyPost P f R x a w0 := h _ rfl

/-- A load of a whole row, at any place. -/
theorem wp_load_at {P : Program} {o : Oper} {a : Act} {w : World} {K : Act → World → Prop} {Q : Exit → Act → World → Prop} (ty : TypeId) (x : Operand) (ho : o.op = .load ty x)
    (b q : Nat) (hx : a.eval x = .pointer (some ⟨b, q, none⟩)) (cs : List Value) (d : TypeDesc) (hc : ∀ (j : Nat) (u : Value), cs[j]? = some u → w.cell? ⟨b, q + j, none⟩ = some u)
    (hu : P.underlying ty = some d) (hd : (match d with | .struct _ | .array _ _ => true | _ => false) = true) (hi : (P.info? ty).map (·.size) = some cs.length)
    (h : K (a.put o.dst (.agg cs.toArray)) w) : o.wp P a w K Q := by
  have hl : (loadCells ⟨b, q, none⟩ cs.length).run P w = .ok cs.toArray w :=
    run_loadCells_list (P := P) w ⟨b, q, none⟩ cs (fun j v hv => by rw [addr_add]; exact hc j v hv)
  have hv : (loadVar ty ⟨b, q, none⟩).run P w = .ok (.agg cs.toArray) w := by
    cases hq : P.info? ty with
    | none => simp [hq] at hi
    | some i =>
      have hs : i.size = cs.length := by simpa [hq] using hi
      have hagg : (isAgg ty).run P w = .ok true w := by
        unfold isAgg
        rw [Sem.run_bind, run_underlying hu w]
        cases d <;> simp_all
      simp [loadVar, Sem.run_bind, hagg, sizeOf, typeInfo, hq, hs, hl]
  unfold Oper.wp execOp
  simp only [ho, hx, Instr.loadAt, Instr.sureAddr, Sem.run_bind, Sem.run_pure, Result.andThen_ok, hv]
  exact h

/-- Is it the zero expression? -/
def zeroX : Ex → Bool | .mk op pos s text mn mx args => (op == 0) && ((pos == 0) && ((s == emptyS) && (text.toList.isEmpty && ((mn == 0) && ((mx == 0) && (args.length == 0))))))
def zeroB (op pos : Int) (s : BitVec 256) (text : ByteArray) (mn mx : Int) (n : Nat) : Bool := (op == 0) && ((pos == 0) && ((s == emptyS) && (text.toList.isEmpty && ((mn == 0) && ((mx == 0) && (n == 0))))))
theorem ExIn.zero {w : World} {e : Ex} {op pos : Int} {s : BitVec 256} {text : ByteArray} {mn mx : Int} {p : Option Addr} {n c : Nat} (h : ExIn w e (exCells op pos s text mn mx (.slice p n c))) : zeroX e = zeroB op pos s text mn mx n := by
  generalize hcs : exCells op pos s text mn mx (.slice p n c) = cs at h
  cases h with
  | mk op' pos' s' text' mn' mx' v l _ _ _ _ _ _ hs =>
    obtain ⟨_, _, rfl⟩ := hs.len
    simp only [exCells, List.cons.injEq, Value.int.injEq, Value.string.injEq, Value.slice.injEq, true_and, and_true] at hcs
    obtain ⟨rfl, rfl, h0, h1, h2, h3, rfl, rfl, rfl, _, rfl, _⟩ := hcs
    obtain rfl := wd_ext _ _ h0 h1 h2 h3
    simp [zeroX, zeroB]

theorem ExIn.small {w : World} {e : Ex} {op pos : Int} {s : BitVec 256} {text : ByteArray} {mn mx : Int} {p : Option Addr} {n c : Nat} (h : ExIn w e (exCells op pos s text mn mx (.slice p n c))) : n ≤ 9223372036854775807 := by
  generalize hcs : exCells op pos s text mn mx (.slice p n c) = cs at h
  cases h with
  | mk op' pos' s' text' mn' mx' v l _ _ _ _ _ _ hs _ hb =>
    obtain ⟨_, _, rfl⟩ := hs.len
    simp only [exCells, List.cons.injEq, Value.slice.injEq, true_and, and_true] at hcs
    obtain ⟨_, _, _, _, _, _, _, _, _, _, rfl, _⟩ := hcs
    omega

set_option maxRecDepth 100000 in
set_option maxHeartbeats 4000000 in
theorem zero_any (op pos : Int) (s : BitVec 256) (text : ByteArray) (mn mx : Int) (p : Option Addr) (n c : Nat) (w : World) (hn : n ≤ 9223372036854775807) :
    Calls Tryd.prog 28 #[.agg #[.int .i64 op, .int .i64 pos, .int .u64 (wd s 0), .int .u64 (wd s 1), .int .u64 (wd s 2), .int .u64 (wd s 3), .string text, .int .i64 mn, .int .i64 mx, (.slice p n c)]] w fun e w' => e = .returned (.bool (zeroB op pos s text mn mx n)) ∧ Gr w w' := by
  obtain ⟨b1, h1⟩ : ∃ b, (op == 0) = b := ⟨_, rfl⟩
  obtain ⟨b2, h2⟩ : ∃ b, (pos == 0) = b := ⟨_, rfl⟩
  obtain ⟨b3, h3⟩ : ∃ b, (s == emptyS) = b := ⟨_, rfl⟩
  obtain ⟨b4, h4⟩ : ∃ b, text.toList.isEmpty = b := ⟨_, rfl⟩
  obtain ⟨b5, h5⟩ : ∃ b, (mn == 0) = b := ⟨_, rfl⟩
  obtain ⟨b6, h6⟩ : ∃ b, (mx == 0) = b := ⟨_, rfl⟩
  obtain ⟨b7, h7⟩ : ∃ b, ((n : Int) == 0) = b := ⟨_, rfl⟩
  have H1 := Lib.hid h1
  have H2 := Lib.hid h2
  have H3 := Lib.hid h3
  have H4 := Lib.hid h4
  have H5 := Lib.hid h5
  have H6 := Lib.hid h6
  have H7 := Lib.hid (show (n == 0) = b7 by rw [← h7, Bool.eq_iff_iff]; simp)
  go_enter Tryd.func28, Tryd.ntmps28
  cases b1
  · go_wp2_with fail
    go_ret
    exact ⟨ret_bool (by unfold zeroB; rw [H1.out]; rfl), Gr.alloc _ _⟩
  cases b2
  · go_wp2_with fail
    go_ret
    exact ⟨ret_bool (by unfold zeroB; rw [H1.out, H2.out]; rfl), Gr.alloc _ _⟩
  cases b3
  · go_wp2_with fail
    go_ret
    exact ⟨ret_bool (by unfold zeroB; rw [H1.out, H2.out, H3.out]; rfl), Gr.alloc _ _⟩
  cases b4
  · go_wp2_with fail
    go_ret
    exact ⟨ret_bool (by unfold zeroB; rw [H1.out, H2.out, H3.out, H4.out]; rfl), Gr.alloc _ _⟩
  cases b5
  · go_wp2_with fail
    go_ret
    exact ⟨ret_bool (by unfold zeroB; rw [H1.out, H2.out, H3.out, H4.out, H5.out]; rfl), Gr.alloc _ _⟩
  cases b6
  · go_wp2_with fail
    go_ret
    exact ⟨ret_bool (by unfold zeroB; rw [H1.out, H2.out, H3.out, H4.out, H5.out, H6.out]; rfl), Gr.alloc _ _⟩
  cases b7
  · go_wp2_with fail
    go_ret
    exact ⟨ret_bool (by unfold zeroB; rw [H1.out, H2.out, H3.out, H4.out, H5.out, H6.out, H7.out]; rfl), Gr.alloc _ _⟩
  · go_wp2_with fail
    go_ret
    exact ⟨ret_bool (by unfold zeroB; rw [H1.out, H2.out, H3.out, H4.out, H5.out, H6.out, H7.out]; rfl), Gr.alloc _ _⟩

set_option maxRecDepth 100000 in
set_option maxHeartbeats 2000000 in
theorem inRule_any (t : TypeId) (x : Value) (i : Int) (w : World) : Calls Tryd.prog 30 #[.iface t x, .int .i64 i] w fun e' w' => e' = .returned (.iface 109 (.pointer (some ⟨w.heap.size, 0, none⟩))) ∧ boxAt w' w.heap.size [.iface t x, .int .i64 i] ∧ Gr w w' := by
  go_enter Tryd.func30, Tryd.ntmps30
  go_wp2_with fail
  go_ret
  exact ⟨rfl, boxAt.new _ _ rfl, Gr.alloc _ _⟩

set_option maxRecDepth 100000 in
set_option maxHeartbeats 2000000 in
theorem cut_none (op pos : Int) (s : BitVec 256) (text : ByteArray) (mn mx : Int) (p : Option Addr) (n c : Nat) (op2 pos2 : Int) (s2 : BitVec 256) (text2 : ByteArray) (mn2 mx2 : Int) (p2 : Option Addr) (n2 c2 : Nat) (w : World) :
    Calls Tryd.prog 29 #[.agg #[.int .i64 op, .int .i64 pos, .int .u64 (wd s 0), .int .u64 (wd s 1), .int .u64 (wd s 2), .int .u64 (wd s 3), .string text, .int .i64 mn, .int .i64 mx, .slice p n c, .bool false, .int .i64 op2, .int .i64 pos2, .int .u64 (wd s2 0), .int .u64 (wd s2 1), .int .u64 (wd s2 2), .int .u64 (wd s2 3), .string text2, .int .i64 mn2, .int .i64 mx2, .slice p2 n2 c2]] w
      fun e' w' => e' = .returned (cutVal (some (0, 0))) ∧ Gr w w' := by
  go_enter Tryd.func29, Tryd.ntmps29
  go_wp2_with fail
  refine name_body (fun W hW => ?_)
  obtain ⟨_, xr, hgW, _⟩ : _ ∧ _ ∧ Gr w W ∧ _ := by
    rw [hW]; exact bx2 w [.int .i64 op, .int .i64 pos, .int .u64 (wd s 0), .int .u64 (wd s 1), .int .u64 (wd s 2), .int .u64 (wd s 3), .string text, .int .i64 mn, .int .i64 mx, .slice p n c, .bool false, .int .i64 op2, .int .i64 pos2, .int .u64 (wd s2 0), .int .u64 (wd s2 1), .int .u64 (wd s2 2), .int .u64 (wd s2 3), .string text2, .int .i64 mn2, .int .i64 mx2, .slice p2 n2 c2] [.int .i64 0, .int .i64 0] 52 64
  rw [← hW] at xr
  clear hW
  have c_r0 := xr.cell 0 _ rfl
  have c_r1 := xr.cell 1 _ rfl
  have m_r0 := xr.mark 0 _ rfl
  have m_r1 := xr.mark 1 _ rfl
  have l_r := xr.lt (Nat.succ_pos _)
  exact bodyPost_ret (v := .tuple #[.agg #[.int .i64 0, .int .i64 0], .bool true]) (by simp [results, Tryd.results29, go_sem, c_r0, c_r1]) rfl ⟨rfl, hgW⟩

end Go.Proofs.YtpcmgkohebihmaaDoor
