/- Expressions that lie in memory: what they are, and that they stay. No condition. -/
import Derived.Test.YtkkopdmemjncdaaGreatDoorPGc
namespace Go.Proofs.YtkkopdmemjncdaaGreatDoor
open Go Go.ChangeShapes Go.WideShapes Go.ChangeAt Go.RowKit

inductive Ex where
  | mk (op pos : Int) (set : BitVec 256) (text : ByteArray) (low high : Int) (args : List Ex)
def Ex.op : Ex → Int | .mk op .. => op
def Ex.args : Ex → List Ex | .mk _ _ _ _ _ _ args => args
theorem Ex.size_arg (e a : Ex) (h : a ∈ e.args) : SizeOf.sizeOf a < SizeOf.sizeOf e := by
  cases e with
  | mk op pos s t mn mx args =>
    have := List.sizeOf_lt_of_mem (show a ∈ args from h)
    simp only [Ex.mk.sizeOf_spec]; omega

def fit64 (n : Int) : Prop := -9223372036854775808 ≤ n ∧ n ≤ 9223372036854775807
/-- The ten cells of an expression; v: its arguments. -/
def exCells (op pos : Int) (s : BitVec 256) (text : ByteArray) (mn mx : Int) (v : Value) : List Value :=
  [.int .i64 op, .int .i64 pos, .int .u64 (wd s 0), .int .u64 (wd s 1), .int .u64 (wd s 2), .int .u64 (wd s 3), .string text, .int .i64 mn, .int .i64 mx, v]

/-- These cells are this expression in this world. -/
inductive ExIn (w : World) : Ex → List Value → Prop
  | mk (op pos : Int) (s : BitVec 256) (text : ByteArray) (mn mx : Int) (v : Value) (l : List (Ex × List Value))
      (h1 : fit64 op) (h2 : fit64 pos) (h3 : fit64 mn) (h4 : fit64 mx) (h5 : text.size ≤ maxLen)
      (hlen : ∀ p ∈ l, p.2.length = 10) (hs : Sl w v 10 l.length (l.flatMap (·.2))) (hn : Nily v) (hb : l.length * 104 ≤ 140737488351232)
      (hargs : ∀ p ∈ l, ExIn w p.1 p.2) : ExIn w (.mk op pos s text mn mx (l.map (·.1))) (exCells op pos s text mn mx v)

theorem ExIn.later {w w' : World} {e : Ex} {cs : List Value} (h : ExIn w e cs) (hG : Gr w w') : ExIn w' e cs := by
  induction h with
  | mk op pos s text mn mx v l h1 h2 h3 h4 h5 hlen hs hn hb _ ih => exact .mk op pos s text mn mx v l h1 h2 h3 h4 h5 hlen (hs.later hG) hn hb ih
theorem ExIn.len {w : World} {e : Ex} {cs : List Value} (h : ExIn w e cs) : cs.length = 10 := by cases h; rfl

/-- The argument at place j: where it lies, and its cells. -/
theorem args_at {w : World} {pv : Option Addr} {cv : Nat} {l : List (Ex × List Value)} (hs : Sl w (.slice pv l.length cv) 10 l.length (l.flatMap (·.2))) (hlen : ∀ p ∈ l, p.2.length = 10) (hargs : ∀ p ∈ l, ExIn w p.1 p.2) (j : Nat) (hj : j < l.length) :
    ∃ b off op pos s text mn mx p2 n2 c2 a, pv = some ⟨b, off, none⟩ ∧ b < w.heap.size ∧ l[j]? = some (a, exCells op pos s text mn mx (.slice p2 n2 c2)) ∧ ExIn w a (exCells op pos s text mn mx (.slice p2 n2 c2)) ∧ (∀ w', Gr w w' → b < w'.heap.size ∧ ∀ t u, t < 10 → (exCells op pos s text mn mx (.slice p2 n2 c2))[t]? = some u → w'.cell? ⟨b, off + j * 10 + t, none⟩ = some u) := by
  obtain ⟨⟨a, ca⟩, ha⟩ : ∃ p, l[j]? = some p := ⟨_, List.getElem?_eq_getElem hj⟩
  have hmem := List.mem_of_getElem? ha
  have hin : ExIn w a ca := hargs _ hmem
  obtain ⟨_, _, ⟨_, h0⟩ | ⟨b, off, cap, hv, hb, hc⟩⟩ := hs
  · omega
  simp only [Value.slice.injEq, true_and] at hv
  obtain ⟨rfl, rfl⟩ := hv
  have hbl := hb (by omega)
  have hinv := hin
  cases hinv with
  | mk op pos s text mn mx v l2 _ _ _ _ _ _ hs2 =>
    obtain ⟨p2, c2, rfl⟩ := hs2.len
    refine ⟨b, off, op, pos, s, text, mn, mx, p2, _, c2, _, rfl, hbl, ha, hin, fun w' hg => ⟨Nat.lt_of_lt_of_le hbl hg.size, fun t u ht hu => ?_⟩⟩
    have := flatMap_get_of (fun p : Ex × List Value => p.2) 10 l hlen j t _ ha ht
    rw [Nat.add_assoc]
    exact hg.cell (hc _ _ (this.trans hu))
theorem drop_cons_of {α : Type} {l : List α} {j : Nat} {a : α} (h : l[j]? = some a) : l.drop j = a :: l.drop (j + 1) := by
  obtain ⟨g1, g2⟩ := List.getElem?_eq_some_iff.1 h
  rw [List.drop_eq_getElem_cons g1, g2]

section
variable {H : Type} {enc : TypeId × Value → H}

theorem cells_expr : Tryz.prog.cellsOf 55 = 10 := by kernel_rfl
theorem bytes_expr : Tryz.prog.bytesOf 55 = 104 := by kernel_rfl
theorem cells_int : Tryz.prog.cellsOf 3 = 1 := by kernel_rfl
theorem cells_str : Tryz.prog.cellsOf 9 = 1 := by kernel_rfl
theorem cells_exprs : Tryz.prog.cellsOf 53 = 1 := by kernel_rfl
theorem fit_of {n : Int} (h : (Lit.int .i64 n).wf = true) : fit64 n := by
  simp [Lit.wf, IntKind.min, IntKind.max, IntKind.signed, IntKind.bits] at h; unfold fit64; omega

theorem list7 {α : Type} : ∀ (l : List α), l.length = 7 → ∃ c0 c1 c2 c3 c4 c5 c6, l = [c0, c1, c2, c3, c4, c5, c6]
  | [c0, c1, c2, c3, c4, c5, c6], _ => ⟨c0, c1, c2, c3, c4, c5, c6, rfl⟩
theorem list10 {α : Type} : ∀ (l : List α), l.length = 10 → ∃ c0 c1 c2 c3 c4 c5 c6 c7 c8 c9, l = [c0, c1, c2, c3, c4, c5, c6, c7, c8, c9]
  | [c0, c1, c2, c3, c4, c5, c6, c7, c8, c9], _ => ⟨c0, c1, c2, c3, c4, c5, c6, c7, c8, c9, rfl⟩
/-- An expression and its ten cells. -/
def ExCells := { p : Ex × List Value // p.2.length = 10 }
instance : Inhabited ExCells := ⟨⟨(.mk 0 0 0#256 ⟨#[]⟩ 0 0 [], exCells 0 0 0#256 ⟨#[]⟩ 0 0 (.bool true)), rfl⟩⟩
theorem ex_read {w : World} {base : Nat} {spare : Nat → Bool} {held : Bool} : ∀ (fuel : Nat) (cs : List Value) (x : DataW H × List MemPlace), DataW.trod enc Tryz.prog w base spare held fuel 55 cs = some x → Reached Tryz.prog 55 x.1 →
    ∃ e : Ex, ExIn w e cs := by
  intro fuel
  induction fuel using Nat.strongRecOn with
  | ind fuel ih =>
    intro cs x h hw
    obtain ⟨xs, n, hfu, rfl, hl, hlen, hf⟩ := DataW.trod_struct Tryz.underlying55 h
    obtain ⟨y0, y1, y2, y3, y4, y5, y6, rfl⟩ := list7 xs hlen
    have h0 : DataW.trod enc Tryz.prog w base spare held n 3 ((cs.drop 0).take (Tryz.prog.cellsOf 3)) = some y0 := hf 0 _ rfl
    have h1 : DataW.trod enc Tryz.prog w base spare held n 3 ((cs.drop 1).take (Tryz.prog.cellsOf 3)) = some y1 := hf 1 _ rfl
    have h2 : DataW.trod enc Tryz.prog w base spare held n 52 ((cs.drop 2).take (Tryz.prog.cellsOf 52)) = some y2 := hf 2 _ rfl
    have h3 : DataW.trod enc Tryz.prog w base spare held n 9 ((cs.drop 6).take (Tryz.prog.cellsOf 9)) = some y3 := hf 3 _ rfl
    have h4 : DataW.trod enc Tryz.prog w base spare held n 3 ((cs.drop 7).take (Tryz.prog.cellsOf 3)) = some y4 := hf 4 _ rfl
    have h5 : DataW.trod enc Tryz.prog w base spare held n 3 ((cs.drop 8).take (Tryz.prog.cellsOf 3)) = some y5 := hf 5 _ rfl
    have h6 : DataW.trod enc Tryz.prog w base spare held n 53 ((cs.drop 9).take (Tryz.prog.cellsOf 53)) = some y6 := hf 6 _ rfl
    have hw6 : Reached Tryz.prog 53 y6.1 := fun m' hm' => hw m' (by
      unfold DataW.weights
      rw [Tryz.underlying55]
      simp only [List.map_cons, List.map_nil, DataW.weightsEach, List.append_nil]
      exact List.mem_append_right _ (List.mem_append_right _ (List.mem_append_right _ (List.mem_append_right _ (List.mem_append_right _ (List.mem_append_right _ hm'))))))
    clear hf h hw
    rw [cells_expr] at hl
    obtain ⟨c0, c1, c2, c3, c4, c5, c6, c7, c8, c9, rfl⟩ := list10 cs hl
    simp only [cells_int, cells_set, cells_str, cells_exprs, List.drop, List.take] at h0 h1 h2 h3 h4 h5 h6
    obtain ⟨op, e0, _, w0⟩ := DataW.trod_int Tryz.underlying3 h0
    obtain ⟨pos, e1, _, w1⟩ := DataW.trod_int Tryz.underlying3 h1
    obtain ⟨s, e2⟩ := trod_set h2
    obtain ⟨text, e3, _, w3⟩ := DataW.trod_string Tryz.underlying9 h3
    obtain ⟨mn, e4, _, w4⟩ := DataW.trod_int Tryz.underlying3 h4
    obtain ⟨mx, e5, _, w5⟩ := DataW.trod_int Tryz.underlying3 h5
    obtain ⟨v, l, e6, hs, hq, hb, hz⟩ := slice_readF (f := fun p : ExCells => p.1.2) (Q := fun p => ExIn w p.1.1 p.1.2) Tryz.underlying53 cells_expr (by omega) (fun p => p.2) (fun n' cs x hn' h hw => by
      obtain ⟨e, he⟩ := ih n' (by omega) cs x h hw
      exact ⟨⟨(e, cs), he.len⟩, rfl, he⟩) h6 hw6
    simp only [List.cons.injEq, and_true] at e0 e1 e2 e3 e4 e5 e6
    obtain ⟨rfl, rfl, rfl, rfl⟩ := e2
    subst e0 e1 e3 e4 e5 e6
    rw [bytes_expr, reach_num] at hb
    refine ⟨_, .mk op pos s text mn mx _ (l.map (·.1)) (fit_of w0) (fit_of w1) (fit_of w4) (fit_of w5) w3 ?_ ?_ hz (by rw [List.length_map]; exact hb) ?_⟩
    · intro p hp
      obtain ⟨q, _, rfl⟩ := List.mem_map.1 hp
      exact q.2
    · rw [List.length_map, List.flatMap_map]; exact hs
    · intro p hp
      obtain ⟨q, hq', rfl⟩ := List.mem_map.1 hp
      exact hq q hq'
end
end Go.Proofs.YtkkopdmemjncdaaGreatDoor
