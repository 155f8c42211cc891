/- A slice of pairs (two sets, bytes, spans) that is handed in. No condition. -/
import Derived.Test.YtambkpgcccjhmaaDoorRead
namespace Go.Proofs.YtambkpgcccjhmaaDoor
open Go Go.ChangeShapes Go.WideShapes Go.ChangeAt Go.RowKit

structure PairV where
  A : BitVec 256
  B : BitVec 256
  vb : Value
  vs : Value
instance : Inhabited PairV := ⟨⟨0#256, 0#256, .bool true, .bool true⟩⟩
def pairCells (y : PairV) : List Value := [.int .u64 (wd y.A 0), .int .u64 (wd y.A 1), .int .u64 (wd y.A 2), .int .u64 (wd y.A 3), .int .u64 (wd y.B 0), .int .u64 (wd y.B 1), .int .u64 (wd y.B 2), .int .u64 (wd y.B 3), y.vb, y.vs]
theorem pairCells_len (y : PairV) : (pairCells y).length = 10 := rfl
theorem cells_pair : Tryd.prog.cellsOf 46 = 10 := by kernel_rfl
theorem cells_bytes : Tryd.prog.cellsOf 32 = 1 := by kernel_rfl
theorem cells_spans : Tryd.prog.cellsOf 34 = 1 := by kernel_rfl

section
variable {H : Type} {enc : TypeId × Value → H}
theorem pair_read {w : World} {base : Nat} {spare : Nat → Bool} {held : Bool} (n : Nat) (cs : List Value) (x : DataW H × List MemPlace) (h : DataW.trod enc Tryd.prog w base spare held n 46 cs = some x) (hw : Reached Tryd.prog 46 x.1) :
    ∃ y : PairV, cs = pairCells y ∧ (BytesIn w y.vb ∧ SpansIn w y.vs) := by
  obtain ⟨y0, y1, y2, y3, m, hx, hl, h0, h1, h2, h3⟩ := Go.Joins.trod_struct4 Tryd.underlying46 h
  have hr : ∀ m', (m' ∈ y2.1.weights Tryd.prog 32 ∨ m' ∈ y3.1.weights Tryd.prog 34) → m' ≤ reachBytes := fun m' hm' => hw m' (by
    rw [hx]
    unfold DataW.weights
    rw [Tryd.underlying46]
    simp only [List.map_cons, List.map_nil, DataW.weightsEach, List.append_nil]
    rcases hm' with hm' | hm'
    · exact List.mem_append_right _ (List.mem_append_right _ (List.mem_append_left _ hm'))
    · exact List.mem_append_right _ (List.mem_append_right _ (List.mem_append_right _ hm')))
  rw [cells_pair] at hl
  match cs, hl with
  | [c0, c1, c2, c3, c4, c5, c6, c7, c8, c9], _ =>
    simp only [cells_set, cells_bytes, cells_spans, List.drop, List.take] at h0 h1 h2 h3
    obtain ⟨A, eA⟩ := trod_set h0
    obtain ⟨B, eB⟩ := trod_set h1
    obtain ⟨vb, eb, hb⟩ := bytes_read h2 (fun m' hm' => hr m' (.inl hm'))
    obtain ⟨vs, es, hs⟩ := spans_read h3 (fun m' hm' => hr m' (.inr hm'))
    simp only [List.cons.injEq, and_true] at eA eB eb es
    obtain ⟨rfl, rfl, rfl, rfl⟩ := eA
    obtain ⟨rfl, rfl, rfl, rfl⟩ := eB
    subst eb es
    exact ⟨⟨A, B, _, _⟩, rfl, hb, hs⟩

theorem pairs_form {w : World} {r : Reach} {b0 base : Nat} {spare : Nat → Bool} {held : Bool} {v : Value} {d : DataW H} {p : List MemPlace} (hv : Value.okWide Tryd.prog w r b0 44 v) (h : DataW.Trod enc Tryd.prog w base spare held 44 v d p) (hw : Reached Tryd.prog 44 d) :
    ∃ l : List PairV, Sl w v 10 l.length (l.flatMap pairCells) ∧ ∀ y ∈ l, BytesIn w y.vb ∧ SpansIn w y.vs := by
  obtain ⟨fuel, hf0⟩ := h
  obtain ⟨a0, n0, c0, rfl⟩ := okWide_slice Tryd.underlying44 hv
  obtain ⟨v', l, e, h1, h2, _⟩ := slice_read (f := pairCells) (Q := fun y => BytesIn w y.vb ∧ SpansIn w y.vs) Tryd.underlying44 cells_pair (by omega) pairCells_len (fun n cs x h hw => pair_read n cs x h hw) hf0 hw
  obtain rfl : Value.slice a0 n0 c0 = v' := by simpa [Value.cells] using e
  exact ⟨l, h1, h2⟩
end
end Go.Proofs.YtambkpgcccjhmaaDoor
