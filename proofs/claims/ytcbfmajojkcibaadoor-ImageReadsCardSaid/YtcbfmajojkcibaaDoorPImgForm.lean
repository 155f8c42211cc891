/- Tables that are handed in: what they are. No condition. -/
import Derived.Test.YtcbfmajojkcibaaDoorPImgI
import Derived.Test.YtcbfmajojkcibaaDoorPGc
import Derived.ProofKit
import Derived.OpenShut
import Derived.Deep.Strs
import Derived.Deep.Slices
import Derived.Lib.SmallJoins
namespace Go.Proofs.YtcbfmajojkcibaaDoor
open Go Go.ChangeShapes Go.WideShapes Go.ChangeAt Go.RowKit

section
variable {H : Type} {enc : TypeId × Value → H}
set_option maxRecDepth 100000 in
theorem cells_intT : Tryd.prog.cellsOf 3 = 1 := by kernel_rfl
set_option maxRecDepth 100000 in
theorem cells_strT : Tryd.prog.cellsOf 9 = 1 := by kernel_rfl
set_option maxRecDepth 100000 in
theorem cells_cutT : Tryd.prog.cellsOf 58 = 2 := by kernel_rfl
set_option maxRecDepth 100000 in
theorem cells_stepT : Tryd.prog.cellsOf 61 = 2 := by kernel_rfl
set_option maxRecDepth 100000 in
theorem cells_stepsT : Tryd.prog.cellsOf 59 = 1 := by kernel_rfl
set_option maxRecDepth 100000 in
theorem cells_tablesT : Tryd.prog.cellsOf 30 = 12 := by kernel_rfl
set_option maxRecDepth 100000 in
theorem cells_combT : Tryd.prog.cellsOf 25 = 4 := by kernel_rfl
set_option maxRecDepth 100000 in
theorem cells_strsT : Tryd.prog.cellsOf 26 = 1 := by kernel_rfl
set_option maxRecDepth 100000 in
theorem cells_intsT : Tryd.prog.cellsOf 23 = 1 := by kernel_rfl
set_option maxRecDepth 100000 in
theorem cells_cutsT : Tryd.prog.cellsOf 27 = 1 := by kernel_rfl
set_option maxRecDepth 100000 in
theorem cells_stepssT : Tryd.prog.cellsOf 28 = 1 := by kernel_rfl
set_option maxRecDepth 100000 in
theorem bytes_tablesT : Tryd.prog.bytesOf 30 = 272 := by kernel_rfl
def fitT (n : Int) : Prop := -9223372036854775808 ≤ n ∧ n ≤ 9223372036854775807
set_option maxRecDepth 100000 in
theorem fit_ofT {n : Int} (h : (Lit.int .i64 n).wf = true) : fitT n := by
  simp [Lit.wf, IntKind.min, IntKind.max, IntKind.signed, IntKind.bits] at h; unfold fitT; omega
theorem flat_oneT {α : Type} (f : α → Value) (l : List α) : l.flatMap (fun y => [f y]) = l.map f := by
  induction l with
  | nil => rfl
  | cons a l ih => rw [List.flatMap_cons, ih]; rfl
theorem list9T {α : Type} : ∀ (l : List α), l.length = 9 → ∃ c0 c1 c2 c3 c4 c5 c6 c7 c8, l = [c0, c1, c2, c3, c4, c5, c6, c7, c8]
  | [c0, c1, c2, c3, c4, c5, c6, c7, c8], _ => ⟨c0, c1, c2, c3, c4, c5, c6, c7, c8, rfl⟩
theorem list12T {α : Type} : ∀ (l : List α), l.length = 12 → ∃ c0 c1 c2 c3 c4 c5 c6 c7 c8 c9 c10 c11, l = [c0, c1, c2, c3, c4, c5, c6, c7, c8, c9, c10, c11]
  | [c0, c1, c2, c3, c4, c5, c6, c7, c8, c9, c10, c11], _ => ⟨c0, c1, c2, c3, c4, c5, c6, c7, c8, c9, c10, c11, rfl⟩
theorem cap_read {t e : TypeId} (ht : Tryd.prog.underlying t = some (.slice e)) {w : World} {base fuel : Nat} {spare : Nat → Bool} {held : Bool} {v : Value} {x : DataW H × List MemPlace} (h : DataW.trod enc Tryd.prog w base spare held fuel t [v] = some x) : CapOk v := by
  intro p n c hv
  rcases DataW.trod_slice ht h with ⟨h1, _⟩ | ⟨a, len, cap, elems, rest, m, _, h1, _, _, hl, _⟩
  · simp only [List.cons.injEq, and_true] at h1
    rw [h1] at hv; injection hv with _ e1 e2; omega
  · simp only [List.cons.injEq, and_true] at h1
    rw [h1] at hv; injection hv with _ e1 e2; omega
set_option maxRecDepth 100000 in
theorem ints_readT {w : World} {base fuel : Nat} {spare : Nat → Bool} {held : Bool} {cs : List Value} {x : DataW H × List MemPlace} (h : DataW.trod enc Tryd.prog w base spare held fuel 23 cs = some x) (hw : Reached Tryd.prog 23 x.1) :
    ∃ (v : Value) (l : List Int), cs = [v] ∧ Sl w v 1 l.length (l.map vI) ∧ (∀ n ∈ l, fitT n) ∧ Nily v ∧ CapOk v ∧ l.length * 8 ≤ 140737488351232 := by
  obtain ⟨v, l, e, h1, h2, h3, h4⟩ := slice_readF (f := fun y : Int => [vI y]) (Q := fitT) Tryd.underlying23 cells_intT (by omega) (fun _ => rfl) (fun n cs x _ h _ => by
    obtain ⟨a, ea, _, hw⟩ := DataW.trod_int Tryd.underlying3 h
    exact ⟨a, ea, fit_ofT hw⟩) h hw
  rw [flat_oneT] at h1
  subst e
  exact ⟨v, l, rfl, h1, h2, h4, cap_read Tryd.underlying23 h, by rw [show Tryd.prog.bytesOf 3 = 8 by kernel_rfl, reach_num] at h3; exact h3⟩
set_option maxRecDepth 100000 in
theorem strs_readT {w : World} {base fuel : Nat} {spare : Nat → Bool} {held : Bool} {cs : List Value} {x : DataW H × List MemPlace} (h : DataW.trod enc Tryd.prog w base spare held fuel 26 cs = some x) (hw : Reached Tryd.prog 26 x.1) :
    ∃ (v : Value) (l : List (List UInt8)), cs = [v] ∧ Sl w v 1 l.length (l.map vS) ∧ (∀ s ∈ l, s.length ≤ 9223372036854775807) ∧ Nily v ∧ CapOk v ∧ l.length * 16 ≤ 140737488351232 := by
  obtain ⟨v, l, e, h1, h2, h3, h4⟩ := slice_readF (f := fun y : List UInt8 => [vS y]) (Q := fun s => s.length ≤ 9223372036854775807) Tryd.underlying26 cells_strT (by omega) (fun _ => rfl) (fun n cs x _ h _ => by
    obtain ⟨s, ea, _, hw⟩ := DataW.trod_string Tryd.underlying9 h
    exact ⟨s.data.toList, by rw [ea]; unfold vS; rw [← st_of], hw⟩) h hw
  rw [flat_oneT] at h1
  subst e
  exact ⟨v, l, rfl, h1, h2, h4, cap_read Tryd.underlying26 h, by rw [show Tryd.prog.bytesOf 9 = 16 by kernel_rfl, reach_num] at h3; exact h3⟩
set_option maxRecDepth 100000 in
theorem cut_readT {w : World} {base fuel : Nat} {spare : Nat → Bool} {held : Bool} {cs : List Value} {x : DataW H × List MemPlace} (h : DataW.trod enc Tryd.prog w base spare held fuel 58 cs = some x) : ∃ a : Int × Int, cs = prC a ∧ True := by
  obtain ⟨y0, y1, m, _, hl, h0, h1⟩ := trod_struct2 Tryd.underlying58 h
  rw [cells_cutT] at hl
  match cs, hl with
  | [c0, c1], _ =>
    simp only [cells_intT, List.drop, List.take] at h0 h1
    obtain ⟨a, ea, _, _⟩ := DataW.trod_int Tryd.underlying3 h0
    obtain ⟨b, eb, _, _⟩ := DataW.trod_int Tryd.underlying3 h1
    simp only [List.cons.injEq, and_true] at ea eb
    subst ea eb
    exact ⟨(a, b), rfl, trivial⟩
set_option maxRecDepth 100000 in
theorem step_readT {w : World} {base fuel : Nat} {spare : Nat → Bool} {held : Bool} {cs : List Value} {x : DataW H × List MemPlace} (h : DataW.trod enc Tryd.prog w base spare held fuel 61 cs = some x) : ∃ a : Int × Int, cs = prC a ∧ True := by
  obtain ⟨y0, y1, m, _, hl, h0, h1⟩ := trod_struct2 Tryd.underlying61 h
  rw [cells_stepT] at hl
  match cs, hl with
  | [c0, c1], _ =>
    simp only [cells_intT, List.drop, List.take] at h0 h1
    obtain ⟨a, ea, _, _⟩ := DataW.trod_int Tryd.underlying3 h0
    obtain ⟨b, eb, _, _⟩ := DataW.trod_int Tryd.underlying3 h1
    simp only [List.cons.injEq, and_true] at ea eb
    subst ea eb
    exact ⟨(a, b), rfl, trivial⟩
set_option maxRecDepth 100000 in
theorem cuts_readT {w : World} {base fuel : Nat} {spare : Nat → Bool} {held : Bool} {cs : List Value} {x : DataW H × List MemPlace} (h : DataW.trod enc Tryd.prog w base spare held fuel 27 cs = some x) (hw : Reached Tryd.prog 27 x.1) :
    ∃ (v : Value) (l : List (Int × Int)), cs = [v] ∧ Sl w v 2 l.length (l.flatMap prC) ∧ Nily v ∧ l.length * 16 ≤ 140737488351232 := by
  obtain ⟨v, l, e, h1, _, h3, h4⟩ := slice_readF (f := prC) (Q := fun _ => True) Tryd.underlying27 cells_cutT (by omega) prC_len (fun n cs x _ h _ => cut_readT h) h hw
  refine ⟨v, l, e, h1, h4, ?_⟩
  rw [show Tryd.prog.bytesOf 58 = 16 by kernel_rfl, reach_num] at h3
  exact h3
set_option maxRecDepth 100000 in
theorem steps_readT {w : World} {base fuel : Nat} {spare : Nat → Bool} {held : Bool} {cs : List Value} {x : DataW H × List MemPlace} (h : DataW.trod enc Tryd.prog w base spare held fuel 59 cs = some x) (hw : Reached Tryd.prog 59 x.1) :
    ∃ (v : Value) (l : List (Int × Int)), cs = [v] ∧ Sl w v 2 l.length (l.flatMap prC) ∧ Nily v ∧ l.length * 16 ≤ 140737488351232 := by
  obtain ⟨v, l, e, h1, _, h3, h4⟩ := slice_readF (f := prC) (Q := fun _ => True) Tryd.underlying59 cells_stepT (by omega) prC_len (fun n cs x _ h _ => step_readT h) h hw
  refine ⟨v, l, e, h1, h4, ?_⟩
  rw [show Tryd.prog.bytesOf 61 = 16 by kernel_rfl, reach_num] at h3
  exact h3
instance : Inhabited Value := ⟨.bool true⟩
/-- Tables that may be read: slices that are nil or lie somewhere; numbers that fit. -/
structure TbRd (w : World) (t : Tb) (v : TbV) : Prop where
  tb : TbIn w t v
  len : v.rows.length = t.acts.length
  fit : ∀ s, s ∈ t.base → fitT s
  fitL : ∀ s, s ∈ t.label → fitT s
  nil : Nily v.modes ∧ Nily v.labels ∧ Nily v.cuts ∧ Nily v.acts ∧ Nily v.classes ∧ Nily v.starts ∧ Nily v.label ∧ Nily v.base ∧ Nily v.dflt ∧ Nily v.next ∧ Nily v.check
  rnil : ∀ (k : Nat) u, v.rows[k]? = some u → Nily u
  reach : t.modes.length * 16 ≤ 140737488351232 ∧ t.labels.length * 16 ≤ 140737488351232 ∧ t.cuts.length * 16 ≤ 140737488351232 ∧ t.acts.length * 24 ≤ 140737488351232 ∧ t.classes.length * 8 ≤ 140737488351232 ∧ t.starts.length * 8 ≤ 140737488351232 ∧
    t.label.length * 8 ≤ 140737488351232 ∧ t.base.length * 8 ≤ 140737488351232 ∧ t.dflt.length * 8 ≤ 140737488351232 ∧ t.next.length * 8 ≤ 140737488351232 ∧ t.check.length * 8 ≤ 140737488351232
  areach : ∀ a ∈ t.acts, a.length * 16 ≤ 140737488351232
set_option maxRecDepth 100000 in
set_option maxHeartbeats 4000000 in
theorem tables_read {w : World} {base fuel : Nat} {spare : Nat → Bool} {held : Bool} {cs : List Value} {x : DataW H × List MemPlace} (h : DataW.trod enc Tryd.prog w base spare held fuel 30 cs = some x) (hw : Reached Tryd.prog 30 x.1) :
    ∃ t v, cs = tbC t v ∧ TbRd w t v := by
  obtain ⟨xs, n, hfu, rfl, hl, hlen, hf⟩ := DataW.trod_struct Tryd.underlying30 h
  obtain ⟨y0, y1, y2, y3, y4, y5, y6, y7, y8, rfl⟩ := list9T xs hlen
  have h0 : DataW.trod enc Tryd.prog w base spare held n 26 ((cs.drop 0).take (Tryd.prog.cellsOf 26)) = some y0 := hf 0 _ rfl
  have h1 : DataW.trod enc Tryd.prog w base spare held n 26 ((cs.drop 1).take (Tryd.prog.cellsOf 26)) = some y1 := hf 1 _ rfl
  have h2 : DataW.trod enc Tryd.prog w base spare held n 27 ((cs.drop 2).take (Tryd.prog.cellsOf 27)) = some y2 := hf 2 _ rfl
  have h3 : DataW.trod enc Tryd.prog w base spare held n 28 ((cs.drop 3).take (Tryd.prog.cellsOf 28)) = some y3 := hf 3 _ rfl
  have h4 : DataW.trod enc Tryd.prog w base spare held n 23 ((cs.drop 4).take (Tryd.prog.cellsOf 23)) = some y4 := hf 4 _ rfl
  have h5 : DataW.trod enc Tryd.prog w base spare held n 3 ((cs.drop 5).take (Tryd.prog.cellsOf 3)) = some y5 := hf 5 _ rfl
  have h6 : DataW.trod enc Tryd.prog w base spare held n 23 ((cs.drop 6).take (Tryd.prog.cellsOf 23)) = some y6 := hf 6 _ rfl
  have h7 : DataW.trod enc Tryd.prog w base spare held n 23 ((cs.drop 7).take (Tryd.prog.cellsOf 23)) = some y7 := hf 7 _ rfl
  have h8 : DataW.trod enc Tryd.prog w base spare held n 25 ((cs.drop 8).take (Tryd.prog.cellsOf 25)) = some y8 := hf 8 _ rfl
  have hw0 : Reached Tryd.prog 26 y0.1 := fun m' hm' => hw m' (by unfold DataW.weights; rw [Tryd.underlying30]; simp only [List.map_cons, List.map_nil, DataW.weightsEach, List.append_nil]; exact List.mem_append_left _ hm')
  have hw1 : Reached Tryd.prog 26 y1.1 := fun m' hm' => hw m' (by unfold DataW.weights; rw [Tryd.underlying30]; simp only [List.map_cons, List.map_nil, DataW.weightsEach, List.append_nil]; exact List.mem_append_right _ (List.mem_append_left _ hm'))
  have hw2 : Reached Tryd.prog 27 y2.1 := fun m' hm' => hw m' (by unfold DataW.weights; rw [Tryd.underlying30]; simp only [List.map_cons, List.map_nil, DataW.weightsEach, List.append_nil]; exact List.mem_append_right _ (List.mem_append_right _ (List.mem_append_left _ hm')))
  have hw3 : Reached Tryd.prog 28 y3.1 := fun m' hm' => hw m' (by unfold DataW.weights; rw [Tryd.underlying30]; simp only [List.map_cons, List.map_nil, DataW.weightsEach, List.append_nil]; exact List.mem_append_right _ (List.mem_append_right _ (List.mem_append_right _ (List.mem_append_left _ hm'))))
  have hw4 : Reached Tryd.prog 23 y4.1 := fun m' hm' => hw m' (by unfold DataW.weights; rw [Tryd.underlying30]; simp only [List.map_cons, List.map_nil, DataW.weightsEach, List.append_nil]; exact List.mem_append_right _ (List.mem_append_right _ (List.mem_append_right _ (List.mem_append_right _ (List.mem_append_left _ hm')))))
  have hw5 : Reached Tryd.prog 3 y5.1 := fun m' hm' => hw m' (by unfold DataW.weights; rw [Tryd.underlying30]; simp only [List.map_cons, List.map_nil, DataW.weightsEach, List.append_nil]; exact List.mem_append_right _ (List.mem_append_right _ (List.mem_append_right _ (List.mem_append_right _ (List.mem_append_right _ (List.mem_append_left _ hm'))))))
  have hw6 : Reached Tryd.prog 23 y6.1 := fun m' hm' => hw m' (by unfold DataW.weights; rw [Tryd.underlying30]; simp only [List.map_cons, List.map_nil, DataW.weightsEach, List.append_nil]; exact List.mem_append_right _ (List.mem_append_right _ (List.mem_append_right _ (List.mem_append_right _ (List.mem_append_right _ (List.mem_append_right _ (List.mem_append_left _ hm')))))))
  have hw7 : Reached Tryd.prog 23 y7.1 := fun m' hm' => hw m' (by unfold DataW.weights; rw [Tryd.underlying30]; simp only [List.map_cons, List.map_nil, DataW.weightsEach, List.append_nil]; exact List.mem_append_right _ (List.mem_append_right _ (List.mem_append_right _ (List.mem_append_right _ (List.mem_append_right _ (List.mem_append_right _ (List.mem_append_right _ (List.mem_append_left _ hm'))))))))
  have hw8 : Reached Tryd.prog 25 y8.1 := fun m' hm' => hw m' (by unfold DataW.weights; rw [Tryd.underlying30]; simp only [List.map_cons, List.map_nil, DataW.weightsEach, List.append_nil]; exact List.mem_append_right _ (List.mem_append_right _ (List.mem_append_right _ (List.mem_append_right _ (List.mem_append_right _ (List.mem_append_right _ (List.mem_append_right _ (List.mem_append_right _ (hm')))))))))
  clear hf h hw
  rw [cells_tablesT] at hl
  obtain ⟨c0, c1, c2, c3, c4, c5, c6, c7, c8, c9, c10, c11, rfl⟩ := list12T cs hl
  simp only [cells_intT, cells_strsT, cells_intsT, cells_cutsT, cells_stepssT, cells_combT, List.drop, List.take] at h0 h1 h2 h3 h4 h5 h6 h7 h8
  obtain ⟨vm, lm, e0, s0, q0, z0, k0, b0⟩ := strs_readT h0 hw0
  obtain ⟨vl, ll, e1, s1, q1, z1, k1, b1⟩ := strs_readT h1 hw1
  obtain ⟨vc, lc, e2, s2, z2, b2⟩ := cuts_readT h2 hw2
  obtain ⟨va, la, e3, s3, q3, b3, z3⟩ := slice_readF (f := fun p : Value × List (Int × Int) => [p.1]) (Q := fun p => Sl w p.1 2 p.2.length (p.2.flatMap prC) ∧ Nily p.1 ∧ p.2.length * 16 ≤ 140737488351232) Tryd.underlying28 cells_stepsT (by omega) (fun _ => rfl) (fun n cs x _ h hw => by
    obtain ⟨v, l, e, a1, a2, a3⟩ := steps_readT h hw
    exact ⟨(v, l), e, a1, a2, a3⟩) h3 hw3
  rw [show Tryd.prog.bytesOf 59 = 24 by kernel_rfl, reach_num] at b3
  obtain ⟨vcl, lcl, e4, s4, q4, z4, k4, b4⟩ := ints_readT h4 hw4
  obtain ⟨co, e5, _, w5⟩ := DataW.trod_int Tryd.underlying3 h5
  obtain ⟨vst, lst, e6, s6, q6, z6, k6, b6⟩ := ints_readT h6 hw6
  obtain ⟨vlb, llb, e7, s7, q7, z7, k7, b7⟩ := ints_readT h7 hw7
  obtain ⟨x0, x1, x2, x3, m, hx, hl4, g0, g1, g2, g3⟩ := Go.Joins.trod_struct4 Tryd.underlying25 h8
  have gw0 : Reached Tryd.prog 23 x0.1 := fun m' hm' => hw8 m' (by rw [hx]; unfold DataW.weights; rw [Tryd.underlying25]; simp only [List.map_cons, List.map_nil, DataW.weightsEach, List.append_nil]; exact List.mem_append_left _ hm')
  have gw1 : Reached Tryd.prog 23 x1.1 := fun m' hm' => hw8 m' (by rw [hx]; unfold DataW.weights; rw [Tryd.underlying25]; simp only [List.map_cons, List.map_nil, DataW.weightsEach, List.append_nil]; exact List.mem_append_right _ (List.mem_append_left _ hm'))
  have gw2 : Reached Tryd.prog 23 x2.1 := fun m' hm' => hw8 m' (by rw [hx]; unfold DataW.weights; rw [Tryd.underlying25]; simp only [List.map_cons, List.map_nil, DataW.weightsEach, List.append_nil]; exact List.mem_append_right _ (List.mem_append_right _ (List.mem_append_left _ hm')))
  have gw3 : Reached Tryd.prog 23 x3.1 := fun m' hm' => hw8 m' (by rw [hx]; unfold DataW.weights; rw [Tryd.underlying25]; simp only [List.map_cons, List.map_nil, DataW.weightsEach, List.append_nil]; exact List.mem_append_right _ (List.mem_append_right _ (List.mem_append_right _ (hm'))))
  simp only [cells_intsT, List.drop, List.take] at g0 g1 g2 g3
  obtain ⟨vba, lba, f0, t0, r0, y0, j0, d0⟩ := ints_readT g0 gw0
  obtain ⟨vdf, ldf, f1, t1, r1, y1, j1, d1⟩ := ints_readT g1 gw1
  obtain ⟨vne, lne, f2, t2, r2, y2, j2, d2⟩ := ints_readT g2 gw2
  obtain ⟨vch, lch, f3, t3, r3, y3, j3, d3⟩ := ints_readT g3 gw3
  simp only [List.cons.injEq, and_true] at e0 e1 e2 e3 e4 e5 e6 e7 f0 f1 f2 f3
  subst e0 e1 e2 e3 e4 e5 e6 e7 f0 f1 f2 f3
  have s3' : Sl w c3 1 (la.map (·.2)).length (la.map (·.1)) := by
    rw [List.length_map]; rw [flat_oneT] at s3; exact s3
  refine ⟨⟨lm, ll, lc, la.map (·.2), lcl, co, lst, llb, lba, ldf, lne, lch⟩, ⟨c0, c1, c2, c3, la.map (·.1), c4, c6, c7, c8, c9, c10, c11⟩, rfl, ?_, by simp, r0, q7, ⟨z0, z1, z2, z3, z4, z6, z7, y0, y1, y2, y3⟩, fun k u hu => ?_, ⟨b0, b1, b2, by rw [List.length_map]; exact b3, b4, b6, b7, d0, d1, d2, d3⟩, fun a ha => ?_⟩
  · refine ⟨s0, s1, s2, s3', fun k a hk => ?_, s4, s6, s7, t0, t1, t2, t3, k0, fun s hs => hs.elim (q0 s) (q1 s)⟩
    rw [List.getElem?_map] at hk
    obtain ⟨p, hp, rfl⟩ := Option.map_eq_some_iff.1 hk
    exact ⟨p.1, by show (la.map (·.1))[k]? = _; rw [List.getElem?_map, hp]; rfl, (q3 p (List.mem_of_getElem? hp)).1⟩
  · change (la.map (·.1))[k]? = some u at hu
    rw [List.getElem?_map] at hu
    obtain ⟨p, hp, rfl⟩ := Option.map_eq_some_iff.1 hu
    exact (q3 p (List.mem_of_getElem? hp)).2.1
  · obtain ⟨p, hp, rfl⟩ := List.mem_map.1 ha
    exact (q3 p hp).2.2
set_option maxRecDepth 100000 in
theorem tables_form {w : World} {r : Reach} {b0 base : Nat} {spare : Nat → Bool} {held : Bool} {v : Value} {d : DataW H} {p : List MemPlace}
    (hv : Value.okWide Tryd.prog w r b0 30 v) (h : DataW.Trod enc Tryd.prog w base spare held 30 v d p) (hw : Reached Tryd.prog 30 d) : ∃ t tv, v = tbV t tv ∧ TbRd w t tv := by
  obtain ⟨cs, rfl, hsz⟩ := okWide_struct Tryd.underlying30 hv
  obtain ⟨fuel, hf⟩ := h
  obtain ⟨l⟩ := cs
  simp only [Value.cells] at hf
  obtain ⟨t, tv, e, hT⟩ := tables_read hf hw
  exact ⟨t, tv, by rw [show l = _ from e]; rfl, hT⟩
end
end Go.Proofs.YtcbfmajojkcibaaDoor
