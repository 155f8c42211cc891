/- Texts of mine, put together: Slice, Err0, RowK, ErrB. No condition but what each says. -/
import Derived.Test.YtcbfmajojkcibaaDoorRows
import Derived.Test.YtcbfmajojkcibaaDoorPGa
import Derived.ProofKit
import Derived.OpenShut
import Derived.Deep.Strs
import Derived.Deep.Slices
import Derived.Test.YtcbfmajojkcibaaDoorCards
import Derived.Test.YtcbfmajojkcibaaDoorTie
import Derived.Deep.DeepWitnessRowRef
import Derived.Deep.DeepHandedRow
import Derived.Stop.LaidErr
import Derived.Lay

/- Slices among the cells that are read: of elements whose cells are known, with what is known of each and how much they take. No condition. -/
namespace Go.Proofs.YtcbfmajojkcibaaDoor
open Go Go.ChangeShapes Go.WideShapes Go.ChangeAt Go.RowKit

theorem addr_add (b off j : Nat) : (⟨b, off, none⟩ : Addr).add j = ⟨b, off + j, none⟩ := by
  unfold Addr.add
  by_cases h : j = 0
  · subst h; rfl
  · rw [if_neg h]

theorem flatMap_get_of {α : Type} (f : α → List Value) (k : Nat) : ∀ (l : List α) (_ : ∀ a ∈ l, (f a).length = k) (i j : Nat) (a : α), l[i]? = some a → j < k → (l.flatMap f)[i * k + j]? = (f a)[j]?
  | [], _, i, j, a, h, _ => by simp at h
  | x :: l, hf, 0, j, a, h, hj => by
    simp at h; subst h
    rw [List.flatMap_cons, Nat.zero_mul, Nat.zero_add, List.getElem?_append_left (by rw [hf _ (by simp)]; exact hj)]
  | x :: l, hf, i + 1, j, a, h, hj => by
    simp at h
    rw [List.flatMap_cons, List.getElem?_append_right (by rw [hf _ (by simp), Nat.succ_mul]; omega), hf _ (by simp), show (i + 1) * k + j - k = i * k + j by rw [Nat.succ_mul]; omega]
    exact flatMap_get_of f k l (fun a ha => hf a (by simp [ha])) i j a h hj

section
variable {H : Type} {enc : TypeId × Value → H}
/-- All that is read takes no more than the reach. -/
def Reached (P : Program) (t : TypeId) (d : DataW H) : Prop := ∀ m ∈ d.weights P t, m ≤ reachBytes
theorem mem_weightsAll (P : Program) (e : TypeId) (m : Nat) : ∀ (l : List (DataW H)) (d : DataW H), d ∈ l → m ∈ d.weights P e → m ∈ DataW.weightsAll P e l
  | [], d, h, _ => by cases h
  | x :: l, d, h, hm => by
    unfold DataW.weightsAll
    rcases List.mem_cons.1 h with rfl | h
    · exact List.mem_append_left _ hm
    · exact List.mem_append_right _ (mem_weightsAll P e m l d h hm)
theorem reached_each (P : Program) (t : TypeId) (d : DataW H) (ts : List TypeId) (ds : List (DataW H)) (h : (DataW.weightsEach P (t :: ts) (d :: ds)).all (· ≤ reachBytes) = true) : Reached P t d := fun m hm => by
  unfold DataW.weightsEach at h
  have := List.all_eq_true.1 h m (List.mem_append_left _ hm)
  simpa using this

/-- nil, or a slice somewhere. -/
def Nily (v : Value) : Prop := v = .slice none 0 0 ∨ ∃ a n c, v = .slice (some a) n c
/-- .. slices, with the fuel. -/
theorem slice_readF {α : Type} [Inhabited α] {f : α → List Value} {Q : α → Prop} {k : Nat} {t e : TypeId} (ht : Tryd.prog.underlying t = some (.slice e)) (hk : Tryd.prog.cellsOf e = k) (hk0 : 0 < k) (hf : ∀ a, (f a).length = k)
    {w : World} {base fuel : Nat} {spare : Nat → Bool} {held : Bool} {cs : List Value} {x : DataW H × List MemPlace}
    (hel : ∀ (n : Nat) (cs : List Value) (x : DataW H × List MemPlace), n < fuel → DataW.trod enc Tryd.prog w base spare held n e cs = some x → Reached Tryd.prog e x.1 → ∃ y, cs = f y ∧ Q y)
    (h : DataW.trod enc Tryd.prog w base spare held fuel t cs = some x) (hw : Reached Tryd.prog t x.1) :
    ∃ (v : Value) (l : List α), cs = [v] ∧ Sl w v k l.length (l.flatMap f) ∧ (∀ a ∈ l, Q a) ∧ l.length * Tryd.prog.bytesOf e ≤ reachBytes ∧ Nily v := by
  rcases DataW.trod_slice ht h with ⟨rfl, _⟩ | ⟨a, len, cap, elems, rest, n, hfuel, rfl, rfl, _, hl, hm, hlen, hx, _, _⟩
  · exact ⟨_, [], rfl, Sl.nil w k, by simp, by simp, .inl rfl⟩
  · have hwt : len * Tryd.prog.bytesOf e ≤ reachBytes := by
      have h1 := hw (((elems.map (·.1)).length + (rest.map (·.1)).length) * Tryd.prog.bytesOf e) (by
        unfold DataW.weights; rw [ht]; exact List.mem_cons_self)
      refine Nat.le_trans (Nat.mul_le_mul_right _ ?_) h1
      simp; omega
    have hwe : ∀ (i : Nat) (y : DataW H × List MemPlace), elems[i]? = some y → Reached Tryd.prog e y.1 := fun i y hy m' hm' => hw m' (by
      unfold DataW.weights; rw [ht]
      exact List.mem_cons_of_mem _ (List.mem_append_left _ (mem_weightsAll Tryd.prog e m' _ y.1 (List.mem_map.2 ⟨y, List.mem_of_getElem? hy, rfl⟩) hm')))
    rcases Nat.eq_zero_or_pos len with h0 | h0
    · subst h0
      exact ⟨_, [], rfl, Sl.zero w _ _ k, by simp, by simp, .inr ⟨_, _, _, rfl⟩⟩
    have hg : ∀ i, i < len → ∃ y : α, Q y ∧ ∀ j, j < k → w.cell? ((a.add (i * k)).add j) = (f y)[j]? := by
      intro i hi
      obtain ⟨z, hz⟩ : ∃ z, elems[i]? = some z := ⟨_, List.getElem?_eq_getElem (by omega)⟩
      have h1 := hx i hi
      rw [hz] at h1
      obtain ⟨cs, h2, h3⟩ := Option.bind_eq_some_iff.1 h1
      obtain ⟨y, rfl, hy⟩ := hel n _ _ (by omega) h3 (hwe i z hz)
      refine ⟨y, hy, fun j hj => ?_⟩
      have := (World.cells?_some h2).2.2 j (by omega)
      rw [hk] at this
      exact this
    obtain ⟨g, hg⟩ := Go.Deep.choose_lt hg
    have hspot : a.spot = none := by
      have h1 := (hg 0 h0).2 0 hk0
      have h2 : ((f (g 0))[0]?).isSome = true := by simp [hf, hk0]
      rw [Nat.zero_mul, show (a.add 0).add 0 = a from rfl] at h1
      cases hs : a.spot with
      | none => rfl
      | some s =>
        rw [← h1] at h2
        unfold World.cell? at h2
        split at h2
        · rw [hs] at h2; simp at h2
        · cases h2
    obtain ⟨b, off, spot⟩ := a
    simp only at hspot
    subst hspot
    refine ⟨_, (List.range len).map g, rfl, ⟨?_, by simp; omega, .inr ⟨b, off, cap, by simp, ?_, ?_⟩⟩, ?_, by simpa using hwt, .inr ⟨_, _, _, rfl⟩⟩
    · rw [flatMap_len f k hf]
    · intro hn
      have h1 := (hg 0 h0).2 0 hk0
      have : ((f (g 0))[0]?).isSome = true := by simp [hf, hk0]
      rw [Option.isSome_iff_exists] at this
      obtain ⟨u, hu⟩ := this
      rw [hu, Nat.zero_mul] at h1
      exact World.block_lt_of_cell? w (⟨b, off, none⟩ : Addr) h1
    · intro j u hj
      have hjl : j < ((List.range len).map g).length * k := by
        rw [← flatMap_len f k hf]; exact (List.getElem?_eq_some_iff.1 hj).1
      simp only [List.length_map, List.length_range] at hjl
      have hq : j / k < len := Nat.div_lt_of_lt_mul (by rw [Nat.mul_comm]; exact hjl)
      have hr : j % k < k := Nat.mod_lt _ hk0
      have hjj : j / k * k + j % k = j := by rw [Nat.mul_comm]; exact Nat.div_add_mod j k
      have h1 := flatMap_get f k hf ((List.range len).map g) (j / k) (j % k) (g (j / k)) (by simp [hq]) hr
      rw [hjj, hj] at h1
      have h2 := (hg (j / k) hq).2 (j % k) hr
      rw [addr_add, addr_add, Nat.add_assoc, hjj] at h2
      rw [h2, ← h1]
    · intro y hy
      obtain ⟨i, hi, rfl⟩ := List.mem_map.1 hy
      exact (hg i (List.mem_range.1 hi)).1

theorem slice_read {α : Type} [Inhabited α] {f : α → List Value} {Q : α → Prop} {k : Nat} {t e : TypeId} (ht : Tryd.prog.underlying t = some (.slice e)) (hk : Tryd.prog.cellsOf e = k) (hk0 : 0 < k) (hf : ∀ a, (f a).length = k)
    {w : World} {base fuel : Nat} {spare : Nat → Bool} {held : Bool} {cs : List Value} {x : DataW H × List MemPlace}
    (hel : ∀ (n : Nat) (cs : List Value) (x : DataW H × List MemPlace), DataW.trod enc Tryd.prog w base spare held n e cs = some x → Reached Tryd.prog e x.1 → ∃ y, cs = f y ∧ Q y)
    (h : DataW.trod enc Tryd.prog w base spare held fuel t cs = some x) (hw : Reached Tryd.prog t x.1) :
    ∃ (v : Value) (l : List α), cs = [v] ∧ Sl w v k l.length (l.flatMap f) ∧ (∀ a ∈ l, Q a) ∧ l.length * Tryd.prog.bytesOf e ≤ reachBytes ∧ Nily v :=
  slice_readF ht hk hk0 hf (fun n cs x _ h hw => hel n cs x h hw) h hw
theorem reach_num : reachBytes = 140737488351232 := rfl
end
end Go.Proofs.YtcbfmajojkcibaaDoor

/- A variable that holds an error. No condition. -/
namespace Go.Proofs.YtcbfmajojkcibaaDoor
open Go Go.RowKit

/-- A variable that holds an error. -/
def Errs (w : World) (g : Nat) (v : Value) : Prop := w.cell? ⟨g, 0, none⟩ = some v ∧ ∃ t x, v = .iface t x
theorem Errs.later {w w' : World} {g : Nat} {v : Value} (h : Errs w g v) (hG : Gr w w') : Errs w' g v := ⟨hG.cell h.1, h.2⟩

end Go.Proofs.YtcbfmajojkcibaaDoor

/- Whole rows: laid, read, named. No condition. -/
namespace Go.Proofs.YtcbfmajojkcibaaDoor
open Go Go.RowKit

/-- A row that is laid and then written whole. -/
theorem new_row {w W : World} {z : Array Value} {t : TypeId} {cs : List Value} (h : W = (w.alloc (.cells z t)).setRow w.heap.size cs.toArray) : boxAt W w.heap.size cs ∧ Gr w W ∧ W.heap.size = w.heap.size + 1 := by
  have h0 := setRow_heap (w.alloc (.cells z t)) w.heap.size z cs.toArray t (0, 0) (heap_alloc_new w _)
  have hx : ∀ k, k ≠ w.heap.size → W.heap[k]? = (w.alloc (.cells z t)).heap[k]? := fun k hk => by rw [h]; exact setRow_other _ _ _ _ hk
  rw [← h] at h0
  refine ⟨fun j u hj => ⟨?_, ?_⟩, ?_, by rw [h]; simp⟩
  · rw [cell_of_row W _ j _ t _ h0]; simpa using hj
  · exact frozen_of_row W _ j _ t h0
  · refine ⟨by rw [h]; rfl, by rw [h]; rfl, by rw [h]; rfl, by rw [h]; simp, fun k hk => ?_⟩
    rw [hx k (by omega)]; exact Below.heap_alloc w _ k hk
theorem boxAt.row {w : World} {b : Nat} {vs : List Value} (h : boxAt w b vs) : ∀ t u, vs[t]? = some u → w.cell? ⟨b, 0 + t, none⟩ = some u := fun t u ht => by rw [Nat.zero_add]; exact h.cell t u ht
theorem all_ones (cs : List Value) (h : cs.all (·.oneCell') = true) : cs.toArray.all (·.oneCell') = true := by simpa using h
theorem name_wpList {P : Program} {ops : Array Oper} {Q : Exit → Act → World → Prop} {l : List Oper} {a : Act} {w0 : World} (h : ∀ W, W = w0 → wpList P ops Q l a W) : wpList P ops Q l a w0 := h _ rfl

theorem name_body {P : Program} {f : Func} {R : Ending → World → Prop} {x : Exit} {a : Act} {w0 : World} (h : ∀ W, W = w0 → bodyPost P f R x a W) : bodyPost P f R x a w0 := h _ rfl

/-- A load of a whole row, at any place. -/
theorem wp_load_at {P : Program} {o : Oper} {a : Act} {w : World} {K : Act → World → Prop} {Q : Exit → Act → World → Prop} (ty : TypeId) (x : Operand) (ho : o.op = .load ty x)
    (b q : Nat) (hx : a.eval x = .pointer (some ⟨b, q, none⟩)) (cs : List Value) (d : TypeDesc) (hc : ∀ (j : Nat) (u : Value), cs[j]? = some u → w.cell? ⟨b, q + j, none⟩ = some u)
    (hu : P.underlying ty = some d) (hd : (match d with | .struct _ | .array _ _ => true | _ => false) = true) (hi : (P.info? ty).map (·.size) = some cs.length)
    (h : K (a.put o.dst (.agg cs.toArray)) w) : o.wp P a w K Q := by
  have hl : (loadCells ⟨b, q, none⟩ cs.length).run P w = .ok cs.toArray w :=
    run_loadCells_list (P := P) w ⟨b, q, none⟩ cs (fun j v hv => by rw [addr_add]; exact hc j v hv)
  have hv : (loadVar ty ⟨b, q, none⟩).run P w = .ok (.agg cs.toArray) w := by
    cases hq : P.info? ty with
    | none => simp [hq] at hi
    | some i =>
      have hs : i.size = cs.length := by simpa [hq] using hi
      have hagg : (isAgg ty).run P w = .ok true w := by
        unfold isAgg
        rw [Sem.run_bind, run_underlying hu w]
        cases d <;> simp_all
      simp [loadVar, Sem.run_bind, hagg, sizeOf, typeInfo, hq, hs, hl]
  unfold Oper.wp execOp
  simp only [ho, hx, Instr.loadAt, Instr.sureAddr, Sem.run_bind, Sem.run_pure, Result.andThen_ok, hv]
  exact h
theorem bx2 (w : World) (c0 c1 : List Value) (e0 e1 : TypeId) :
    boxAt ((w.alloc (.cells c0.toArray e0)).alloc (.cells c1.toArray e1)) w.heap.size c0 ∧ boxAt ((w.alloc (.cells c0.toArray e0)).alloc (.cells c1.toArray e1)) (w.heap.size + 1) c1 ∧
    Gr w ((w.alloc (.cells c0.toArray e0)).alloc (.cells c1.toArray e1)) ∧ ((w.alloc (.cells c0.toArray e0)).alloc (.cells c1.toArray e1)).heap.size = w.heap.size + 2 := by
  refine ⟨(boxAt.new _ _ rfl).later (Gr.alloc _ _), ?_, (Gr.alloc _ _).trans (Gr.alloc _ _), by simp⟩
  have := boxAt.new (w := w.alloc (.cells c0.toArray e0)) c1 e1 rfl
  simpa using this
theorem size_put1 (w : World) (p : Addr) (v : Value) : (w.setCell p v).heap.size = w.heap.size := by simp [World.setCell]

end Go.Proofs.YtcbfmajojkcibaaDoor

/- The errors' variables, out of a row that lists them. No condition. -/
namespace Go.Proofs.YtcbfmajojkcibaaDoor
open Go Go.ChangeShapes Go.WideShapes Go.ChangeAt Go.RowKit

theorem star_es : "*" ++ "errors.errorString" = "*errors.errorString" := by decide
theorem row_es (u : TypeId) (h : Tryd.prog.typeName? 3 u = some "*errors.errorString") : u = 157 :=
  typeName_ptr_named (nm := "errors.errorString") (by rw [star_es]; kernel_rfl) (by kernel_rfl) (by decide) u (by rw [star_es]; exact h)
theorem cells_es : Tryd.prog.cellsOf 178 = 1 := by kernel_rfl
theorem cells_st : Tryd.prog.cellsOf 9 = 1 := by kernel_rfl
/-- The head of the list: its variable holds an error. -/
theorem err_of {n : String} {text : List UInt8} {r : List (String × DataW Unit)} {W : World} (h : laidMet Tryd.prog ((n, .iface "*errors.errorString" (.ptr (.agg [.lit (.string text)]))) :: r) W) {g : Nat} (hg : Tryd.prog.globalNamed n = some g)
    (ht : (Tryd.prog.globals[g]?).map (·.type) = some 38) : ∃ v, W.cell? ⟨g, 0, none⟩ = some v ∧ ∃ t x, v = .iface t x := by
  obtain ⟨a, s, hv, _⟩ := laid_sentinel h hg ht Tryd.underlying38 row_es Tryd.underlying157 Tryd.underlying178 rfl rfl Tryd.underlying9 cells_es cells_st
  exact ⟨_, World.var?_cell hg hv 0, _, _, rfl⟩
/-- The head of the list: its variable holds an error. -/
theorem errs_of {n : String} {text : List UInt8} {r : List (String × DataW Unit)} {W : World} (h : laidMet Tryd.prog ((n, .iface "*errors.errorString" (.ptr (.agg [.lit (.string text)]))) :: r) W) {g : Nat} (hg : Tryd.prog.globalNamed n = some g)
    (ht : (Tryd.prog.globals[g]?).map (·.type) = some 38) : ∃ v, Errs W g v := by
  obtain ⟨a, s, hv, _⟩ := laid_sentinel h hg ht Tryd.underlying38 row_es Tryd.underlying157 Tryd.underlying178 rfl rfl Tryd.underlying9 cells_es cells_st
  exact ⟨_, World.var?_cell hg hv 0, _, _, rfl⟩

end Go.Proofs.YtcbfmajojkcibaaDoor
