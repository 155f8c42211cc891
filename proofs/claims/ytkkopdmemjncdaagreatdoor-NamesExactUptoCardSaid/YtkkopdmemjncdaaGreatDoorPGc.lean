/- Texts of mine, put together: Slice, Frame0, Frame, Err0, RowK, ErrB, Bulk, Append0. No condition but what each says. -/
import Derived.Test.YtkkopdmemjncdaaGreatDoorRows
import Derived.Test.YtkkopdmemjncdaaGreatDoorPGa
import Derived.ProofKit
import Derived.OpenShut
import Derived.Deep.Strs
import Derived.Deep.Slices
import Derived.Lib.SmallJoins
import Derived.Test.YtkkopdmemjncdaaGreatDoorCards
import Derived.Test.YtkkopdmemjncdaaGreatDoorTie
import Derived.Deep.DeepWitnessRowRef
import Derived.Deep.DeepHandedRow
import Derived.Stop.LaidErr
import Derived.Lay
import Derived.Laws.OwnMore
import Derived.OwnWalk
namespace Go.Proofs.YtkkopdmemjncdaaGreatDoor
open Go Go.ChangeShapes Go.WideShapes Go.ChangeAt Go.RowKit
theorem addr_add (b off j : Nat) : (⟨b, off, none⟩ : Addr).add j = ⟨b, off + j, none⟩ := by
 unfold Addr.add
 by_cases h : j = 0
 · subst h; rfl
 · rw [if_neg h]
theorem flatMap_get_of {α : Type} (f : α → List Value) (k : Nat) : ∀ (l : List α) (_ : ∀ a ∈ l, (f a).length = k) (i j : Nat) (a : α), l[i]? = some a → j < k → (l.flatMap f)[i * k + j]? = (f a)[j]?
 | [], _, i, j, a, h, _ => by simp at h
 |
  x :: l, hf, 0, j, a, h, hj => by
  simp at h; subst h
  rw [List.flatMap_cons, Nat.zero_mul, Nat.zero_add, List.getElem?_append_left (by rw [hf _ (by simp)]; exact hj)]
 |
  x :: l, hf, i + 1, j, a, h, hj => by
  simp at h
  rw [List.flatMap_cons, List.getElem?_append_right (by rw [hf _ (by simp), Nat.succ_mul]; omega), hf _ (by simp), show (i + 1) * k + j - k = i * k + j by rw [Nat.succ_mul]; omega]
  exact flatMap_get_of f k l (fun a ha => hf a (by simp [ha])) i j a h hj
section
variable {H : Type} {enc : TypeId × Value → H}
def Reached (P : Program) (t : TypeId) (d : DataW H) : Prop := ∀ m ∈ d.weights P t, m ≤ reachBytes
theorem mem_weightsAll (P : Program) (e : TypeId) (m : Nat) : ∀ (l : List (DataW H)) (d : DataW H), d ∈ l → m ∈ d.weights P e → m ∈ DataW.weightsAll P e l
 | [], d, h, _ => by cases h
 |
  x :: l, d, h, hm => by
  unfold DataW.weightsAll
  rcases List.mem_cons.1 h with rfl | h
  · exact List.mem_append_left _ hm
  · exact List.mem_append_right _ (mem_weightsAll P e m l d h hm)
theorem reached_each (P : Program) (t : TypeId) (d : DataW H) (ts : List TypeId) (ds : List (DataW H)) (h : (DataW.weightsEach P (t :: ts) (d :: ds)).all (· ≤ reachBytes) = true) : Reached P t d := fun m hm => by
 unfold DataW.weightsEach at h
 have := List.all_eq_true.1 h m (List.mem_append_left _ hm)
 simpa using this
def Nily (v : Value) : Prop := v = .slice none 0 0 ∨ ∃ a n c, v = .slice (some a) n c
theorem reach_num : reachBytes = 140737488351232 := rfl
end
end Go.Proofs.YtkkopdmemjncdaaGreatDoor
namespace Go.Proofs.YtkkopdmemjncdaaGreatDoor
open Go Go.ChangeShapes Go.WideShapes Go.ChangeAt Go.RowKit
theorem own_knob : ownKnob Tryz.prog.godebug = none := by kernel_rfl
theorem laid_out : laidOutB Tryz.prog = true := by kernel_rfl
section
variable {H : Type} {enc : TypeId × Value → H}
theorem trodAll_later {W W' : World} (hb : Gr W W') : ∀ (ts : List TypeId) (vs : List Value) (ds : List (DataW H)) (p : List MemPlace), (∀ t ∈ ts, (Tryz.prog.readableRec t && decide (t < Tryz.prog.types.size)) = true) →
  (∀ x ∈ p, x.block < W.heap.size) → DataW.TrodAll enc Tryz.prog W 0 (fun _ => true) true ts vs ds p → DataW.TrodAll enc Tryz.prog W' 0 (fun b => decide (b < W.heap.size)) true ts vs ds p
 |
  [], vs, ds, p, _, _, h => by
  obtain ⟨rfl, rfl, rfl⟩ := trodAll_nil h
  exact trodAll_mk0
 |
  t
   :: ts, vs, ds, p, hr, hlt, h => by
  obtain ⟨v, vs', d, ds', p', q', rfl, rfl, rfl, h0, r0⟩ := trodAll_cons h
  have ht := hr t (by simp)
  simp only [Bool.and_eq_true, decide_eq_true_eq] at ht
  exact trodAll_cons_mk (Below.trod laid_out ht.1 ht.2 h0 hb (fun x hx => hlt x (by simp [hx])))
   (trodAll_later hb ts vs' ds' q' (fun u hu => hr u (by simp [hu])) (fun x hx => hlt x (by simp [hx])) r0)
theorem law_post {f : Func} {s : ChangeSpec} {W W' : World} {args : Array Value} {ds gs : List (DataW H)} {before : List MemPlace}
  (hW : DataW.Whole enc Tryz.prog f.params.toList s.vars false W args.toList ds gs before) (hg : Gr W W') (hvars : s.vars = []) (hr : (f.params.toList.all fun t => Tryz.prog.readableRec t && decide (t < Tryz.prog.types.size)) = true)
  (hres : f.resultTypes = #[4]) (hspec : s.fn H (ds ++ gs) = { results := [.lit (.bool true)], args := ds }) :
  s.post enc Tryz.prog f false true false false W args (.bool true) W' := by
 have hlt := hW.lt
 obtain ⟨p, q, hA, hV, hpq, hfz, hnd⟩ := id hW
 have hV' : gs = [] ∧ q = [] := by rw [hvars] at hV; exact trodVars_none hV
 obtain ⟨rfl, rfl⟩ := hV'
 refine ⟨ds, [], before, [], p, [], hW, ?_, ?_, ?_, ?_, fun h => by cases h⟩
 ·
  rw [hspec, hres]
  exact trodAll_mk1 (shut_bool Tryz.underlying4 _)
 ·
  rw [hspec]
  exact trodAll_later hg _ _ _ _ (fun t ht => List.all_eq_true.1 hr t ht) (fun x hx => hlt x (by rw [hpq]; simp [hx])) hA
 · rw [hvars, hspec]; rfl
 · exact Below.frame hg _
end
end Go.Proofs.YtkkopdmemjncdaaGreatDoor
namespace Go.Proofs.YtkkopdmemjncdaaGreatDoor
open Go Go.ChangeShapes Go.WideShapes Go.ChangeAt Go.RowKit
section
variable {H : Type} {enc : TypeId × Value → H}
theorem list4 {α : Type} : ∀ (l : List α), l.length = 4 → ∃ c0 c1 c2 c3, l = [c0, c1, c2, c3]
 | [c0, c1, c2, c3], _ => ⟨c0, c1, c2, c3, rfl⟩
theorem cells_u64 : Tryz.prog.cellsOf 50 = 1 := by kernel_rfl
theorem cells_set : Tryz.prog.cellsOf 52 = 4 := by kernel_rfl
theorem bounds64 {n : Int} (h : (Lit.int .u64 n).wf = true) : 0 ≤ n ∧ n < 18446744073709551616 := by
 simp [Lit.wf, IntKind.min, IntKind.max, IntKind.signed, IntKind.bits] at h; omega
theorem trod_set {w : World} {base : Nat} {spare : Nat → Bool} {held : Bool} {fuel : Nat} {cs : List Value} {x : DataW H × List MemPlace} (h : DataW.trod enc Tryz.prog w base spare held fuel 52 cs = some x) :
  ∃ s : BitVec 256, cs = [.int .u64 (wd s 0), .int .u64 (wd s 1), .int .u64 (wd s 2), .int .u64 (wd s 3)] := by
 obtain ⟨_, _, _, _, hl, _, _⟩ := DataW.trod_array Tryz.underlying52 h
 rw [cells_set] at hl
 obtain ⟨c0, c1, c2, c3, rfl⟩ := list4 cs hl
 obtain ⟨y0, y1, y2, y3, n, _, h0, h1, h2, h3⟩ := trod_array4 Tryz.underlying52 cells_u64 h
 obtain ⟨a0, e0, _, w0⟩ := DataW.trod_int Tryz.underlying50 h0
 obtain ⟨a1, e1, _, w1⟩ := DataW.trod_int Tryz.underlying50 h1
 obtain ⟨a2, e2, _, w2⟩ := DataW.trod_int Tryz.underlying50 h2
 obtain ⟨a3, e3, _, w3⟩ := DataW.trod_int Tryz.underlying50 h3
 simp only [List.cons.injEq, and_true] at e0 e1 e2 e3
 subst e0 e1 e2 e3
 obtain ⟨s, r0, r1, r2, r3⟩ := wd_make a0 a1 a2 a3 (bounds64 w0) (bounds64 w1) (bounds64 w2) (bounds64 w3)
 exact ⟨s, by rw [r0, r1, r2, r3]⟩
end
end Go.Proofs.YtkkopdmemjncdaaGreatDoor
namespace Go.Proofs.YtkkopdmemjncdaaGreatDoor
open Go Go.RowKit
def Errs (w : World) (g : Nat) (v : Value) : Prop := w.cell? ⟨g, 0, none⟩ = some v ∧ ∃ t x, v = .iface t x
theorem Errs.later {w w' : World} {g : Nat} {v : Value} (h : Errs w g v) (hG : Gr w w') : Errs w' g v := ⟨hG.cell h.1, h.2⟩
end Go.Proofs.YtkkopdmemjncdaaGreatDoor
namespace Go.Proofs.YtkkopdmemjncdaaGreatDoor
open Go Go.RowKit
theorem new_row {w W : World} {z : Array Value} {t : TypeId} {cs : List Value} (h : W = (w.alloc (.cells z t)).setRow w.heap.size cs.toArray) : boxAt W w.heap.size cs ∧ Gr w W ∧ W.heap.size = w.heap.size + 1 := by
 have h0 := setRow_heap (w.alloc (.cells z t)) w.heap.size z cs.toArray t (0, 0) (heap_alloc_new w _)
 have hx : ∀ k, k ≠ w.heap.size → W.heap[k]? = (w.alloc (.cells z t)).heap[k]? := fun k hk => by rw [h]; exact setRow_other _ _ _ _ hk
 rw [← h] at h0
 refine ⟨fun j u hj => ⟨?_, ?_⟩, ?_, by rw [h]; simp⟩
 · rw [cell_of_row W _ j _ t _ h0]; simpa using hj
 · exact frozen_of_row W _ j _ t h0
 ·
  refine ⟨by rw [h]; rfl, by rw [h]; rfl, by rw [h]; rfl, by rw [h]; simp, fun k hk => ?_⟩
  rw [hx k (by omega)]; exact Below.heap_alloc w _ k hk
theorem boxAt.row {w : World} {b : Nat} {vs : List Value} (h : boxAt w b vs) : ∀ t u, vs[t]? = some u → w.cell? ⟨b, 0 + t, none⟩ = some u := fun t u ht => by rw [Nat.zero_add]; exact h.cell t u ht
theorem all_ones (cs : List Value) (h : cs.all (·.oneCell') = true) : cs.toArray.all (·.oneCell') = true := by simpa using h
theorem name_wpList {P : Program} {ops : Array Oper} {Q : Exit → Act → World → Prop} {l : List Oper} {a : Act} {w0 : World} (h : ∀ W, W = w0 → wpList P ops Q l a W) : wpList P ops Q l a w0 := h _ rfl
theorem name_body {P : Program} {f : Func} {R : Ending → World → Prop} {x : Exit} {a : Act} {w0 : World} (h : ∀ W, W = w0 → bodyPost P f R x a W) : bodyPost P f R x a w0 := h _ rfl
theorem
    wp_load_at {P : Program} {o : Oper} {a : Act} {w : World} {K : Act → World → Prop} {Q : Exit → Act → World → Prop} (ty : TypeId) (x : Operand) (ho : o.op = .load ty x)
  (b q : Nat) (hx : a.eval x = .pointer (some ⟨b, q, none⟩)) (cs : List Value) (d : TypeDesc) (hc : ∀ (j : Nat) (u : Value), cs[j]? = some u → w.cell? ⟨b, q + j, none⟩ = some u)
  (hu : P.underlying ty = some d) (hd : (match d with | .struct _ | .array _ _ => true | _ => false) = true) (hi : (P.info? ty).map (·.size) = some cs.length)
  (h : K (a.put o.dst (.agg cs.toArray)) w) : o.wp P a w K Q := by
 have hl : (loadCells ⟨b, q, none⟩ cs.length).run P w = .ok cs.toArray w :=
  run_loadCells_list (P := P) w ⟨b, q, none⟩ cs (fun j v hv => by rw [addr_add]; exact hc j v hv)
 have hv : (loadVar ty ⟨b, q, none⟩).run P w = .ok (.agg cs.toArray) w := by
  cases hq : P.info? ty with
  | none => simp [hq] at hi
  |
   some i =>
   have hs : i.size = cs.length := by simpa [hq] using hi
   have hagg : (isAgg ty).run P w = .ok true w := by
    unfold isAgg
    rw [Sem.run_bind, run_underlying hu w]
    cases d <;> simp_all
   simp [loadVar, Sem.run_bind, hagg, sizeOf, typeInfo, hq, hs, hl]
 unfold Oper.wp execOp
 simp only [ho, hx, Instr.loadAt, Instr.sureAddr, Sem.run_bind, Sem.run_pure, Result.andThen_ok, hv]
 exact h
theorem bx2 (w : World) (c0 c1 : List Value) (e0 e1 : TypeId) :
  boxAt ((w.alloc (.cells c0.toArray e0)).alloc (.cells c1.toArray e1)) w.heap.size c0 ∧ boxAt ((w.alloc (.cells c0.toArray e0)).alloc (.cells c1.toArray e1)) (w.heap.size + 1) c1 ∧
  Gr w ((w.alloc (.cells c0.toArray e0)).alloc (.cells c1.toArray e1)) ∧ ((w.alloc (.cells c0.toArray e0)).alloc (.cells c1.toArray e1)).heap.size = w.heap.size + 2 := by
 refine ⟨(boxAt.new _ _ rfl).later (Gr.alloc _ _), ?_, (Gr.alloc _ _).trans (Gr.alloc _ _), by simp⟩
 have := boxAt.new (w := w.alloc (.cells c0.toArray e0)) c1 e1 rfl
 simpa using this
end Go.Proofs.YtkkopdmemjncdaaGreatDoor
namespace Go.Proofs.YtkkopdmemjncdaaGreatDoor
open Go Go.ChangeShapes Go.WideShapes Go.ChangeAt Go.RowKit
theorem star_es : "*" ++ "errors.errorString" = "*errors.errorString" := by decide
theorem row_es (u : TypeId) (h : Tryz.prog.typeName? 3 u = some "*errors.errorString") : u = 220 :=
 typeName_ptr_named (nm := "errors.errorString") (by rw [star_es]; kernel_rfl) (by kernel_rfl) (by decide) u (by rw [star_es]; exact h)
theorem cells_es : Tryz.prog.cellsOf 241 = 1 := by kernel_rfl
theorem cells_st : Tryz.prog.cellsOf 9 = 1 := by kernel_rfl
end Go.Proofs.YtkkopdmemjncdaaGreatDoor
namespace Go.Proofs.YtkkopdmemjncdaaGreatDoor
open Go Go.ChangeShapes Go.WideShapes Go.ChangeAt Go.RowKit
section
variable {H : Type} {enc : TypeId × Value → H}
theorem bulk_one (d : DataW H) : 1 ≤ Rows.uptoBulk d := by
 cases d with
 | lit l => cases l <;> simp [Rows.uptoBulk]
 | nil => simp [Rows.uptoBulk]
 | ptr d => simp [Rows.uptoBulk]
 | slice elems spare => simp [Rows.uptoBulk]
 | agg parts => simp [Rows.uptoBulk]
 | iface t d => simp [Rows.uptoBulk]
 | map entries => simp [Rows.uptoBulk]
 | held h => simp [Rows.uptoBulk]
theorem bulk_cons (d : DataW H) (l : List (DataW H)) : Rows.uptoBulkAll (d :: l) = Rows.uptoBulk d + Rows.uptoBulkAll l := by simp only [Rows.uptoBulkAll]
theorem bulk_agg (l : List (DataW H)) : Rows.uptoBulk (.agg l) = Rows.uptoBulkAll l + 1 := by simp only [Rows.uptoBulk]
theorem bulk_slice (l r : List (DataW H)) : Rows.uptoBulk (.slice l r) = Rows.uptoBulkAll l + Rows.uptoBulkAll r + 1 := by simp only [Rows.uptoBulk]
theorem bulk_small {l : List (DataW H)} (h : Rows.uptoSmall H l = true) : Rows.uptoBulkAll l ≤ 1048576 := of_decide_eq_true h
theorem sum_range_le {α : Type} (wt : α → Nat) : ∀ (elems : List (DataW H × List MemPlace)) (g : Nat → α) (_ : ∀ i z, elems[i]? = some z → wt (g i) ≤ Rows.uptoBulk z.1), ((List.range elems.length).map fun i => wt (g i)).sum ≤ Rows.uptoBulkAll (elems.map (·.1))
 | [], _, _ => by simp [Rows.uptoBulkAll]
 |
  z :: l, g, h => by
  have h0 := h 0 z rfl
  have ih := sum_range_le wt l (fun i => g (i + 1)) (fun i z hz => h (i + 1) z (by simpa using hz))
  rw [List.length_cons, List.range_succ_eq_map, List.map_cons, List.map_map, List.sum_cons, List.map_cons, bulk_cons]
  have e : (List.map ((fun i => wt (g i)) ∘ Nat.succ) (List.range l.length)) = (List.range l.length).map fun i => wt (g (i + 1)) := rfl
  rw [e]; omega
theorem
    slice_readB {α : Type} [Inhabited α] {f : α → List Value} {Q : α → DataW H → Prop} {k : Nat} {t e : TypeId} (ht : Tryz.prog.underlying t = some (.slice e)) (hk : Tryz.prog.cellsOf e = k) (hk0 : 0 < k) (hf : ∀ a, (f a).length = k)
  {w : World} {base fuel : Nat} {spare : Nat → Bool} {held : Bool} {cs : List Value} {x : DataW H × List MemPlace}
  (hel : ∀ (n : Nat) (cs : List Value) (x : DataW H × List MemPlace), n < fuel → DataW.trod enc Tryz.prog w base spare held n e cs = some x → Reached Tryz.prog e x.1 → ∃ y, cs = f y ∧ Q y x.1)
  (h : DataW.trod enc Tryz.prog w base spare held fuel t cs = some x) (hw : Reached Tryz.prog t x.1) :
  ∃ (v : Value) (l : List α), cs = [v] ∧ Sl w v k l.length (l.flatMap f) ∧ (∀ a ∈ l, ∃ d, Q a d) ∧ l.length * Tryz.prog.bytesOf e ≤ reachBytes ∧ Nily v ∧ ∀ wt : α → Nat, (∀ a d, Q a d → wt a ≤ Rows.uptoBulk d) → (l.map wt).sum + 1 ≤ Rows.uptoBulk x.1 := by
 rcases DataW.trod_slice ht h with ⟨rfl, rfl⟩ | ⟨a, len, cap, elems, rest, n, hfuel, rfl, rfl, _, hl, hm, hlen, hx, _, _⟩
 · exact ⟨_, [], rfl, Sl.nil w k, by simp, by simp, .inl rfl, fun wt _ => by simp; exact bulk_one _⟩
 ·
  have hwt : len * Tryz.prog.bytesOf e ≤ reachBytes := by
   have h1 := hw (((elems.map (·.1)).length + (rest.map (·.1)).length) * Tryz.prog.bytesOf e) (by
    unfold DataW.weights; rw [ht]; exact List.mem_cons_self)
   refine Nat.le_trans (Nat.mul_le_mul_right _ ?_) h1
   simp; omega
  have hwe : ∀ (i : Nat) (y : DataW H × List MemPlace), elems[i]? = some y → Reached Tryz.prog e y.1 := fun i y hy m' hm' => hw m' (by
   unfold DataW.weights; rw [ht]
   exact List.mem_cons_of_mem _ (List.mem_append_left _ (mem_weightsAll Tryz.prog e m' _ y.1 (List.mem_map.2 ⟨y, List.mem_of_getElem? hy, rfl⟩) hm')))
  rcases Nat.eq_zero_or_pos len with h0 | h0
  ·
   subst h0
   exact ⟨_, [], rfl, Sl.zero w _ _ k, by simp, by simp, .inr ⟨_, _, _, rfl⟩, fun wt _ => by simp; exact bulk_one _⟩
  have hg : ∀ i, i < len → ∃ y : α, (∀ z, elems[i]? = some z → Q y z.1) ∧ ∀ j, j < k → w.cell? ((a.add (i * k)).add j) = (f y)[j]? := by
   intro i hi
   obtain ⟨z, hz⟩ : ∃ z, elems[i]? = some z := ⟨_, List.getElem?_eq_getElem (by omega)⟩
   have h1 := hx i hi
   rw [hz] at h1
   obtain ⟨cs, h2, h3⟩ := Option.bind_eq_some_iff.1 h1
   obtain ⟨y, rfl, hy⟩ := hel n _ _ (by omega) h3 (hwe i z hz)
   refine ⟨y, fun z' hz' => by rw [hz] at hz'; injection hz' with hz'; subst hz'; exact hy, fun j hj => ?_⟩
   have := (World.cells?_some h2).2.2 j (by omega)
   rw [hk] at this
   exact this
  obtain ⟨g, hg⟩ := Go.Deep.choose_lt hg
  have hspot : a.spot = none := by
   have h1 := (hg 0 h0).2 0 hk0
   have h2 : ((f (g 0))[0]?).isSome = true := by simp [hf, hk0]
   rw [Nat.zero_mul, show (a.add 0).add 0 = a from rfl] at h1
   cases hs : a.spot with
   | none => rfl
   |
    some s =>
    rw [← h1] at h2
    unfold World.cell? at h2
    split at h2
    · rw [hs] at h2; simp at h2
    · cases h2
  obtain ⟨b, off, spot⟩ := a
  simp only at hspot
  subst hspot
  refine ⟨_, (List.range len).map g, rfl, ⟨?_, by simp; omega, .inr ⟨b, off, cap, by simp, ?_, ?_⟩⟩, ?_, by simpa using hwt, .inr ⟨_, _, _, rfl⟩, fun wt hwt => ?_⟩
  · rw [flatMap_len f k hf]
  ·
   intro hn
   have h1 := (hg 0 h0).2 0 hk0
   have : ((f (g 0))[0]?).isSome = true := by simp [hf, hk0]
   rw [Option.isSome_iff_exists] at this
   obtain ⟨u, hu⟩ := this
   rw [hu, Nat.zero_mul] at h1
   exact World.block_lt_of_cell? w (⟨b, off, none⟩ : Addr) h1
  ·
   intro j u hj
   have hjl : j < ((List.range len).map g).length * k := by
    rw [← flatMap_len f k hf]; exact (List.getElem?_eq_some_iff.1 hj).1
   simp only [List.length_map, List.length_range] at hjl
   have hq : j / k < len := Nat.div_lt_of_lt_mul (by rw [Nat.mul_comm]; exact hjl)
   have hr : j % k < k := Nat.mod_lt _ hk0
   have hjj : j / k * k + j % k = j := by rw [Nat.mul_comm]; exact Nat.div_add_mod j k
   have h1 := flatMap_get f k hf ((List.range len).map g) (j / k) (j % k) (g (j / k)) (by simp [hq]) hr
   rw [hjj, hj] at h1
   have h2 := (hg (j / k) hq).2 (j % k) hr
   rw [addr_add, addr_add, Nat.add_assoc, hjj] at h2
   rw [h2, ← h1]
  ·
   intro y hy
   obtain ⟨i, hi, rfl⟩ := List.mem_map.1 hy
   have hi' := List.mem_range.1 hi
   obtain ⟨z, hz⟩ : ∃ z, elems[i]? = some z := ⟨_, List.getElem?_eq_getElem (by omega)⟩
   exact ⟨z.1, (hg i hi').1 z hz⟩
  ·
   have h1 := sum_range_le wt elems g (fun i z hz => hwt _ _ ((hg i (by
    have := (List.getElem?_eq_some_iff.1 hz).1; omega)).1 z hz))
   rw [hlen] at h1
   rw [bulk_slice, List.map_map]
   have e : (wt ∘ g) = fun i => wt (g i) := rfl
   rw [e]; omega
end
end Go.Proofs.YtkkopdmemjncdaaGreatDoor
namespace Go.Proofs.YtkkopdmemjncdaaGreatDoor
open Go Go.RowKit
theorem src_of {w : World} {v : Value} {k n : Nat} {cs : List Value} (h : Sl w v k n cs) (hz : Nily v) : ∃ ao c, v = .slice ao n c ∧ (ao = none → n = 0 ∧ c = 0) ∧ (∀ ad, ao = some ad → ∀ j u, cs[j]? = some u → w.cell? (ad.add j) = some u) := by
 obtain ⟨hl, _, ⟨⟨p, c, rfl⟩, rfl⟩ | ⟨b, off, cap, rfl, hb, hc⟩⟩ := h
 ·
  refine ⟨p, c, rfl, fun hp => ?_, fun ad _ j u hj => ?_⟩
  ·
   subst hp
   rcases hz with hz | ⟨a, n, c', hz⟩
   · injection hz with _ _ hz; exact ⟨rfl, hz⟩
   · cases hz
  ·
   have h0 : cs = [] := List.eq_nil_of_length_eq_zero (by simpa using hl)
   rw [h0] at hj; simp at hj
 ·
  refine ⟨some ⟨b, off, none⟩, cap, rfl, (fun h => by cases h), fun ad had j u hj => ?_⟩
  injection had with had; subst had
  rw [addr_add]; exact hc j u hj
theorem wpList_append_own_any {P : Program} {w : World} {ops : Array Oper} {rest : List Oper} {o : Oper} {a : Act} {Q : Exit → Act → World → Prop} (hgd : o.guard = none) (s x : Operand) (t : TypeId)
  (ho : o.op = .call { callee := .builtin .append, args := #[s, x], argTypes := #[t, t] })
  (base : Nat) (e : TypeId) (i : TypeInfo) (z : Value) (size bytes : Nat) (ht : P.underlying t = some (.slice e)) (hi : P.info? e = some i) (hz : i.zero = some z)
  (hsize : i.size = size) (hby : i.bytes = bytes) (hzs : z.cells.size = size) (hsz : 0 < size)
  (v : Value) (n : Nat) (xs : List Value) (hs : a.eval s = v) (hown : w.ownsRow base e size v n xs)
  (ao : Option Addr) (m c : Nat) (news : List Value) (hx : a.eval x = .slice ao m c) (hl : news.length = m * size) (hnone : ao = none → m = 0 ∧ c = 0) (hnews : ∀ ad, ao = some ad → ∀ j u, news[j]? = some u → w.cell? (ad.add j) = some u) (h1 : ∀ u ∈ news, u.oneCell' = true)
  (h63 : n + m ≤ maxLen) (hbytes : (n + m) * bytes ≤ 140737488355328) (hbase : base ≤ w.heap.size)
  (h : ∀ v' w', w'.ownsRow base e size v' (n + m) (xs ++ news) → w.grownBy w' v.ownBlock → (v' = .slice none 0 0 ↔ v = .slice none 0 0 ∧ m = 0) → wpList P ops Q rest (a.put o.dst v') w') : wpList P ops Q (o :: rest) a w := by
 cases ao with
 | some ad => exact wpList_append_own w hgd s x t ho base e i z size bytes ht hi hz hsize hby hzs hsz v n xs hs hown ad m c news hx hl (hnews ad rfl) h1 h63 hbytes hbase h
 |
  none =>
  obtain ⟨rfl, rfl⟩ := hnone rfl
  have hn : news = [] := List.eq_nil_of_length_eq_zero (by simpa using hl)
  subst hn
  refine wpList_plain hgd fun K hK => ?_
  have hr := run_append_owned_none (P := P) w base t o.type e i size ht hi v n xs hown
  unfold Oper.wp
  simp [execOp, ho, resolve, invoke, builtin, hs, hx, hr, Result.andThen]
  exact hK _ _ (h v w (by simpa using hown) (World.grownBy.refl _ _) (by simp))
end Go.Proofs.YtkkopdmemjncdaaGreatDoor
