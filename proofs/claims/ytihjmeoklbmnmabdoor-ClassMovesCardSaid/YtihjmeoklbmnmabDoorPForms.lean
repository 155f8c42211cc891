/- Slices that are handed in: of elements whose cells are known. No condition. -/
import Derived.Test.YtihjmeoklbmnmabDoorPGc
import Derived.Test.YtihjmeoklbmnmabDoorPGa
import Derived.Deep.Slices
namespace Go.Proofs.YtihjmeoklbmnmabDoor
open Go Go.ChangeShapes Go.WideShapes Go.ChangeAt Go.RowKit

section
variable {H : Type} {enc : TypeId × Value → H}

set_option maxRecDepth 100000 in
theorem slice_form {α : Type} [Inhabited α] {f : α → List Value} {k : Nat} {t e : TypeId} (ht : Tryd.prog.underlying t = some (.slice e)) (hk : Tryd.prog.cellsOf e = k) (hk0 : 0 < k) (hf : ∀ a, (f a).length = k)
    {w : World} {r : Reach} {b0 base : Nat} {spare : Nat → Bool} {held : Bool} {v : Value} {d : DataW H} {p : List MemPlace}
    (hel : ∀ (n : Nat) (cs : List Value) (x : DataW H × List MemPlace), DataW.trod enc Tryd.prog w base spare held n e cs = some x → ∃ y, cs = f y)
    (hv : Value.okWide Tryd.prog w r b0 t v) (h : DataW.Trod enc Tryd.prog w base spare held t v d p) :
    ∃ l : List α, Sl w v k l.length (l.flatMap f) := by
  obtain ⟨a0, len, cap, rfl⟩ := okWide_slice ht hv
  obtain ⟨fuel, hf0⟩ := h
  rcases Go.Deep.open_slice ht hf0 with ⟨e0, _⟩ | ⟨a, len', cap', m, n, D, Pl, e0, _, hl, hm, hmm, _, hx⟩
  · simp [Value.cells] at e0
    obtain ⟨rfl, rfl, rfl⟩ := e0
    exact ⟨[], Sl.nil w k⟩
  · simp [Value.cells] at e0
    obtain ⟨rfl, rfl, rfl⟩ := e0
    have hlm : len ≤ m := by rw [hmm]; split <;> omega
    obtain ⟨b, off, spot⟩ := a
    have hspot : spot = none := by
      have hv' := hv
      simp only [Value.okWide, ht, Cell.okWide, Cell.ok] at hv'
      exact hv'.2.2.2.1
    subst hspot
    have hg : ∀ i, i < len → ∃ y : α, ∀ j, j < k → w.cell? ⟨b, off + (i * k + j), none⟩ = (f y)[j]? := by
      intro i hi
      obtain ⟨cs, h1, h2⟩ := hx i (by omega)
      obtain ⟨y, rfl⟩ := hel _ _ _ h2
      refine ⟨y, fun j hj => ?_⟩
      have := (World.cells?_some h1).2.2 j (by omega)
      rw [hk, addr_add, addr_add, Nat.add_assoc] at this
      exact this
    obtain ⟨g, hg⟩ := Go.Deep.choose_lt hg
    refine ⟨(List.range len).map g, ?_, by simp; omega, .inr ⟨b, off, cap, by simp, ?_, ?_⟩⟩
    · rw [flatMap_len f k hf]
    · intro hn
      have hlen : 0 < len := by simp at hn; omega
      have h0 := hg 0 hlen 0 hk0
      have : ((f (g 0))[0]?).isSome = true := by simp [hf, hk0]
      rw [Option.isSome_iff_exists] at this
      obtain ⟨u, hu⟩ := this
      rw [hu] at h0
      exact World.block_lt_of_cell? w _ h0
    · intro j u hj
      have hjl : j < ((List.range len).map g).length * k := by
        rw [← flatMap_len f k hf]; exact (List.getElem?_eq_some_iff.1 hj).1
      simp only [List.length_map, List.length_range] at hjl
      have hq : j / k < len := Nat.div_lt_of_lt_mul (by rw [Nat.mul_comm]; exact hjl)
      have hr : j % k < k := Nat.mod_lt _ hk0
      have hjj : j / k * k + j % k = j := by rw [Nat.mul_comm]; exact Nat.div_add_mod j k
      have h1 := flatMap_get f k hf ((List.range len).map g) (j / k) (j % k) (g (j / k)) (by simp [hq]) hr
      rw [hjj, hj] at h1
      have h2 := hg (j / k) hq (j % k) hr
      rw [hjj] at h2
      rw [h2, ← h1]

set_option maxRecDepth 100000 in
theorem bounds8 {n : Int} (h : (Lit.int .u8 n).wf = true) : 0 ≤ n ∧ n < 256 := by
  simp [Lit.wf, IntKind.min, IntKind.max, IntKind.signed, IntKind.bits] at h; omega
set_option maxRecDepth 100000 in
theorem vB_of (n : Int) (h : 0 ≤ n ∧ n < 256) : Value.int .u8 n = vB (UInt8.ofNat n.toNat) := by
  unfold vB
  rw [UInt8.toNat_ofNat_of_lt' (by show _ < 256; omega)]
  congr 1; omega
set_option maxRecDepth 100000 in
theorem trod_u8 {w : World} {base : Nat} {spare : Nat → Bool} {held : Bool} (n : Nat) (cs : List Value) (x : DataW H × List MemPlace) (h : DataW.trod enc Tryd.prog w base spare held n 5 cs = some x) : ∃ y : UInt8, cs = [vB y] := by
  obtain ⟨a, e, _, hw⟩ := DataW.trod_int Tryd.underlying5 h
  exact ⟨_, by rw [e, vB_of a (bounds8 hw)]⟩
set_option maxRecDepth 100000 in
theorem cells_u8 : Tryd.prog.cellsOf 5 = 1 := by kernel_rfl
set_option maxRecDepth 100000 in
theorem cells_span : Tryd.prog.cellsOf 97 = 2 := by kernel_rfl
set_option maxRecDepth 100000 in
theorem trod_span {w : World} {base : Nat} {spare : Nat → Bool} {held : Bool} (n : Nat) (cs : List Value) (x : DataW H × List MemPlace) (h : DataW.trod enc Tryd.prog w base spare held n 97 cs = some x) : ∃ y : Sp, cs = spCells y := by
  obtain ⟨y0, y1, m, _, hl, h0, h1⟩ := trod_struct2 Tryd.underlying97 h
  rw [cells_span] at hl
  match cs, hl with
  | [c0, c1], _ =>
    rw [show Tryd.prog.cellsOf _ = 1 from cells_u8] at h0 h1
    obtain ⟨z0, e0⟩ := trod_u8 _ _ _ h0
    obtain ⟨z1, e1⟩ := trod_u8 _ _ _ h1
    simp at e0 e1
    subst e0 e1
    exact ⟨(z0, z1), rfl⟩
set_option maxRecDepth 100000 in
theorem spans_form {w : World} {r : Reach} {b0 base : Nat} {spare : Nat → Bool} {held : Bool} {v : Value} {d : DataW H} {p : List MemPlace}
    (hv : Value.okWide Tryd.prog w r b0 94 v) (h : DataW.Trod enc Tryd.prog w base spare held 94 v d p) : ∃ l : List Sp, Sl w v 2 l.length (spsCells l) :=
  slice_form (f := spCells) Tryd.underlying94 cells_span (by omega) spCells_len (fun n cs x h => trod_span n cs x h) hv h
set_option maxRecDepth 100000 in
theorem bytes_form {w : World} {r : Reach} {b0 base : Nat} {spare : Nat → Bool} {held : Bool} {v : Value} {d : DataW H} {p : List MemPlace}
    (hv : Value.okWide Tryd.prog w r b0 49 v) (h : DataW.Trod enc Tryd.prog w base spare held 49 v d p) : ∃ l : List UInt8, Sl w v 1 l.length (l.map vB) := by
  obtain ⟨l, hl⟩ := slice_form (f := fun y => [vB y]) Tryd.underlying49 cells_u8 (by omega) (fun _ => rfl) (fun n cs x h => trod_u8 n cs x h) hv h
  refine ⟨l, ?_⟩
  have h1 : ∀ l : List UInt8, l.flatMap (fun y => [vB y]) = l.map vB := fun l => by
    induction l with
    | nil => rfl
    | cons a l ih => rw [List.flatMap_cons, ih]; rfl
  rwa [h1] at hl
end
end Go.Proofs.YtihjmeoklbmnmabDoor
