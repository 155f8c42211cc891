/- Texts of mine, put together: ImgHurtForm, IrFormB. No condition but what each says. -/
import Derived.Test.YtcbfmajojkcibaaDoorPImgForm
import Derived.Test.YtcbfmajojkcibaaDoorPGu

/- bolterlaw17: what ImageHurt is handed. No condition. -/
namespace Go.Proofs.YtcbfmajojkcibaaDoor
open Go Go.ChangeShapes Go.WideShapes Go.ChangeAt Go.RowKit

section
variable {H : Type} {enc : TypeId × Value → H}
set_option maxRecDepth 100000 in
theorem cells_hurtT : Tryd.prog.cellsOf 64 = 14 := by kernel_rfl
set_option maxRecDepth 100000 in
theorem cells_u8T : Tryd.prog.cellsOf 5 = 1 := by kernel_rfl
set_option maxRecDepth 100000 in
theorem cells_bytesT : Tryd.prog.cellsOf 32 = 1 := by kernel_rfl
set_option maxRecDepth 100000 in
theorem bytes_readT {w : World} {base fuel : Nat} {spare : Nat → Bool} {held : Bool} {cs : List Value} {x : DataW H × List MemPlace} (h : DataW.trod enc Tryd.prog w base spare held fuel 32 cs = some x) (hw : Reached Tryd.prog 32 x.1) :
    ∃ (v : Value) (l : List UInt8), cs = [v] ∧ Sl w v 1 l.length (l.map vB) ∧ Nily v ∧ CapOk v ∧ l.length ≤ 140737488351232 := by
  obtain ⟨v, l, e, h1, _, h3, h4⟩ := slice_readF (f := fun y : UInt8 => [vB y]) (Q := fun _ => True) Tryd.underlying32 cells_u8T (by omega) (fun _ => rfl) (fun n cs x _ h _ => by
    obtain ⟨a, ea, _, hw⟩ := DataW.trod_int Tryd.underlying5 h
    have hb : 0 ≤ a ∧ a < 256 := by
      simp [Lit.wf, IntKind.min, IntKind.max, IntKind.signed, IntKind.bits] at hw; omega
    refine ⟨UInt8.ofNat a.toNat, ?_, trivial⟩
    rw [ea]
    unfold vB
    rw [UInt8.toNat_ofNat_of_lt' (by show _ < 256; omega)]
    congr 2; omega) h hw
  rw [flat_oneT] at h1
  subst e
  refine ⟨v, l, rfl, h1, h4, cap_read Tryd.underlying32 h, ?_⟩
  rw [show Tryd.prog.bytesOf 5 = 1 by kernel_rfl, reach_num, Nat.mul_one] at h3
  exact h3
end
set_option maxRecDepth 100000 in
set_option maxHeartbeats 1000000 in
theorem hurt_form {H : Type} {enc : TypeId × Value → H} {w : World} {r : Reach} {b0 base : Nat} {spare : Nat → Bool} {held : Bool} {v : Value} {d : DataW H} {p : List MemPlace}
    (hv : Value.okWide Tryd.prog w r b0 64 v) (h : DataW.Trod enc Tryd.prog w base spare held 64 v d p) (hw : Reached Tryd.prog 64 d) :
    ∃ (t : Tb) (tv : TbV) (A : List Int) (Y : List UInt8) (va vy : Value), v = .agg #[tv.modes, tv.labels, tv.cuts, tv.acts, tv.classes, .int .i64 t.count, tv.starts, tv.label, tv.base, tv.dflt, tv.next, tv.check, va, vy] ∧ TbRd w t tv ∧ Sl w va 1 A.length (A.map vI) ∧ (∀ x ∈ A, fitT x) ∧ Sl w vy 1 Y.length (Y.map vB) := by
  obtain ⟨cs, rfl, hsz⟩ := okWide_struct Tryd.underlying64 hv
  rw [cells_hurtT] at hsz
  obtain ⟨fuel, hf⟩ := h
  obtain ⟨y0, y1, y2, n, hx, _, h0, h1, h2⟩ := Go.Deep.trod_struct3 Tryd.underlying64 hf
  have hd := (Prod.mk.inj hx).1
  subst hd
  have hr : ∀ m', (m' ∈ y0.1.weights Tryd.prog 30 ∨ m' ∈ y1.1.weights Tryd.prog 23 ∨ m' ∈ y2.1.weights Tryd.prog 32) → m' ≤ reachBytes := fun m' hm' => hw m' (by
    unfold DataW.weights
    rw [Tryd.underlying64]
    simp only [List.map_cons, List.map_nil, DataW.weightsEach, List.append_nil]
    rcases hm' with hm' | hm' | hm'
    · exact List.mem_append_left _ hm'
    · exact List.mem_append_right _ (List.mem_append_left _ hm')
    · exact List.mem_append_right _ (List.mem_append_right _ hm'))
  obtain ⟨l⟩ := cs
  match l, hsz with
  | [v0, v1, v2, v3, v4, v5, v6, v7, v8, v9, v10, v11, v12, v13], _ =>
    simp only [Value.cells, cells_tablesT, cells_intsT, cells_bytesT, List.drop, List.take] at h0 h1 h2
    obtain ⟨t, tv, e0, hT⟩ := tables_read h0 (fun m hm => hr m (.inl hm))
    obtain ⟨va, A, e1, s1, q1, _⟩ := ints_readT h1 (fun m hm => hr m (.inr (.inl hm)))
    obtain ⟨vy, Y, e2, s2, _⟩ := bytes_readT h2 (fun m hm => hr m (.inr (.inr hm)))
    simp only [tbC, List.cons.injEq, and_true] at e0 e1 e2
    obtain ⟨rfl, rfl, rfl, rfl, rfl, rfl, rfl, rfl, rfl, rfl, rfl, rfl⟩ := e0
    subst e1 e2
    exact ⟨t, tv, A, Y, _, _, rfl, hT, s1, q1, s2⟩

end Go.Proofs.YtcbfmajojkcibaaDoor

/- bolterlaw17: what ImageReads is handed: bytes in a row. No condition. -/
namespace Go.Proofs.YtcbfmajojkcibaaDoor
open Go Go.ChangeShapes Go.WideShapes Go.ChangeAt Go.RowKit

theorem flat_fst (l : List (Value × List UInt8)) : l.flatMap (fun x => [x.1]) = l.map (·.1) := by
  induction l with
  | nil => rfl
  | cons a l ih => rw [List.flatMap_cons, ih]; rfl
set_option maxRecDepth 100000 in
theorem bytess_form {H : Type} {enc : TypeId × Value → H} {w : World} {r : Reach} {b0 base : Nat} {spare : Nat → Bool} {held : Bool} {v : Value} {d : DataW H} {p : List MemPlace}
    (hv : Value.okWide Tryd.prog w r b0 48 v) (h : DataW.Trod enc Tryd.prog w base spare held 48 v d p) (hw : Reached Tryd.prog 48 d) :
    ∃ ls : List (Value × List UInt8), Sl w v 1 ls.length (ls.map (·.1)) ∧ ∀ x ∈ ls, BytIn w x := by
  obtain ⟨fuel, hf0⟩ := h
  obtain ⟨a0, n0, c0, rfl⟩ := okWide_slice Tryd.underlying48 hv
  obtain ⟨v', l, e6, hs, hq, _⟩ := slice_readF (f := fun x : Value × List UInt8 => [x.1]) (Q := fun x => BytIn w x) Tryd.underlying48 cells_bytesT (by omega) (fun _ => rfl) (fun n' cs x _ h hw => by
    obtain ⟨u, y, e, h1, h2, h3, _⟩ := bytes_readT h hw
    exact ⟨(u, y), e, h1, h2, h3⟩) hf0 hw
  obtain rfl : Value.slice a0 n0 c0 = v' := by simpa [Value.cells] using e6
  rw [flat_fst] at hs
  exact ⟨l, hs, hq⟩

end Go.Proofs.YtcbfmajojkcibaaDoor
