/- Slices that are read, with what their parts take of the bulk. No condition. -/
import Derived.Test.YtndefbkcondmcaaDoorPGc
import Derived.Test.YtndefbkcondmcaaDoorRows
namespace Go.Proofs.YtndefbkcondmcaaDoor
open Go Go.ChangeShapes Go.WideShapes Go.ChangeAt Go.RowKit

section
variable {H : Type} {enc : TypeId × Value → H}
theorem bulk_one (d : DataW H) : 1 ≤ Rows.uptoBulk d := by
  cases d with
  | lit l => cases l <;> simp [Rows.uptoBulk]
  | nil => simp [Rows.uptoBulk]
  | ptr d => simp [Rows.uptoBulk]
  | slice elems spare => simp [Rows.uptoBulk]
  | agg parts => simp [Rows.uptoBulk]
  | iface t d => simp [Rows.uptoBulk]
  | map entries => simp [Rows.uptoBulk]
  | held h => simp [Rows.uptoBulk]
theorem bulk_app (l r : List (DataW H)) : Rows.uptoBulkAll (l ++ r) = Rows.uptoBulkAll l + Rows.uptoBulkAll r := by
  induction l with
  | nil => simp [Rows.uptoBulkAll]
  | cons x l ih => simp only [List.cons_append, Rows.uptoBulkAll, ih]; omega
theorem bulk_cons (d : DataW H) (l : List (DataW H)) : Rows.uptoBulkAll (d :: l) = Rows.uptoBulk d + Rows.uptoBulkAll l := by simp only [Rows.uptoBulkAll]
theorem bulk_agg (l : List (DataW H)) : Rows.uptoBulk (.agg l) = Rows.uptoBulkAll l + 1 := by simp only [Rows.uptoBulk]
theorem bulk_slice (l r : List (DataW H)) : Rows.uptoBulk (.slice l r) = Rows.uptoBulkAll l + Rows.uptoBulkAll r + 1 := by simp only [Rows.uptoBulk]
theorem bulk_str (b : List UInt8) : Rows.uptoBulk (DataW.lit (H := H) (.string b)) = b.length + 1 := by simp only [Rows.uptoBulk]
theorem bulk_small {l : List (DataW H)} (h : Rows.uptoSmall H l = true) : Rows.uptoBulkAll l ≤ 1048576 := of_decide_eq_true h

theorem sum_range_le {α : Type} (wt : α → Nat) : ∀ (elems : List (DataW H × List MemPlace)) (g : Nat → α) (_ : ∀ i z, elems[i]? = some z → wt (g i) ≤ Rows.uptoBulk z.1), ((List.range elems.length).map fun i => wt (g i)).sum ≤ Rows.uptoBulkAll (elems.map (·.1))
  | [], _, _ => by simp [Rows.uptoBulkAll]
  | z :: l, g, h => by
    have h0 := h 0 z rfl
    have ih := sum_range_le wt l (fun i => g (i + 1)) (fun i z hz => h (i + 1) z (by simpa using hz))
    rw [List.length_cons, List.range_succ_eq_map, List.map_cons, List.map_map, List.sum_cons, List.map_cons, bulk_cons]
    have e : (List.map ((fun i => wt (g i)) ∘ Nat.succ) (List.range l.length)) = (List.range l.length).map fun i => wt (g (i + 1)) := rfl
    rw [e]; omega

/-- A slice, with what its parts are and take. -/
theorem slice_readB {α : Type} [Inhabited α] {f : α → List Value} {Q : α → DataW H → Prop} {k : Nat} {t e : TypeId} (ht : Tryd.prog.underlying t = some (.slice e)) (hk : Tryd.prog.cellsOf e = k) (hk0 : 0 < k) (hf : ∀ a, (f a).length = k)
    {w : World} {base fuel : Nat} {spare : Nat → Bool} {held : Bool} {cs : List Value} {x : DataW H × List MemPlace}
    (hel : ∀ (n : Nat) (cs : List Value) (x : DataW H × List MemPlace), n < fuel → DataW.trod enc Tryd.prog w base spare held n e cs = some x → Reached Tryd.prog e x.1 → ∃ y, cs = f y ∧ Q y x.1)
    (h : DataW.trod enc Tryd.prog w base spare held fuel t cs = some x) (hw : Reached Tryd.prog t x.1) :
    ∃ (v : Value) (l : List α), cs = [v] ∧ Sl w v k l.length (l.flatMap f) ∧ (∀ a ∈ l, ∃ d, Q a d) ∧ l.length * Tryd.prog.bytesOf e ≤ reachBytes ∧ Nily v ∧ ∀ wt : α → Nat, (∀ a d, Q a d → wt a ≤ Rows.uptoBulk d) → (l.map wt).sum + 1 ≤ Rows.uptoBulk x.1 := by
  rcases DataW.trod_slice ht h with ⟨rfl, rfl⟩ | ⟨a, len, cap, elems, rest, n, hfuel, rfl, rfl, _, hl, hm, hlen, hx, _, _⟩
  · exact ⟨_, [], rfl, Sl.nil w k, by simp, by simp, .inl rfl, fun wt _ => by simp; exact bulk_one _⟩
  · have hwt : len * Tryd.prog.bytesOf e ≤ reachBytes := by
      have h1 := hw (((elems.map (·.1)).length + (rest.map (·.1)).length) * Tryd.prog.bytesOf e) (by
        unfold DataW.weights; rw [ht]; exact List.mem_cons_self)
      refine Nat.le_trans (Nat.mul_le_mul_right _ ?_) h1
      simp; omega
    have hwe : ∀ (i : Nat) (y : DataW H × List MemPlace), elems[i]? = some y → Reached Tryd.prog e y.1 := fun i y hy m' hm' => hw m' (by
      unfold DataW.weights; rw [ht]
      exact List.mem_cons_of_mem _ (List.mem_append_left _ (mem_weightsAll Tryd.prog e m' _ y.1 (List.mem_map.2 ⟨y, List.mem_of_getElem? hy, rfl⟩) hm')))
    rcases Nat.eq_zero_or_pos len with h0 | h0
    · subst h0
      exact ⟨_, [], rfl, Sl.zero w _ _ k, by simp, by simp, .inr ⟨_, _, _, rfl⟩, fun wt _ => by simp; exact bulk_one _⟩
    have hg : ∀ i, i < len → ∃ y : α, (∀ z, elems[i]? = some z → Q y z.1) ∧ ∀ j, j < k → w.cell? ((a.add (i * k)).add j) = (f y)[j]? := by
      intro i hi
      obtain ⟨z, hz⟩ : ∃ z, elems[i]? = some z := ⟨_, List.getElem?_eq_getElem (by omega)⟩
      have h1 := hx i hi
      rw [hz] at h1
      obtain ⟨cs, h2, h3⟩ := Option.bind_eq_some_iff.1 h1
      obtain ⟨y, rfl, hy⟩ := hel n _ _ (by omega) h3 (hwe i z hz)
      refine ⟨y, fun z' hz' => by rw [hz] at hz'; injection hz' with hz'; subst hz'; exact hy, fun j hj => ?_⟩
      have := (World.cells?_some h2).2.2 j (by omega)
      rw [hk] at this
      exact this
    obtain ⟨g, hg⟩ := Go.Deep.choose_lt hg
    have hspot : a.spot = none := by
      have h1 := (hg 0 h0).2 0 hk0
      have h2 : ((f (g 0))[0]?).isSome = true := by simp [hf, hk0]
      rw [Nat.zero_mul, show (a.add 0).add 0 = a from rfl] at h1
      cases hs : a.spot with
      | none => rfl
      | some s =>
        rw [← h1] at h2
        unfold World.cell? at h2
        split at h2
        · rw [hs] at h2; simp at h2
        · cases h2
    obtain ⟨b, off, spot⟩ := a
    simp only at hspot
    subst hspot
    refine ⟨_, (List.range len).map g, rfl, ⟨?_, by simp; omega, .inr ⟨b, off, cap, by simp, ?_, ?_⟩⟩, ?_, by simpa using hwt, .inr ⟨_, _, _, rfl⟩, fun wt hwt => ?_⟩
    · rw [flatMap_len f k hf]
    · intro hn
      have h1 := (hg 0 h0).2 0 hk0
      have : ((f (g 0))[0]?).isSome = true := by simp [hf, hk0]
      rw [Option.isSome_iff_exists] at this
      obtain ⟨u, hu⟩ := this
      rw [hu, Nat.zero_mul] at h1
      exact World.block_lt_of_cell? w (⟨b, off, none⟩ : Addr) h1
    · intro j u hj
      have hjl : j < ((List.range len).map g).length * k := by
        rw [← flatMap_len f k hf]; exact (List.getElem?_eq_some_iff.1 hj).1
      simp only [List.length_map, List.length_range] at hjl
      have hq : j / k < len := Nat.div_lt_of_lt_mul (by rw [Nat.mul_comm]; exact hjl)
      have hr : j % k < k := Nat.mod_lt _ hk0
      have hjj : j / k * k + j % k = j := by rw [Nat.mul_comm]; exact Nat.div_add_mod j k
      have h1 := flatMap_get f k hf ((List.range len).map g) (j / k) (j % k) (g (j / k)) (by simp [hq]) hr
      rw [hjj, hj] at h1
      have h2 := (hg (j / k) hq).2 (j % k) hr
      rw [addr_add, addr_add, Nat.add_assoc, hjj] at h2
      rw [h2, ← h1]
    · intro y hy
      obtain ⟨i, hi, rfl⟩ := List.mem_map.1 hy
      have hi' := List.mem_range.1 hi
      obtain ⟨z, hz⟩ : ∃ z, elems[i]? = some z := ⟨_, List.getElem?_eq_getElem (by omega)⟩
      exact ⟨z.1, (hg i hi').1 z hz⟩
    · have h1 := sum_range_le wt elems g (fun i z hz => hwt _ _ ((hg i (by
        have := (List.getElem?_eq_some_iff.1 hz).1; omega)).1 z hz))
      rw [hlen] at h1
      rw [bulk_slice, List.map_map]
      have e : (wt ∘ g) = fun i => wt (g i) := rfl
      rw [e]; omega
end
end Go.Proofs.YtndefbkcondmcaaDoor
