/- A copy of a rule file while it is written over. No condition. -/
import Derived.Test.YtkkopdmemjncdaaGreatDoorPNmCs
import Derived.Test.YtkkopdmemjncdaaGreatDoorPHo
namespace Go.Proofs.YtkkopdmemjncdaaGreatDoor
open Go Go.RowKit

/-- A copy's rows, its parts apart from them. -/
structure Cp (B : Nat) (w : World) (vm vd vr : Value) (nm : Nat) (ms : List Value) (dl : List (Df × List Value)) (rl : List (Rl × List Value)) : Prop where
  modes : w.ownsRow B 75 3 vm nm ms
  defs : w.ownsRow B 57 12 vd dl.length (dl.flatMap (·.2))
  rules : w.ownsRow B 71 26 vr rl.length (rl.flatMap (·.2))
  dOwn : ∀ p ∈ dl, p.2.length = 12 ∧ DfOwn (CpS B w vd vr) w p.1 p.2
  rOwn : ∀ p ∈ rl, p.2.length = 26 ∧ RlOwn (CpS B w vd vr) w p.1 p.2
  ap1 : ∀ g, vm.ownBlock = some g → vd.ownBlock ≠ some g ∧ vr.ownBlock ≠ some g
  ap2 : ∀ g, vd.ownBlock = some g → vr.ownBlock ≠ some g
theorem Cp.of {B : Nat} {w : World} {s : Sc} {vm vd vr : Value} (h : ScCp B w s vm vd vr) : Cp B w vm vd vr s.modes.length (s.modes.flatMap mdC) h.dl h.rl := ⟨h.modes, h.defs, h.rules, h.dOwn, h.rOwn, h.ap1, h.ap2⟩
section
variable {B g nm k : Nat} {w w' : World} {vm vd vr : Value} {ms : List Value} {dl : List (Df × List Value)} {rl : List (Rl × List Value)}
theorem CpS.grow {b : Nat} (h : CpS B w vd vr b) (hs : w.heap.size ≤ w'.heap.size) : CpS B w' vd vr b := ⟨h.1, Nat.lt_of_lt_of_le h.2.1 hs, h.2.2⟩
theorem Cp.later (h : Cp B w vm vd vr nm ms dl rl) (hG : Gr w w') : Cp B w' vm vd vr nm ms dl rl :=
  ⟨owns_later h.modes hG, owns_later h.defs hG, owns_later h.rules hG, fun p hp => ⟨(h.dOwn p hp).1, keeps_df _ _ _ _ _ _ (h.dOwn p hp).2 (fun b hb => Below.block hG b hb.2.1) (fun b hb => hb.grow hG.size)⟩,
    fun p hp => ⟨(h.rOwn p hp).1, keeps_rl _ _ _ _ _ _ (h.rOwn p hp).2 (fun b hb => Below.block hG b hb.2.1) (fun b hb => hb.grow hG.size)⟩, h.ap1, h.ap2⟩
/-- What else lies there is as it was, when one of the rows is written. -/
theorem Cp.part {b : Nat} (hg : vd.ownBlock = some g ∨ vr.ownBlock = some g) (hk : KpR [g] w w') (hb : CpS B w vd vr b) : w'.heap[b]? = w.heap[b]? :=
  hk.block b hb.2.1 (fun hm => by
    rw [List.mem_singleton] at hm
    subst hm
    rcases hg with hg | hg
    · exact hb.2.2.1 hg
    · exact hb.2.2.2 hg)
theorem Cp.defSet (h : Cp B w vm vd vr nm ms dl rl) (hg : vd.ownBlock = some g) (hk : KpR [g] w w') {d' : Df} {cs' : List Value} (hl : cs'.length = 12)
    (hown : w'.ownsRow B 57 12 vd dl.length ((dl.set k (d', cs')).flatMap (·.2))) (hd : DfOwn (CpS B w' vd vr) w' d' cs') : Cp B w' vm vd vr nm ms (dl.set k (d', cs')) rl := by
  refine ⟨owns_heap h.modes (fun q hq => hk.block q (World.ownsRow.lt h.modes q hq).2 (fun hm => ?_)), by rw [List.length_set]; exact hown, owns_heap h.rules (fun q hq => hk.block q (World.ownsRow.lt h.rules q hq).2 (fun hm => ?_)), fun p hp => ?_, fun p hp => ⟨(h.rOwn p hp).1, keeps_rl _ _ _ _ _ _ (h.rOwn p hp).2 (fun b hb => Cp.part (.inl hg) hk hb) (fun b hb => hb.grow hk.size)⟩, h.ap1, h.ap2⟩
  · rw [List.mem_singleton] at hm
    subst hm
    exact (h.ap1 q hq).1 hg
  · rw [List.mem_singleton] at hm
    subst hm
    exact h.ap2 q hg hq
  · rcases List.mem_or_eq_of_mem_set hp with hp | rfl
    · exact ⟨(h.dOwn p hp).1, keeps_df _ _ _ _ _ _ (h.dOwn p hp).2 (fun b hb => Cp.part (.inl hg) hk hb) (fun b hb => hb.grow hk.size)⟩
    · exact ⟨hl, hd⟩
theorem Cp.ruleSet (h : Cp B w vm vd vr nm ms dl rl) (hg : vr.ownBlock = some g) (hk : KpR [g] w w') {r' : Rl} {cs' : List Value} (hl : cs'.length = 26)
    (hown : w'.ownsRow B 71 26 vr rl.length ((rl.set k (r', cs')).flatMap (·.2))) (hd : RlOwn (CpS B w' vd vr) w' r' cs') : Cp B w' vm vd vr nm ms dl (rl.set k (r', cs')) := by
  refine ⟨owns_heap h.modes (fun q hq => hk.block q (World.ownsRow.lt h.modes q hq).2 (fun hm => ?_)), owns_heap h.defs (fun q hq => hk.block q (World.ownsRow.lt h.defs q hq).2 (fun hm => ?_)), by rw [List.length_set]; exact hown, fun p hp => ⟨(h.dOwn p hp).1, keeps_df _ _ _ _ _ _ (h.dOwn p hp).2 (fun b hb => Cp.part (.inr hg) hk hb) (fun b hb => hb.grow hk.size)⟩, fun p hp => ?_, h.ap1, h.ap2⟩
  · rw [List.mem_singleton] at hm
    subst hm
    exact (h.ap1 q hq).2 hg
  · rw [List.mem_singleton] at hm
    subst hm
    exact h.ap2 q hq hg
  · rcases List.mem_or_eq_of_mem_set hp with hp | rfl
    · exact ⟨(h.rOwn p hp).1, keeps_rl _ _ _ _ _ _ (h.rOwn p hp).2 (fun b hb => Cp.part (.inr hg) hk hb) (fun b hb => hb.grow hk.size)⟩
    · exact ⟨hl, hd⟩
end
/-- One cell of one part. -/
theorem flat_set {α : Type} (K : Nat) : ∀ (l : List (α × List Value)) (k j : Nat) (a a' : α) (cs : List Value) (u : Value), (∀ p ∈ l, p.2.length = K) → l[k]? = some (a, cs) → j < K → (l.set k (a', cs.set j u)).flatMap (·.2) = (l.flatMap (·.2)).set (k * K + j) u
  | [], k, _, _, _, _, _, _, h, _ => by simp at h
  | p :: l, 0, j, a, a', cs, u, hl, h, hj => by
    simp at h
    subst h
    have h1 := hl _ (List.mem_cons_self ..)
    simp only at h1
    rw [List.set_cons_zero, List.flatMap_cons, List.flatMap_cons, List.set_append_left _ _ (by simp; omega), Nat.zero_mul, Nat.zero_add]
  | p :: l, k + 1, j, a, a', cs, u, hl, h, hj => by
    have h1 := hl p (List.mem_cons_self ..)
    rw [List.getElem?_cons_succ] at h
    rw [List.set_cons_succ, List.flatMap_cons, List.flatMap_cons, flat_set K l k j a a' cs u (fun q hq => hl q (List.mem_cons_of_mem _ hq)) h hj, List.set_append_right _ _ (by rw [h1, Nat.succ_mul]; omega)]
    congr 2
    rw [h1, Nat.succ_mul]
    omega
def setMany (cs : List Value) (o : Nat) : List Value → List Value
  | [] => cs
  | v :: r => setMany (cs.set o v) (o + 1) r
theorem own_sets {α : Type} {B e K n g cap : Nat} : ∀ (vs : List Value) (w : World) (l : List (α × List Value)) (k o : Nat) (a : α) (cs : List Value), w.ownsRow B e K (.slice (some ⟨g, 0, none⟩) n cap) n (l.flatMap (·.2)) → (∀ p ∈ l, p.2.length = K) → l[k]? = some (a, cs) → o + vs.length ≤ K →
    (w.setCells g (k * K + o) vs).ownsRow B e K (.slice (some ⟨g, 0, none⟩) n cap) n ((l.set k (a, setMany cs o vs)).flatMap (·.2))
  | [], w, l, k, o, a, cs, h, hl, hk, _ => by
    obtain ⟨hkl, hke⟩ := List.getElem?_eq_some_iff.1 hk
    rw [setMany, ← hke, List.set_getElem_self hkl]
    exact h
  | v :: r, w, l, k, o, a, cs, h, hl, hk, ho => by
    rw [List.length_cons] at ho
    have hkl := (List.getElem?_eq_some_iff.1 hk).1
    have hcl : cs.length = K := hl _ (List.mem_of_getElem? hk)
    have hlen := h.1
    have h1 := owns_set h (k * K + o) (by
      rw [hlen]
      have h2 : l.length * K = n * K := by
        rw [← hlen]
        clear h hk hkl hlen
        induction l with
        | nil => simp
        | cons p l ih => rw [List.flatMap_cons, List.length_append, hl p (by simp), List.length_cons, Nat.succ_mul, ← ih (fun q hq => hl q (by simp [hq]))]; omega
      have h3 : (k + 1) * K ≤ l.length * K := Nat.mul_le_mul_right _ hkl
      rw [Nat.succ_mul] at h3
      omega) v
    rw [← flat_set K l k o a a cs v hl hk (by omega)] at h1
    have h2 := own_sets r (w.setCell ⟨g, k * K + o, none⟩ v) (l.set k (a, cs.set o v)) k (o + 1) a (cs.set o v) h1 (fun p hp => by
      rcases List.mem_or_eq_of_mem_set hp with hp | rfl
      · exact hl p hp
      · rw [List.length_set]; exact hcl) (List.getElem?_set_self hkl) (by omega)
    rw [World.setCells, setMany]
    rw [List.set_set] at h2
    exact h2
/-- The cells of a part, and that they may be written. -/
theorem own_cells {α : Type} {B e K n g cap : Nat} {w : World} {l : List (α × List Value)} {k : Nat} {x : α × List Value} (h : w.ownsRow B e K (.slice (some ⟨g, 0, none⟩) n cap) n (l.flatMap (·.2))) (hl : ∀ p ∈ l, p.2.length = K) (hk : l[k]? = some x) :
    (∀ (t : Nat) (u : Value), x.2[t]? = some u → w.cell? ⟨g, k * K + t, none⟩ = some u) ∧ g < w.heap.size ∧ ∀ t, w.frozen? ⟨g, t, none⟩ = false := by
  refine ⟨fun t u hu => ?_, (World.ownsRow.lt h g rfl).2, fun t => ?_⟩
  · have ht := (List.getElem?_eq_some_iff.1 hu).1
    have h2 := owns_cell h (k * K + t) u (by
      have hx := hl x (List.mem_of_getElem? hk)
      clear h
      induction l generalizing k with
      | nil => simp at hk
      | cons p l ih =>
        cases k with
        | zero =>
          simp at hk
          subst hk
          rw [List.flatMap_cons, Nat.zero_mul, Nat.zero_add, List.getElem?_append_left ht]
          exact hu
        | succ k =>
          rw [List.getElem?_cons_succ] at hk
          rw [List.flatMap_cons, List.getElem?_append_right (by rw [hl p (by simp), Nat.succ_mul]; omega), hl p (by simp), show (k + 1) * K + t - K = k * K + t by rw [Nat.succ_mul]; omega]
          exact ih (fun q hq => hl q (by simp [hq])) hk)
    exact h2
  · obtain ⟨_, ⟨hv, _⟩ | ⟨g', cap', cur, hv, _, hh, _⟩⟩ := h
    · cases hv
    · injection hv with hv
      injection hv with hv
      injection hv with hv
      subst hv
      simp [World.frozen?, hh]

end Go.Proofs.YtkkopdmemjncdaaGreatDoor
