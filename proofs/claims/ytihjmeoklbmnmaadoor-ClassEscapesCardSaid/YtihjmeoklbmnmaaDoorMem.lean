/- Slices that are read: what a slice value holds in a world. No condition. -/
import Derived.Test.YtihjmeoklbmnmaaDoorRegion
namespace Go.Proofs.YtihjmeoklbmnmaaDoor
open Go Go.RowKit

/-- The slice value v has n elements of k cells each, cs all together. -/
def Sl (w : World) (v : Value) (k n : Nat) (cs : List Value) : Prop :=
  cs.length = n * k ∧ n ≤ maxLen ∧
  (((∃ p c, v = .slice p 0 c) ∧ n = 0) ∨ ∃ b off cap, v = .slice (some ⟨b, off, none⟩) n cap ∧ (n ≠ 0 → b < w.heap.size) ∧ ∀ j u, cs[j]? = some u → w.cell? ⟨b, off + j, none⟩ = some u)

theorem Sl.later {w w' : World} {v : Value} {k n : Nat} {cs : List Value} (h : Sl w v k n cs) (hG : Gr w w') : Sl w' v k n cs := by
  obtain ⟨h1, h2, h3⟩ := h
  refine ⟨h1, h2, h3.imp id ?_⟩
  rintro ⟨b, off, cap, hv, hb, hc⟩
  exact ⟨b, off, cap, hv, fun h => Nat.lt_of_lt_of_le (hb h) hG.size, fun j u hj => hG.cell (hc j u hj)⟩

theorem Sl.nil (w : World) (k : Nat) : Sl w (.slice none 0 0) k 0 [] := ⟨by simp, by simp, .inl ⟨⟨_, _, rfl⟩, rfl⟩⟩
theorem Sl.zero (w : World) (p : Option Addr) (c k : Nat) : Sl w (.slice p 0 c) k 0 [] := ⟨by simp, by simp, .inl ⟨⟨_, _, rfl⟩, rfl⟩⟩

theorem Sl.len {w : World} {v : Value} {k n : Nat} {cs : List Value} (h : Sl w v k n cs) : ∃ p cap, v = .slice p n cap := by
  obtain ⟨_, _, ⟨⟨p, c, rfl⟩, rfl⟩ | ⟨b, off, cap, rfl, _⟩⟩ := h
  · exact ⟨_, _, rfl⟩
  · exact ⟨_, _, rfl⟩
theorem Sl.of_owns {w : World} {base e size : Nat} {v : Value} {n : Nat} {xs : List Value} (h : w.ownsRow base e size v n xs) : Sl w v size n xs := by
  obtain ⟨h1, h2⟩ := h
  rcases h2 with ⟨hv, hn⟩ | ⟨g, cap, cur, hv, hbase, hheap, hle, hcap, hsz, htake⟩
  · refine ⟨h1, by omega, .inl ⟨⟨_, _, hv⟩, hn⟩⟩
  · refine ⟨h1, by omega, .inr ⟨g, 0, cap, hv, fun _ => (Array.getElem?_eq_some_iff.1 hheap).1, fun j u hj => ?_⟩⟩
    have hown : w.ownsRow base e size v n xs := ⟨h1, .inr ⟨g, cap, cur, hv, hbase, hheap, hle, hcap, hsz, htake⟩⟩
    have := World.ownsRow.cells hown (g := g) (by rw [hv]; rfl) j u hj
    rw [show (⟨g, 0 + j, none⟩ : Addr) = (⟨g, 0, none⟩ : Addr).add j by
      unfold Addr.add
      by_cases h0 : j = 0
      · subst h0; rfl
      · rw [if_neg h0]]
    exact this

theorem ret_int {k : IntKind} {a b : Int} (h : a = b) : Ending.returned (.int k a) = .returned (.int k b) := by rw [h]
theorem ret_bool {a b : Bool} (h : a = b) : Ending.returned (.bool a) = .returned (.bool b) := by rw [h]

def vB (b : UInt8) : Value := .int .u8 (b.toNat : Int)
theorem u8_inj {a b : UInt8} (h : vB a = vB b) : a = b := by
  unfold vB at h; injection h with _ h; exact UInt8.toNat_inj.1 (by omega)

/-- Block b holds these values, and may be written. -/
def boxAt (w : World) (b : Nat) (vs : List Value) : Prop := ∀ j u, vs[j]? = some u → w.cell? ⟨b, j, none⟩ = some u ∧ w.frozen? ⟨b, j, none⟩ = false
theorem boxAt.cell {w : World} {b : Nat} {vs : List Value} (h : boxAt w b vs) (j : Nat) (u : Value) (hj : vs[j]? = some u) : w.cell? ⟨b, j, none⟩ = some u := (h j u hj).1
theorem boxAt.mark {w : World} {b : Nat} {vs : List Value} (h : boxAt w b vs) (j : Nat) (u : Value) (hj : vs[j]? = some u) : w.frozen? ⟨b, j, none⟩ = false := (h j u hj).2
theorem boxAt.later {w w' : World} {b : Nat} {vs : List Value} (h : boxAt w b vs) (hG : Gr w w') : boxAt w' b vs := fun j u hj => by
  have hc := (h j u hj).1
  have hb := World.block_lt_of_cell? w _ hc
  exact ⟨hG.cell hc, hG.frozen hb (h j u hj).2⟩
theorem boxAt.below {w w' : World} {B b : Nat} {vs : List Value} (h : boxAt w b vs) (hG : Below B w w') (hb : b < B) : boxAt w' b vs := fun j u hj => by
  have hc := (h j u hj).1
  refine ⟨?_, ?_⟩
  · rw [Below.cell (p := ⟨b, j, none⟩) hG hb]; exact hc
  · rw [Below.frozen (p := ⟨b, j, none⟩) hG hb]; exact (h j u hj).2

theorem boxAt.put {w : World} {b : Nat} {vs : List Value} (h : boxAt w b vs) (j : Nat) (v : Value) (hj : j < vs.length) : boxAt (w.setCell ⟨b, j, none⟩ v) b (vs.set j v) := fun i u hi => by
  have hm : ∀ p : Addr, (w.setCell ⟨b, j, none⟩ v).frozen? p = w.frozen? p := fun p => World.frozen?_setCell ..
  by_cases hij : i = j
  · subst hij
    rw [List.getElem?_set_self hj] at hi
    obtain rfl : v = u := by simpa using hi
    have hx := List.getElem?_eq_getElem hj
    exact ⟨World.cell?_setCell_same _ _ _ (h i _ hx).1, by rw [hm]; exact (h i _ hx).2⟩
  · rw [List.getElem?_set_ne (Ne.symm hij)] at hi
    have h1 := h i u hi
    refine ⟨?_, by rw [hm]; exact h1.2⟩
    rw [World.cell?_setCell_other]
    · exact h1.1
    · intro e; injection e with e1 e2; exact hij e2.symm
theorem boxAt.put4 {w : World} {b : Nat} {u0 u1 u2 u3 : Value} (h : boxAt w b [u0, u1, u2, u3]) (v0 v1 v2 v3 : Value) :
    boxAt ((((w.setCell ⟨b, 0, none⟩ v0).setCell ⟨b, 1, none⟩ v1).setCell ⟨b, 2, none⟩ v2).setCell ⟨b, 3, none⟩ v3) b [v0, v1, v2, v3] :=
  (((h.put 0 v0 (by simp)).put 1 v1 (by simp)).put 2 v2 (by simp)).put 3 v3 (by simp)
theorem boxAt.far {w : World} {b : Nat} {vs : List Value} (h : boxAt w b vs) (p : Addr) (v : Value) (hp : p.block ≠ b) : boxAt (w.setCell p v) b vs := fun i u hi => by
  have h1 := h i u hi
  refine ⟨?_, by rw [World.frozen?_setCell]; exact h1.2⟩
  rw [World.cell?_setCell_other]
  · exact h1.1
  · intro e; exact hp (by rw [e])
theorem boxAt.far4 {w : World} {b b' : Nat} {vs : List Value} (h : boxAt w b vs) (hp : b' ≠ b) (v0 v1 v2 v3 : Value) :
    boxAt ((((w.setCell ⟨b', 0, none⟩ v0).setCell ⟨b', 1, none⟩ v1).setCell ⟨b', 2, none⟩ v2).setCell ⟨b', 3, none⟩ v3) b vs :=
  (((h.far _ v0 hp).far _ v1 hp).far _ v2 hp).far _ v3 hp
theorem Below.put4 {B : Nat} {w w' : World} (h : Below B w w') {b : Nat} (hb : B ≤ b) (v0 v1 v2 v3 : Value) :
    Below B w ((((w'.setCell ⟨b, 0, none⟩ v0).setCell ⟨b, 1, none⟩ v1).setCell ⟨b, 2, none⟩ v2).setCell ⟨b, 3, none⟩ v3) :=
  (((h.setCell (p := ⟨b, 0, none⟩) hb v0).setCell (p := ⟨b, 1, none⟩) hb v1).setCell (p := ⟨b, 2, none⟩) hb v2).setCell (p := ⟨b, 3, none⟩) hb v3
theorem size_put4 (w : World) (b : Nat) (v0 v1 v2 v3 : Value) : ((((w.setCell ⟨b, 0, none⟩ v0).setCell ⟨b, 1, none⟩ v1).setCell ⟨b, 2, none⟩ v2).setCell ⟨b, 3, none⟩ v3).heap.size = w.heap.size := by simp [World.setCell]
/-- A block that the call has just laid. -/
theorem boxAt.new {w W : World} (vs : List Value) (e : TypeId) (hW : W = w.alloc (.cells vs.toArray e)) : boxAt W w.heap.size vs := fun j u hj => by
  subst hW
  constructor
  · rw [World.cell?_alloc_new]; simpa using hj
  · rw [World.frozen?_alloc_new]

theorem boxAt.heap {w w' : World} {b : Nat} {vs : List Value} (h : boxAt w b vs) (hb : w'.heap[b]? = w.heap[b]?) : boxAt w' b vs := fun i u hi => by
  have h1 := h i u hi
  unfold World.cell? World.frozen? at *
  rw [hb]; exact h1
theorem boxAt.lt {w : World} {b : Nat} {vs : List Value} (h : boxAt w b vs) (hn : 0 < vs.length) : b < w.heap.size :=
  World.block_lt_of_cell? w _ (h 0 _ (List.getElem?_eq_getElem hn)).1
theorem boxAt.grown {w w' : World} {b : Nat} {vs : List Value} {row : Option Nat} (h : boxAt w b vs) (hg : w.grownBy w' row) (hn : 0 < vs.length) (hr : row ≠ some b) : boxAt w' b vs :=
  h.heap (hg.block b (h.lt hn) (fun e => hr e.symm))
theorem Gr.grown {w a w' : World} {row : Option Nat} (h : Gr w a) (hg : a.grownBy w' row) (hr : ∀ k, row = some k → w.heap.size ≤ k) : Gr w w' :=
  Below.grown h hg (Gr.size h) hr

/-! A byte literal: its block is marked behind its end. -/
theorem freeze_heap (w : World) (a : Addr) (n k : Nat) (h : k ≠ a.block) : (w.freeze a n).heap[k]? = w.heap[k]? := by
  unfold World.freeze
  split
  · rfl
  · simp only [Array.getElem?_modify]; rw [if_neg (by omega)]
theorem freeze_size (w : World) (a : Addr) (n : Nat) : (w.freeze a n).heap.size = w.heap.size := by
  unfold World.freeze; split <;> simp
theorem freeze_cell (w : World) (a : Addr) (n : Nat) (p : Addr) : (w.freeze a n).cell? p = w.cell? p := by
  unfold World.freeze
  split
  · rfl
  · unfold World.cell?
    simp only [Array.getElem?_modify]
    by_cases h : a.block = p.block
    · rw [if_pos h]
      cases hb : w.heap[p.block]? with
      | none => rfl
      | some o => cases o <;> simp
    · rw [if_neg h]
theorem Gr.freeze {W w : World} (h : Gr W w) (a : Addr) (n : Nat) (hb : W.heap.size ≤ a.block) : Gr W (w.freeze a n) :=
  Below.trans h ⟨by unfold World.freeze; split <;> rfl, by unfold World.freeze; split <;> rfl, by unfold World.freeze; split <;> rfl, by rw [freeze_size]; exact Nat.le_refl _, fun k hk => freeze_heap _ _ _ _ (by omega)⟩
theorem Sl.cells {w w' : World} {v : Value} {k n : Nat} {cs : List Value} (h : Sl w v k n cs) (hs : w.heap.size ≤ w'.heap.size) (hc : ∀ p : Addr, w'.cell? p = w.cell? p) : Sl w' v k n cs := by
  obtain ⟨h1, h2, h3⟩ := h
  refine ⟨h1, h2, h3.imp id ?_⟩
  rintro ⟨b, off, cap, hv, hb, hc2⟩
  exact ⟨b, off, cap, hv, fun h => Nat.lt_of_lt_of_le (hb h) hs, fun j u hj => by rw [hc]; exact hc2 j u hj⟩
theorem Sl.freeze {w : World} {v : Value} {k n : Nat} {cs : List Value} (h : Sl w v k n cs) (a : Addr) (m : Nat) : Sl (w.freeze a m) v k n cs :=
  h.cells (by rw [freeze_size]; exact Nat.le_refl _) (freeze_cell w a m)
theorem Sl.freezeTo {w w5 : World} {v : Value} {k n : Nat} {cs : List Value} (h : Sl w v k n cs) {a : Addr} {m : Nat} (e : w5 = w.freeze a m) : Sl w5 v k n cs := e ▸ h.freeze a m
theorem Sl.allocTo {w w5 : World} {v : Value} {k n : Nat} {cs : List Value} (h : Sl w v k n cs) {o : Obj} (e : w5 = w.alloc o) : Sl w5 v k n cs := h.later (by rw [e]; exact Gr.alloc _ _)
theorem shape_new {w W : World} {C : Array Value} {e : TypeId} (hW : W = w.alloc (.cells C e)) : W.shape? w.heap.size = some (e, C.size) := by
  subst hW
  unfold World.shape?
  rw [show (w.alloc (.cells C e)).heap[w.heap.size]? = some (.cells C e) by show (w.heap.push (.cells C e))[w.heap.size]? = _; simp]
theorem shape_later {w w' : World} {b e n : Nat} (h : w.shape? b = some (e, n)) (hG : Gr w w') : w'.shape? b = some (e, n) := by
  unfold World.shape? at *
  have hlt : b < w.heap.size := by
    rcases Nat.lt_or_ge b w.heap.size with h' | h'
    · exact h'
    · rw [Array.getElem?_eq_none h'] at h; cases h
  rw [Below.block hG b hlt]; exact h
theorem run_convert_bytes_same {P : Program} (w : World) (t e : TypeId) (b n c m : Nat) (e' : TypeId) (ht : P.underlying t = some (.slice e)) (he : P.underlying e = some (.int .u8)) (hsh : w.shape? b = some (e', m)) :
    (convert t t (.slice (some ⟨b, 0, none⟩) n c)).run P w = .ok (.slice (some ⟨b, 0, none⟩) n c) (w.freeze ⟨b, m, none⟩ 1) := by
  simp [convert, run_underlying ht, run_underlying he, markStringish, hsh]

/-- Lists of things of k cells each. -/
theorem flatMap_get {α : Type} (f : α → List Value) (k : Nat) (hf : ∀ a, (f a).length = k) : ∀ (l : List α) (i j : Nat) (a : α), l[i]? = some a → j < k → (l.flatMap f)[i * k + j]? = (f a)[j]?
  | [], i, j, a, h, _ => by simp at h
  | x :: l, 0, j, a, h, hj => by
    simp at h; subst h
    rw [List.flatMap_cons, Nat.zero_mul, Nat.zero_add, List.getElem?_append_left (by rw [hf]; exact hj)]
  | x :: l, i + 1, j, a, h, hj => by
    simp at h
    rw [List.flatMap_cons, List.getElem?_append_right (by rw [hf, Nat.succ_mul]; omega), hf, show (i + 1) * k + j - k = i * k + j by rw [Nat.succ_mul]; omega]
    exact flatMap_get f k hf l i j a h hj
theorem flatMap_len {α : Type} (f : α → List Value) (k : Nat) (hf : ∀ a, (f a).length = k) : ∀ (l : List α), (l.flatMap f).length = l.length * k
  | [] => by simp
  | x :: l => by rw [List.flatMap_cons, List.length_append, hf, flatMap_len f k hf l, List.length_cons, Nat.succ_mul]; omega

end Go.Proofs.YtihjmeoklbmnmaaDoor
