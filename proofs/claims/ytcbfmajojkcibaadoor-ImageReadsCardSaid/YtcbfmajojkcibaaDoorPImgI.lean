/- image: the reader's tables, of which the lists grow. No condition. -/
import Derived.Test.YtcbfmajojkcibaaDoorPImgH
import Derived.Test.YtcbfmajojkcibaaDoorPRegionT
namespace Go.Proofs.YtcbfmajojkcibaaDoor
open Go Go.RowKit

/-- A row that the call owns. -/
structure RwE where
  v : Value
  e : TypeId
  k : Nat
  n : Nat
  xs : List Value
/-- Rows of the call's own, in unlike blocks, and in none of these. -/
structure Rws (w : World) (B : Nat) (X : List Nat) (L : List RwE) : Prop where
  own : ∀ r ∈ L, w.ownsRow B r.e r.k r.v r.n r.xs
  apart : L.Pairwise fun r s => ∀ g, r.v.ownBlock = some g → s.v.ownBlock ≠ some g
  out : ∀ r ∈ L, ∀ g, r.v.ownBlock = some g → g ∉ X
theorem Rws.keep {w w' : World} {B : Nat} {X : List Nat} {L : List RwE} (h : Rws w B X L) (hb : ∀ k, k < w.heap.size → B ≤ k → k ∉ X → w'.heap[k]? = w.heap[k]?) : Rws w' B X L :=
  ⟨fun r hr => owns_heap (h.own r hr) (fun g hg => by
    have := (h.own r hr).lt g hg
    exact hb g this.2 this.1 (h.out r hr g hg)), h.apart, h.out⟩
theorem Rws.addX {w : World} {B x : Nat} {X : List Nat} {L : List RwE} (h : Rws w B X L) (hx : w.heap.size ≤ x) : Rws w B (x :: X) L :=
  ⟨h.own, h.apart, fun r hr g hg => by
    have := (h.own r hr).lt g hg
    intro hm
    rcases List.mem_cons.1 hm with rfl | hm
    · omega
    · exact h.out r hr g hg hm⟩
theorem Rws.dropX {w : World} {B x : Nat} {X : List Nat} {L : List RwE} (h : Rws w B (x :: X) L) : Rws w B X L :=
  ⟨h.own, h.apart, fun r hr g hg hm => h.out r hr g hg (List.mem_cons_of_mem _ hm)⟩
theorem Rws.push {w : World} {B : Nat} {X : List Nat} {L : List RwE} (h : Rws w B X L) (e k : Nat) : Rws w B X (L ++ [⟨.slice none 0 0, e, k, 0, []⟩]) :=
  ⟨fun r hr => by
    rcases List.mem_append.1 hr with hr | hr
    · exact h.own r hr
    · rw [List.mem_singleton] at hr; subst hr; exact World.ownsRow_nil w B e k, List.pairwise_append.2 ⟨h.apart, List.pairwise_singleton _ _, fun r _ s hs g _ => by
      rw [List.mem_singleton] at hs; subst hs; intro e; cases e⟩, fun r hr g hg => by
    rcases List.mem_append.1 hr with hr | hr
    · exact h.out r hr g hg
    · rw [List.mem_singleton] at hr; subst hr; cases hg⟩
theorem pairwise_set {α : Type} {R : α → α → Prop} : ∀ {l : List α} {i : Nat} {a : α}, l.Pairwise R → (∀ j x, l[j]? = some x → j < i → R x a) → (∀ j x, l[j]? = some x → i < j → R a x) → (l.set i a).Pairwise R
  | [], _, _, h, _, _ => by simp
  | b :: l, 0, a, h, _, h2 => by
    rw [List.set_cons_zero]
    rw [List.pairwise_cons] at h ⊢
    refine ⟨fun x hx => ?_, h.2⟩
    obtain ⟨j, hj, rfl⟩ := List.mem_iff_getElem.1 hx
    exact h2 (j + 1) _ (by simp [List.getElem?_eq_getElem hj]) (by omega)
  | b :: l, i + 1, a, h, h1, h2 => by
    rw [List.set_cons_succ]
    rw [List.pairwise_cons] at h ⊢
    refine ⟨fun x hx => ?_, pairwise_set h.2 (fun j x hj hl => h1 (j + 1) x (by simpa using hj) (by omega)) (fun j x hj hl => h2 (j + 1) x (by simpa using hj) (by omega))⟩
    rcases List.mem_or_eq_of_mem_set hx with hx | rfl
    · exact h.1 x hx
    · exact h1 0 b (by simp) (by omega)
theorem Rws.grow {w w' : World} {B : Nat} {X : List Nat} {L : List RwE} (h : Rws w B X L) {i : Nat} {r : RwE} (hi : L[i]? = some r) {v' : Value} {n' : Nat} {xs' : List Value}
    (hg : w.grownBy w' r.v.ownBlock) (ho : w'.ownsRow B r.e r.k v' n' xs') (hat : v'.ownBlock = r.v.ownBlock ∨ v'.ownBlock = some w.heap.size) (hX : ∀ x ∈ X, x < w.heap.size) :
    Rws w' B X (L.set i ⟨v', r.e, r.k, n', xs'⟩) := by
  have hrm := List.mem_of_getElem? hi
  have hp := List.pairwise_iff_getElem.1 h.apart
  obtain ⟨hil, hie⟩ := List.getElem?_eq_some_iff.1 hi
  have hne : ∀ j x, L[j]? = some x → j ≠ i → ∀ g, x.v.ownBlock = some g → r.v.ownBlock ≠ some g := fun j x hj hji g hg hr => by
    obtain ⟨hjl, hje⟩ := List.getElem?_eq_some_iff.1 hj
    rcases Nat.lt_or_ge j i with h1 | h1
    · exact hp j i hjl hil h1 g (by rw [hje]; exact hg) (by rw [hie]; exact hr)
    · exact hp i j hil hjl (by omega) g (by rw [hie]; exact hr) (by rw [hje]; exact hg)
  have hlt : ∀ x ∈ L, ∀ g, x.v.ownBlock = some g → g < w.heap.size := fun x hx g hg => ((h.own x hx).lt g hg).2
  refine ⟨fun x hx => ?_, pairwise_set h.apart (fun j x hj hl g hg => ?_) (fun j x hj hl g hg => ?_), fun x hx g hg => ?_⟩
  · obtain ⟨j, hj, hje⟩ := List.mem_iff_getElem.1 hx
    rw [List.length_set] at hj
    by_cases hji : j = i
    · subst hji
      rw [List.getElem_set_self] at hje
      subst hje; exact ho
    · rw [List.getElem_set_ne (Ne.symm hji)] at hje
      have hjq : L[j]? = some x := by rw [List.getElem?_eq_getElem hj, hje]
      refine owns_heap (h.own x (List.mem_of_getElem? hjq)) (fun g hgx => ?_)
      exact hg.block g (hlt x (List.mem_of_getElem? hjq) g hgx) (fun e => hne j x hjq hji g hgx e.symm)
  · have h1 := hne j x hj (by omega) g hg
    rcases hat with h2 | h2
    · show v'.ownBlock ≠ some g
      rw [h2]; exact h1
    · show v'.ownBlock ≠ some g
      rw [h2]; intro e; injection e with e
      have := hlt x (List.mem_of_getElem? hj) g hg; omega
  · have hg' : v'.ownBlock = some g := hg
    intro hx
    rcases hat with h2 | h2
    · exact hne j x hj (by omega) g hx (by rw [← h2]; exact hg')
    · rw [h2] at hg'; injection hg' with hg'
      have := hlt x (List.mem_of_getElem? hj) g hx; omega
  · rcases List.mem_or_eq_of_mem_set hx with hx | rfl
    · exact h.out x hx g hg
    · have hg' : v'.ownBlock = some g := hg
      rcases hat with h2 | h2
      · exact h.out r hrm g (by rw [← h2]; exact hg')
      · rw [h2] at hg'; injection hg' with hg'
        intro hm
        have := hX g hm; omega

/-- All blocks below B, but the reader's, are as they were, and these, but the tables'. -/
structure KpQ (B p : Nat) (X : List Nat) (tb : Nat) (w w' : World) : Prop where
  os : w'.os = w.os
  tape : w'.tape = w.tape
  output : w'.output = w.output
  size : w.heap.size ≤ w'.heap.size
  block : ∀ k, k < w.heap.size → ((k < B ∧ k ≠ p) ∨ (k ∈ X ∧ k ≠ tb)) → w'.heap[k]? = w.heap[k]?
theorem KpQ.refl (B p : Nat) (X : List Nat) (tb : Nat) (w : World) : KpQ B p X tb w w := ⟨rfl, rfl, rfl, Nat.le_refl _, fun _ _ _ => rfl⟩
theorem KpQ.trans {B p tb : Nat} {X : List Nat} {a b c : World} (h : KpQ B p X tb a b) (k : KpQ B p X tb b c) : KpQ B p X tb a c :=
  ⟨k.os.trans h.os, k.tape.trans h.tape, k.output.trans h.output, Nat.le_trans h.size k.size, fun i hi hB => (k.block i (Nat.lt_of_lt_of_le hi h.size) hB).trans (h.block i hi hB)⟩
theorem KpQ.of_p {B p tb : Nat} {X : List Nat} {w w' : World} (h : KpP p w w') (hX : p ∉ X) : KpQ B p X tb w w' := ⟨h.os, h.tape, h.output, h.size, fun k hk hp => h.block k hk (by
  rcases hp with hp | hp
  · exact hp.2
  · rintro rfl; exact hX hp.1)⟩
theorem KpQ.gr {B p tb : Nat} {X : List Nat} {w w' : World} (h : Gr w w') : KpQ B p X tb w w' := ⟨h.os, h.tape, h.output, h.size, fun k hk _ => Below.block h k hk⟩
theorem KpQ.toP {p tb : Nat} {X : List Nat} {w w' : World} (h : KpQ w.heap.size p X tb w w') : KpP p w w' := ⟨h.os, h.tape, h.output, h.size, fun k hk hp => h.block k hk (.inl ⟨hk, hp⟩)⟩
theorem KpQ.toP0 {p tb : Nat} {X : List Nat} {w w0 w' : World} (h : KpQ w.heap.size p X tb w0 w') (hG : Gr w w0) : KpP p w w' := (KpQ.toP (X := X) (tb := tb) ((KpQ.gr hG).trans h))
theorem KpQ.box {B p tb b : Nat} {X : List Nat} {w w' : World} (h : KpQ B p X tb w w') {vs : List Value} (hb : boxAt w b vs) (hX : b ∈ X) (hne : b ≠ tb) (hn : 0 < vs.length) : boxAt w' b vs := hb.heap (h.block b (hb.lt hn) (.inr ⟨hX, hne⟩))
theorem KpQ.store {B p tb : Nat} {X : List Nat} {w w' : World} (h : KpQ B p X tb w w') (j : Nat) (u : Value) (ht : B ≤ tb) : KpQ B p X tb w (w'.setCell ⟨tb, j, none⟩ u) :=
  ⟨h.os, h.tape, h.output, by simp [World.setCell]; exact h.size, fun k h1 h2 => (Below.heap_setCell w' _ u k (by
    show k ≠ tb
    rcases h2 with h2 | h2
    · omega
    · exact h2.2)).trans (h.block k h1 h2)⟩
theorem KpQ.storeNew {B p tb : Nat} {X : List Nat} {w w' : World} (h : KpQ B p X tb w w') (a : Addr) (u : Value) (ha : w.heap.size ≤ a.block) : KpQ B p X tb w (w'.setCell a u) :=
  ⟨h.os, h.tape, h.output, by simp [World.setCell]; exact h.size, fun k h1 h2 => (Below.heap_setCell w' a u k (by omega)).trans (h.block k h1 h2)⟩
theorem KpQ.lessX {B p tb x : Nat} {X : List Nat} {w w' : World} (h : KpQ B p (x :: X) tb w w') : KpQ B p X tb w w' := ⟨h.os, h.tape, h.output, h.size, fun k hk hp => h.block k hk (hp.imp id (fun h => ⟨List.mem_cons_of_mem _ h.1, h.2⟩))⟩

theorem RdI.keepB {w w' : World} {B rb : Nat} {pb : Option Addr} {c : Nat} {bs : List UInt8} {k : Nat} (h : RdI w rb pb c bs k) (hrb : rb < B) (hpb : ∀ b off, pb = some ⟨b, off, none⟩ → b < B) (hs : w.heap.size ≤ w'.heap.size)
    (hb : ∀ k, k < w.heap.size → k < B → w'.heap[k]? = w.heap[k]?) : RdI w' rb pb c bs k := by
  refine ⟨h.box.heap (hb rb (h.box.lt (by simp)) hrb), ?_, h.apart, h.le, h.small, h.room⟩
  obtain ⟨h1, h2, h3⟩ := h.bytes
  refine ⟨h1, h2, h3.imp id ?_⟩
  rintro ⟨b, off, cap, hv, hbl, hc⟩
  refine ⟨b, off, cap, hv, fun hn => Nat.lt_of_lt_of_le (hbl hn) hs, fun j u hj => ?_⟩
  have hp : pb = some ⟨b, off, none⟩ := by injection hv
  have h4 := hc j u hj
  rw [← h4]
  exact World.cell?_of_block (w := w) (hb b (World.block_lt_of_cell? w _ h4) (hpb b off hp))

/-- The tables' cells. -/
def tbC (t : Tb) (v : TbV) : List Value := [v.modes, v.labels, v.cuts, v.acts, v.classes, .int .i64 t.count, v.starts, v.label, v.base, v.dflt, v.next, v.check]
theorem tbC_len (t : Tb) (v : TbV) : (tbC t v).length = 12 := rfl
/-- The rows of acts. -/
def actRows : List (List (Int × Int)) → List Value → List RwE
  | a :: l, u :: m => ⟨u, 61, 2, a.length, a.flatMap prC⟩ :: actRows l m
  | _, _ => []
theorem actRows_snoc : ∀ (l : List (List (Int × Int))) (m : List Value) (a : List (Int × Int)) (u : Value), m.length = l.length → actRows (l ++ [a]) (m ++ [u]) = actRows l m ++ [⟨u, 61, 2, a.length, a.flatMap prC⟩]
  | [], [], a, u, _ => rfl
  | [], _ :: _, _, _, h => by simp at h
  | _ :: _, [], _, _, h => by simp at h
  | x :: l, y :: m, a, u, h => by
    simp only [List.cons_append, actRows]
    rw [actRows_snoc l m a u (by simpa using h)]
theorem actRows_get : ∀ (l : List (List (Int × Int))) (m : List Value) (k : Nat) (a : List (Int × Int)), m.length = l.length → l[k]? = some a → ∃ u, m[k]? = some u ∧ (⟨u, 61, 2, a.length, a.flatMap prC⟩ : RwE) ∈ actRows l m
  | [], _, _, _, _, h => by simp at h
  | _ :: _, [], _, _, h, _ => by simp at h
  | x :: l, y :: m, 0, a, _, hk => by
    simp at hk; subst hk; exact ⟨y, rfl, by simp [actRows]⟩
  | x :: l, y :: m, k + 1, a, h, hk => by
    obtain ⟨u, h1, h2⟩ := actRows_get l m k a (by simpa using h) (by simpa using hk)
    exact ⟨u, by simpa using h1, by simp only [actRows]; exact List.mem_cons_of_mem _ h2⟩
/-- All rows of the tables. -/
def rowsOf (t : Tb) (v : TbV) : List RwE :=
  [⟨v.modes, 9, 1, t.modes.length, t.modes.map vS⟩, ⟨v.labels, 9, 1, t.labels.length, t.labels.map vS⟩, ⟨v.cuts, 58, 2, t.cuts.length, t.cuts.flatMap prC⟩, ⟨v.acts, 59, 1, t.acts.length, v.rows⟩,
   ⟨v.classes, 3, 1, t.classes.length, t.classes.map vI⟩, ⟨v.starts, 3, 1, t.starts.length, t.starts.map vI⟩, ⟨v.label, 3, 1, t.label.length, t.label.map vI⟩, ⟨v.base, 3, 1, t.base.length, t.base.map vI⟩,
   ⟨v.dflt, 3, 1, t.dflt.length, t.dflt.map vI⟩, ⟨v.next, 3, 1, t.next.length, t.next.map vI⟩, ⟨v.check, 3, 1, t.check.length, t.check.map vI⟩] ++ actRows t.acts v.rows

/-- The reader, and the tables so far. -/
structure Rst (w : World) (B rb tb : Nat) (pb : Option Addr) (c : Nat) (bs : List UInt8) (k : Nat) (X : List Nat) (t : Tb) (v : TbV) (ex : List RwE) : Prop where
  rd : RdI w rb pb c bs k
  box : boxAt w tb (tbC t v)
  rows : Rws w B X (rowsOf t v ++ ex)
  len : v.rows.length = t.acts.length
  inX : tb ∈ X
  lt : ∀ x ∈ X, B ≤ x ∧ x < w.heap.size
  rlow : rb < B
  plow : ∀ b off, pb = some ⟨b, off, none⟩ → b < B

section
variable {w w' : World} {B rb tb : Nat} {pb : Option Addr} {c : Nat} {bs : List UInt8} {k k' : Nat} {X : List Nat} {t t2 : Tb} {v v2 : TbV} {ex ex2 : List RwE}
theorem Rst.base (h : Rst w B rb tb pb c bs k X t v ex) : B ≤ w.heap.size := by have := h.lt tb h.inX; omega
theorem Rst.tlow (h : Rst w B rb tb pb c bs k X t v ex) : B ≤ tb := (h.lt tb h.inX).1
theorem Rst.num (h : Rst w B rb tb pb c bs k X t v ex) (hk : KpP rb w w') (hr : RdI w' rb pb c bs k') : Rst w' B rb tb pb c bs k' X t v ex :=
  ⟨hr, h.box.keptP hk (by have := h.tlow; have := h.rlow; omega) (by simp [tbC]), h.rows.keep (fun k hk1 hB _ => hk.block k hk1 (by have := h.rlow; omega)), h.len, h.inX, fun x hx => ⟨(h.lt x hx).1, Nat.lt_of_lt_of_le (h.lt x hx).2 hk.size⟩, h.rlow, h.plow⟩
theorem Rst.later (h : Rst w B rb tb pb c bs k X t v ex) (hG : Gr w w') : Rst w' B rb tb pb c bs k X t v ex :=
  ⟨h.rd.later hG, h.box.later hG, h.rows.keep (fun k hk _ _ => Below.block hG k hk), h.len, h.inX, fun x hx => ⟨(h.lt x hx).1, Nat.lt_of_lt_of_le (h.lt x hx).2 hG.size⟩, h.rlow, h.plow⟩
/-- A store into a block that is none of the rows'. -/
theorem Rst.far (h : Rst w B rb tb pb c bs k X t v ex) {p : Addr} (u : Value) (hp : p.block ∈ X) (hne : p.block ≠ tb) : Rst (w.setCell p u) B rb tb pb c bs k X t v ex :=
  ⟨h.rd.keepB h.rlow h.plow (by simp [World.setCell]) (fun k _ hB => Below.heap_setCell w p u k (by have := (h.lt _ hp).1; omega)), h.box.far _ _ hne,
   h.rows.keep (fun k _ _ hX => Below.heap_setCell w p u k (fun e => hX (e ▸ hp))), h.len, h.inX, fun x hx => ⟨(h.lt x hx).1, by simp [World.setCell]; exact (h.lt x hx).2⟩, h.rlow, h.plow⟩
theorem Rst.alloc (h : Rst w B rb tb pb c bs k X t v ex) (o : Obj) : Rst (w.alloc o) B rb tb pb c bs k (w.heap.size :: X) t v ex := by
  have hl := h.later (Gr.alloc w o)
  refine ⟨hl.rd, hl.box, (h.rows.addX (Nat.le_refl _)).keep (fun k hk _ _ => Below.block (Gr.alloc w o) k hk), hl.len, List.mem_cons_of_mem _ hl.inX, fun x hx => ?_, hl.rlow, hl.plow⟩
  rcases List.mem_cons.1 hx with rfl | hx
  · exact ⟨h.base, by simp⟩
  · exact hl.lt x hx
theorem Rst.dropX {x : Nat} (h : Rst w B rb tb pb c bs k (x :: X) t v ex) (hx : tb ∈ X) : Rst w B rb tb pb c bs k X t v ex :=
  ⟨h.rd, h.box, h.rows.dropX, h.len, hx, fun y hy => h.lt y (List.mem_cons_of_mem _ hy), h.rlow, h.plow⟩
theorem Rst.push (h : Rst w B rb tb pb c bs k X t v []) (e s : Nat) : Rst w B rb tb pb c bs k X t v [⟨.slice none 0 0, e, s, 0, []⟩] :=
  ⟨h.rd, h.box, by have := h.rows.push e s; rw [List.append_nil] at this; exact this, h.len, h.inX, h.lt, h.rlow, h.plow⟩
/-- A row has grown. -/
theorem Rst.growEx (h : Rst w B rb tb pb c bs k X t v ex) {i : Nat} {r : RwE} (hi : (rowsOf t v ++ ex)[i]? = some r) {v' : Value} {n' : Nat} {xs' : List Value}
    (hg : w.grownBy w' r.v.ownBlock) (ho : w'.ownsRow B r.e r.k v' n' xs') (hat : v'.ownBlock = r.v.ownBlock ∨ v'.ownBlock = some w.heap.size)
    (hL : rowsOf t v ++ ex2 = (rowsOf t v ++ ex).set i ⟨v', r.e, r.k, n', xs'⟩) : Rst w' B rb tb pb c bs k X t v ex2 := by
  have hrm := List.mem_of_getElem? hi
  have hrow : ∀ g, r.v.ownBlock = some g → B ≤ g := fun g hg => ((h.rows.own r hrm).lt g hg).1
  refine ⟨h.rd.keepB h.rlow h.plow hg.size (fun k hk hB => hg.block k hk (fun e => by have := hrow k e.symm; omega)), h.box.grown hg (by simp [tbC]) (fun e => h.rows.out r hrm tb e h.inX), ?_, h.len, h.inX, fun x hx => ⟨(h.lt x hx).1, Nat.lt_of_lt_of_le (h.lt x hx).2 hg.size⟩, h.rlow, h.plow⟩
  rw [hL]
  exact h.rows.grow hi hg ho hat (fun x hx => (h.lt x hx).2)
/-- .. and has been laid into the tables. -/
theorem Rst.grow (h : Rst w B rb tb pb c bs k X t v ex) {i : Nat} {r : RwE} (hi : (rowsOf t v ++ ex)[i]? = some r) {v' : Value} {n' : Nat} {xs' : List Value}
    (hg : w.grownBy w' r.v.ownBlock) (ho : w'.ownsRow B r.e r.k v' n' xs') (hat : v'.ownBlock = r.v.ownBlock ∨ v'.ownBlock = some w.heap.size) (j : Nat) (hj : j < 12)
    (hL : rowsOf t2 v2 ++ ex2 = (rowsOf t v ++ ex).set i ⟨v', r.e, r.k, n', xs'⟩) (hC : tbC t2 v2 = (tbC t v).set j v') (hlen : v2.rows.length = t2.acts.length) : Rst (w'.setCell ⟨tb, j, none⟩ v') B rb tb pb c bs k X t2 v2 ex2 := by
  have hrm := List.mem_of_getElem? hi
  have hrow : ∀ g, r.v.ownBlock = some g → B ≤ g := fun g hg => ((h.rows.own r hrm).lt g hg).1
  have hrd : RdI w' rb pb c bs k := h.rd.keepB h.rlow h.plow hg.size (fun k hk hB => hg.block k hk (fun e => by have := hrow k e.symm; omega))
  have hbox : boxAt w' tb (tbC t v) := h.box.grown hg (by simp [tbC]) (fun e => h.rows.out r hrm tb e h.inX)
  refine ⟨hrd.keepB h.rlow h.plow (by simp [World.setCell]) (fun k _ hB => Below.heap_setCell w' _ v' k (by show k ≠ tb; have := h.tlow; omega)), by rw [hC]; exact hbox.put j v' (by rw [tbC_len]; exact hj), ?_, hlen, h.inX, fun x hx => ⟨(h.lt x hx).1, by simp [World.setCell]; exact Nat.lt_of_lt_of_le (h.lt x hx).2 hg.size⟩, h.rlow, h.plow⟩
  rw [hL]
  exact (h.rows.grow hi hg ho hat (fun x hx => (h.lt x hx).2)).keep (fun k _ _ hX => Below.heap_setCell w' _ v' k (fun e => hX (e ▸ h.inX)))
/-- The count. -/
theorem Rst.cnt (h : Rst w B rb tb pb c bs k X t v ex) (n : Int) : Rst (w.setCell ⟨tb, 5, none⟩ (.int .i64 n)) B rb tb pb c bs k X { t with count := n } v ex :=
  ⟨h.rd.keepB h.rlow h.plow (by simp [World.setCell]) (fun k _ hB => Below.heap_setCell w _ _ k (by show k ≠ tb; have := h.tlow; omega)), h.box.put 5 _ (by rw [tbC_len]; omega),
   h.rows.keep (fun k _ _ hX => Below.heap_setCell w _ _ k (fun e => hX (e ▸ h.inX))), h.len, h.inX, fun x hx => ⟨(h.lt x hx).1, by simp [World.setCell]; exact (h.lt x hx).2⟩, h.rlow, h.plow⟩
theorem Rst.rb_out (h : Rst w B rb tb pb c bs k X t v ex) : rb ∉ X := fun hm => by have := h.lt rb hm; have := h.rlow; omega
theorem Rst.kp_store {w0 : World} {X0 : List Nat} (h : Rst w B rb tb pb c bs k X t v ex) (hk : KpQ B rb X0 tb w0 w) (j : Nat) (u : Value) : KpQ B rb X0 tb w0 (w.setCell ⟨tb, j, none⟩ u) :=
  ⟨hk.os, hk.tape, hk.output, by simp [World.setCell]; exact hk.size, fun k h1 h2 => (Below.heap_setCell w _ u k (by
    show k ≠ tb
    have := h.tlow
    rcases h2 with h2 | h2
    · omega
    · exact h2.2)).trans (hk.block k h1 h2)⟩
theorem Rst.kp_grown {w0 : World} {X0 : List Nat} (h : Rst w B rb tb pb c bs k X t v ex) (hk : KpQ B rb X0 tb w0 w) (hX : ∀ x ∈ X0, x ∈ X) {i : Nat} {r : RwE} (hi : (rowsOf t v ++ ex)[i]? = some r) (hg : w.grownBy w' r.v.ownBlock) : KpQ B rb X0 tb w0 w' := by
  have hrm := List.mem_of_getElem? hi
  refine ⟨hg.os.trans hk.os, hg.tape.trans hk.tape, hg.output.trans hk.output, Nat.le_trans hk.size hg.size, fun k h1 h2 => (hg.block k (Nat.lt_of_lt_of_le h1 hk.size) (fun e => ?_)).trans (hk.block k h1 h2)⟩
  have h3 := (h.rows.own r hrm).lt k e.symm
  rcases h2 with h2 | h2
  · omega
  · exact h.rows.out r hrm k e.symm (hX k h2.1)
theorem Rst.row_ne (h : Rst w B rb tb pb c bs k X t v ex) {i : Nat} {r : RwE} (hi : (rowsOf t v ++ ex)[i]? = some r) {x : Nat} (hx : x ∈ X) : r.v.ownBlock ≠ some x := fun e => h.rows.out r (List.mem_of_getElem? hi) x e hx
theorem Rst.row_low (h : Rst w B rb tb pb c bs k X t v ex) {i : Nat} {r : RwE} (hi : (rowsOf t v ++ ex)[i]? = some r) : ∀ g, r.v.ownBlock = some g → B ≤ g := fun g hg => ((h.rows.own r (List.mem_of_getElem? hi)).lt g hg).1
theorem Rst.row_own (h : Rst w B rb tb pb c bs k X t v ex) {i : Nat} {r : RwE} (hi : (rowsOf t v ++ ex)[i]? = some r) : w.ownsRow B r.e r.k r.v r.n r.xs := h.rows.own r (List.mem_of_getElem? hi)
/-- What lies in rows of the call's own are tables. -/
theorem Rws.tabs (h : Rws w B X (rowsOf t v)) (hlen : v.rows.length = t.acts.length) (ht : ∀ s, s ∈ t.modes ∨ s ∈ t.labels → s.length ≤ 9223372036854775807) : TbIn w t v := by
  have hm : ∀ r ∈ rowsOf t v, Sl w r.v r.k r.n r.xs := fun r hr => Sl.of_owns (h.own r hr)
  refine ⟨hm _ (by simp [rowsOf]; exact .inl rfl), hm ⟨v.labels, 9, 1, t.labels.length, t.labels.map vS⟩ (by simp [rowsOf]), hm ⟨v.cuts, 58, 2, t.cuts.length, t.cuts.flatMap prC⟩ (by simp [rowsOf]), hm ⟨v.acts, 59, 1, t.acts.length, v.rows⟩ (by simp [rowsOf]), fun k a hk => ?_,
    hm ⟨v.classes, 3, 1, t.classes.length, t.classes.map vI⟩ (by simp [rowsOf]), hm ⟨v.starts, 3, 1, t.starts.length, t.starts.map vI⟩ (by simp [rowsOf]), hm ⟨v.label, 3, 1, t.label.length, t.label.map vI⟩ (by simp [rowsOf]), hm ⟨v.base, 3, 1, t.base.length, t.base.map vI⟩ (by simp [rowsOf]),
    hm ⟨v.dflt, 3, 1, t.dflt.length, t.dflt.map vI⟩ (by simp [rowsOf]), hm ⟨v.next, 3, 1, t.next.length, t.next.map vI⟩ (by simp [rowsOf]), hm ⟨v.check, 3, 1, t.check.length, t.check.map vI⟩ (by simp [rowsOf]), ?_, ht⟩
  · obtain ⟨u, h1, h2⟩ := actRows_get t.acts v.rows k a hlen hk
    exact ⟨u, h1, hm ⟨u, 61, 2, a.length, a.flatMap prC⟩ (List.mem_append_right _ h2)⟩
  · intro p n c hv
    have ho := h.own ⟨v.modes, 9, 1, t.modes.length, t.modes.map vS⟩ (by simp [rowsOf])
    obtain ⟨_, ⟨h2, h3⟩ | ⟨g, cap, cur, h2, _, _, h3, _⟩⟩ := ho
    · have h2 : v.modes = .slice none 0 0 := h2
      rw [h2] at hv; injection hv with _ e1 e2; omega
    · have h2 : v.modes = .slice (some ⟨g, 0, none⟩) t.modes.length cap := h2
      have h3 : t.modes.length ≤ cap := h3
      rw [h2] at hv; injection hv with _ e1 e2; omega
end

/-- Number, both ways. -/
theorem num_some (w : World) (rb : Nat) (pb : Option Addr) (c : Nat) (bs : List UInt8) (k most : Nat) (z : Int) (hz : z = (most : Int)) (m : Nat) (r : List UInt8) (h : RdI w rb pb c bs k) (hm : most ≤ 262144) (hn : numR most (bs.drop k) = some (m, r)) :
    Calls Tryd.prog 65 #[.pointer (some ⟨rb, 0, none⟩), .int .i64 z] w fun e w' => e = .returned (.int .i64 (m : Int)) ∧ KpP rb w w' ∧ ∃ k', RdI w' rb pb c bs k' ∧ bs.drop k' = r :=
  hz ▸ (number_any w rb pb c bs k most h hm).mono fun e w' he => by
    obtain ⟨h1, h2⟩ := he
    rw [hn] at h2
    exact ⟨h2.1, h1, h2.2⟩
theorem num_none (w : World) (rb : Nat) (pb : Option Addr) (c : Nat) (bs : List UInt8) (k most : Nat) (z : Int) (hz : z = (most : Int)) (h : RdI w rb pb c bs k) (hm : most ≤ 262144) (hn : numR most (bs.drop k) = none) :
    Calls Tryd.prog 65 #[.pointer (some ⟨rb, 0, none⟩), .int .i64 z] w fun e w' => e = .panicked [{ v := refusalV, recovered := false }] ∧ KpP rb w w' :=
  hz ▸ (number_any w rb pb c bs k most h hm).mono fun e w' he => by
    obtain ⟨h1, h2⟩ := he
    rw [hn] at h2
    exact ⟨h2.1, h1⟩
theorem text_some (w : World) (rb : Nat) (pb : Option Addr) (c : Nat) (bs : List UInt8) (k : Nat) (s r : List UInt8) (h : RdI w rb pb c bs k) (hn : txR (bs.drop k) = some (s, r)) :
    Calls Tryd.prog 66 #[.pointer (some ⟨rb, 0, none⟩)] w fun e w' => e = .returned (.string (st s)) ∧ KpP rb w w' ∧ ∃ k', RdI w' rb pb c bs k' ∧ bs.drop k' = r :=
  (textR_any w rb pb c bs k h).mono fun e w' he => by
    obtain ⟨h1, h2⟩ := he
    rw [hn] at h2
    exact ⟨h2.1, h1, h2.2⟩
theorem text_none (w : World) (rb : Nat) (pb : Option Addr) (c : Nat) (bs : List UInt8) (k : Nat) (h : RdI w rb pb c bs k) (hn : txR (bs.drop k) = none) :
    Calls Tryd.prog 66 #[.pointer (some ⟨rb, 0, none⟩)] w fun e w' => e = .panicked [{ v := refusalV, recovered := false }] ∧ KpP rb w w' :=
  (textR_any w rb pb c bs k h).mono fun e w' he => by
    obtain ⟨h1, h2⟩ := he
    rw [hn] at h2
    exact ⟨h2.1, h1⟩

theorem setCell_os (w : World) (a : Addr) (v : Value) : (w.setCell a v).os = w.os := rfl
theorem setCell_tape (w : World) (a : Addr) (v : Value) : (w.setCell a v).tape = w.tape := rfl
theorem setCell_output (w : World) (a : Addr) (v : Value) : (w.setCell a v).output = w.output := rfl
theorem name_endI {P : Program} {f : Func} {R : Ending → World → Prop} {x : Exit} {a : Act} {w0 : World} (h : ∀ W, W = w0 → bodyPost P f R x a W) : bodyPost P f R x a w0 := h _ rfl
/-- append, at the operation: where the row lies then. -/
theorem wp_append_at {P : Program} (w : World) {o : Oper} {a : Act} {K : Act → World → Prop} {Q : Exit → Act → World → Prop} (s x : Operand) (t : TypeId)
    (ho : o.op = .call { callee := .builtin .append, args := #[s, x], argTypes := #[t, t] })
    (base : Nat) (e : TypeId) (i : TypeInfo) (z : Value) (size bytes : Nat) (ht : P.underlying t = some (.slice e)) (hi : P.info? e = some i) (hz : i.zero = some z)
    (hsize : i.size = size) (hby : i.bytes = bytes) (hzs : z.cells.size = size) (hsz : 0 < size)
    (v : Value) (n : Nat) (xs : List Value) (hs : a.eval s = v) (hown : w.ownsRow base e size v n xs)
    (ad : Addr) (m c : Nat) (news : List Value) (hx : a.eval x = .slice (some ad) m c) (hl : news.length = m * size) (hnews : ∀ j u, news[j]? = some u → w.cell? (ad.add j) = some u) (h1 : ∀ u ∈ news, u.oneCell' = true)
    (h63 : n + m ≤ maxLen) (hbytes : (n + m) * bytes ≤ 140737488355328) (hbase : base ≤ w.heap.size)
    (h : ∀ v' w', w'.ownsRow base e size v' (n + m) (xs ++ news) → w.grownBy w' v.ownBlock → (v'.ownBlock = v.ownBlock ∨ v'.ownBlock = some w.heap.size) → K (a.put o.dst v') w') : o.wp P a w K Q := by
  obtain ⟨v', w', hr, h2, h3, h4, h5⟩ := run_append_own_at (P := P) w base t o.type e i z size bytes ht hi hz hsize hby hzs hsz v n xs hown ad m c news hl hnews h1 h63 hbytes hbase
  unfold Oper.wp execOp
  simp only [ho, resolve, invoke, builtin, Sem.run_bind, Sem.run_pure, Result.andThen_ok, List.map_toArray, List.map_cons, List.map_nil, hs, hx, hr]
  exact h v' w' h2 h3 h5

end Go.Proofs.YtcbfmajojkcibaaDoor
