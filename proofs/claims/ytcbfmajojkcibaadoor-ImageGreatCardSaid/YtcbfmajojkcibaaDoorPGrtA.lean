/- bolterlaw17: tables in a variable of the call's own, of which the lists grow. No condition. -/
import Derived.Test.YtcbfmajojkcibaaDoorPImgX
import Derived.Test.YtcbfmajojkcibaaDoorGrtP
namespace Go.Proofs.YtcbfmajojkcibaaDoor
open Go Go.RowKit

theorem Rws.setNil {w : World} {B : Nat} {X : List Nat} {L : List RwE} (h : Rws w B X L) (i : Nat) (e k : Nat) : Rws w B X (L.set i ⟨.slice none 0 0, e, k, 0, []⟩) := by
  refine ⟨fun r hr => ?_, pairwise_set h.apart (fun j x _ _ g _ => (fun e => by cases e)) (fun j x _ _ g hg => (by cases hg)), fun r hr g hg => ?_⟩
  · rcases List.mem_or_eq_of_mem_set hr with hr | rfl
    · exact h.own r hr
    · exact World.ownsRow_nil w B e k
  · rcases List.mem_or_eq_of_mem_set hr with hr | rfl
    · exact h.out r hr g hg
    · cases hg
/-- A store into a row. -/
theorem Rws.store {w : World} {B : Nat} {X : List Nat} {L : List RwE} (h : Rws w B X L) {i g n cap e k : Nat} {xs : List Value} (hi : L[i]? = some ⟨.slice (some ⟨g, 0, none⟩) n cap, e, k, n, xs⟩) (j : Nat) (hj : j < xs.length) (u : Value) :
    Rws (w.setCell ⟨g, j, none⟩ u) B X (L.set i ⟨.slice (some ⟨g, 0, none⟩) n cap, e, k, n, xs.set j u⟩) := by
  have hrm := List.mem_of_getElem? hi
  have hp := List.pairwise_iff_getElem.1 h.apart
  obtain ⟨hil, hie⟩ := List.getElem?_eq_some_iff.1 hi
  have hne : ∀ j' x, L[j']? = some x → j' ≠ i → x.v.ownBlock ≠ some g := fun j' x hj' hji hg => by
    obtain ⟨hjl, hje⟩ := List.getElem?_eq_some_iff.1 hj'
    rcases Nat.lt_or_ge j' i with h1 | h1
    · exact hp j' i hjl hil h1 g (by rw [hje]; exact hg) (by rw [hie]; rfl)
    · exact hp i j' hil hjl (by omega) g (by rw [hie]; rfl) (by rw [hje]; exact hg)
  refine ⟨fun x hx => ?_, pairwise_set h.apart (fun j' x hj' hl g' hg' e' => ?_) (fun j' x hj' hl g' hg' e' => ?_), fun x hx g' hg' => ?_⟩
  · obtain ⟨j', hj', hje⟩ := List.mem_iff_getElem.1 hx
    rw [List.length_set] at hj'
    by_cases hji : j' = i
    · subst hji
      rw [List.getElem_set_self] at hje
      subst hje; exact owns_set (h.own _ hrm) j hj u
    · rw [List.getElem_set_ne (Ne.symm hji)] at hje
      have hjq : L[j']? = some x := by rw [List.getElem?_eq_getElem hj', hje]
      refine owns_heap (h.own x (List.mem_of_getElem? hjq)) (fun g' hg' => Below.heap_setCell w _ u g' ?_)
      rintro rfl
      exact hne j' x hjq hji hg'
  · have e2 : g = g' := by injection e'
    subst e2
    exact hne j' x hj' (by omega) hg'
  · have e2 : g = g' := by injection hg'
    subst e2
    exact hne j' x hj' (by omega) e'
  · rcases List.mem_or_eq_of_mem_set hx with hx | rfl
    · exact h.out x hx g' hg'
    · exact h.out _ hrm g' hg'

/-- Tables in a variable of the call's own. -/
structure Tst (w0 : World) (B tb : Nat) (w : World) (t : Tb) (v : TbV) (ex : List RwE) : Prop where
  gr : Gr w0 w
  box : boxAt w tb (tbC t v)
  rows : Rws w B [tb] (rowsOf t v ++ ex)
  len : v.rows.length = t.acts.length
  lt : B ≤ tb ∧ tb < w.heap.size
  base : w0.heap.size ≤ B
section
variable {w0 w w' : World} {B tb : Nat} {t t2 : Tb} {v v2 : TbV} {ex ex2 : List RwE}
theorem Tst.later (h : Tst w0 B tb w t v ex) (hG : Gr w w') : Tst w0 B tb w' t v ex :=
  ⟨h.gr.trans hG, h.box.later hG, h.rows.keep (fun k hk _ _ => Below.block hG k hk), h.len, ⟨h.lt.1, Nat.lt_of_lt_of_le h.lt.2 hG.size⟩, h.base⟩
theorem Tst.bsz (h : Tst w0 B tb w t v ex) : B ≤ w.heap.size := by have := h.lt; omega
theorem Tst.push (h : Tst w0 B tb w t v []) (e s : Nat) : Tst w0 B tb w t v [⟨.slice none 0 0, e, s, 0, []⟩] :=
  ⟨h.gr, h.box, by have := h.rows.push e s; rw [List.append_nil] at this; exact this, h.len, h.lt, h.base⟩
theorem Tst.growEx (h : Tst w0 B tb w t v ex) {i : Nat} {r : RwE} (hi : (rowsOf t v ++ ex)[i]? = some r) {v' : Value} {n' : Nat} {xs' : List Value}
    (hg : w.grownBy w' r.v.ownBlock) (ho : w'.ownsRow B r.e r.k v' n' xs') (hat : v'.ownBlock = r.v.ownBlock ∨ v'.ownBlock = some w.heap.size)
    (hL : rowsOf t v ++ ex2 = (rowsOf t v ++ ex).set i ⟨v', r.e, r.k, n', xs'⟩) : Tst w0 B tb w' t v ex2 := by
  have hrm := List.mem_of_getElem? hi
  have hrow : ∀ g, r.v.ownBlock = some g → B ≤ g := fun g hg => ((h.rows.own r hrm).lt g hg).1
  refine ⟨h.gr.grown hg (fun k hk => Nat.le_trans h.base (hrow k hk)), h.box.grown hg (by simp [tbC]) (fun e => h.rows.out r hrm tb e (by simp)), ?_, h.len, ⟨h.lt.1, Nat.lt_of_lt_of_le h.lt.2 hg.size⟩, h.base⟩
  rw [hL]
  exact h.rows.grow hi hg ho hat (fun x hx => by rw [List.mem_singleton.1 hx]; exact h.lt.2)
theorem Tst.grow (h : Tst w0 B tb w t v ex) {i : Nat} {r : RwE} (hi : (rowsOf t v ++ ex)[i]? = some r) {v' : Value} {n' : Nat} {xs' : List Value}
    (hg : w.grownBy w' r.v.ownBlock) (ho : w'.ownsRow B r.e r.k v' n' xs') (hat : v'.ownBlock = r.v.ownBlock ∨ v'.ownBlock = some w.heap.size) (j : Nat) (hj : j < 12)
    (hL : rowsOf t2 v2 ++ ex2 = (rowsOf t v ++ ex).set i ⟨v', r.e, r.k, n', xs'⟩) (hC : tbC t2 v2 = (tbC t v).set j v') (hlen : v2.rows.length = t2.acts.length) : Tst w0 B tb (w'.setCell ⟨tb, j, none⟩ v') t2 v2 ex2 := by
  have hrm := List.mem_of_getElem? hi
  have hrow : ∀ g, r.v.ownBlock = some g → B ≤ g := fun g hg => ((h.rows.own r hrm).lt g hg).1
  have hbox : boxAt w' tb (tbC t v) := h.box.grown hg (by simp [tbC]) (fun e => h.rows.out r hrm tb e (by simp))
  have hG : Gr w0 w' := h.gr.grown hg (fun k hk => Nat.le_trans h.base (hrow k hk))
  refine ⟨Below.setCell (p := ⟨tb, j, none⟩) hG (Nat.le_trans h.base h.lt.1) _, by rw [hC]; exact hbox.put j v' (by rw [tbC_len]; exact hj), ?_, hlen, ⟨h.lt.1, by simp [World.setCell]; exact Nat.lt_of_lt_of_le h.lt.2 hg.size⟩, h.base⟩
  rw [hL]
  exact (h.rows.grow hi hg ho hat (fun x hx => by rw [List.mem_singleton.1 hx]; exact h.lt.2)).keep (fun k _ _ hX => Below.heap_setCell w' _ v' k (fun e => hX (by rw [e]; simp)))
theorem Tst.row_own (h : Tst w0 B tb w t v ex) {i : Nat} {r : RwE} (hi : (rowsOf t v ++ ex)[i]? = some r) : w.ownsRow B r.e r.k r.v r.n r.xs := h.rows.own r (List.mem_of_getElem? hi)
theorem Tst.row_ne (h : Tst w0 B tb w t v ex) {i : Nat} {r : RwE} (hi : (rowsOf t v ++ ex)[i]? = some r) : r.v.ownBlock ≠ some tb := fun e => h.rows.out r (List.mem_of_getElem? hi) tb e (by simp)
/-- A number is laid into the tables. -/
theorem Tst.cnt (h : Tst w0 B tb w t v ex) (n : Int) : Tst w0 B tb (w.setCell ⟨tb, 5, none⟩ (.int .i64 n)) { t with count := n } v ex :=
  ⟨Below.setCell (p := ⟨tb, 5, none⟩) h.gr (Nat.le_trans h.base h.lt.1) _, h.box.put 5 _ (by rw [tbC_len]; omega), h.rows.keep (fun k _ _ hX => Below.heap_setCell w _ _ k (fun e => hX (by rw [e]; simp))), h.len, ⟨h.lt.1, by simp [World.setCell]; exact h.lt.2⟩, h.base⟩
/-- A list of the tables is none from here on. -/
theorem Tst.wipe (h : Tst w0 B tb w t v ex) (i j e k : Nat) (hj : j < 12) (hL : rowsOf t2 v2 ++ ex = (rowsOf t v ++ ex).set i ⟨.slice none 0 0, e, k, 0, []⟩) (hC : tbC t2 v2 = (tbC t v).set j (.slice none 0 0)) (hlen : v2.rows.length = t2.acts.length) :
    Tst w0 B tb (w.setCell ⟨tb, j, none⟩ (.slice none 0 0)) t2 v2 ex := by
  refine ⟨Below.setCell (p := ⟨tb, j, none⟩) h.gr (Nat.le_trans h.base h.lt.1) _, by rw [hC]; exact h.box.put j _ (by rw [tbC_len]; exact hj), ?_, hlen, ⟨h.lt.1, by simp [World.setCell]; exact h.lt.2⟩, h.base⟩
  rw [hL]
  exact (h.rows.setNil i e k).keep (fun k _ _ hX => Below.heap_setCell w _ _ k (fun e => hX (by rw [e]; simp)))
/-- A class is written. -/
theorem Tst.cls {g n cap : Nat} (h : Tst w0 B tb w t v ex) (hv : v.classes = .slice (some ⟨g, 0, none⟩) n cap) (hn : t.classes.length = n) (j : Nat) (hj : j < n) (x : Int) : Tst w0 B tb (w.setCell ⟨g, j, none⟩ (.int .i64 x)) { t with classes := t.classes.set j x } v ex := by
  have hi : (rowsOf t v ++ ex)[4]? = some ⟨.slice (some ⟨g, 0, none⟩) n cap, 3, 1, n, t.classes.map vI⟩ := by
    show some (⟨v.classes, 3, 1, t.classes.length, t.classes.map vI⟩ : RwE) = _
    rw [hv, hn]
  have hgB : B ≤ g := (World.ownsRow.lt (h.row_own hi) g rfl).1
  have hgt : g ≠ tb := fun e => h.row_ne hi (by rw [← e]; rfl)
  refine ⟨Below.setCell (p := ⟨g, j, none⟩) h.gr (Nat.le_trans h.base hgB) _, h.box.far _ _ hgt, ?_, h.len, ⟨h.lt.1, by simp [World.setCell]; exact h.lt.2⟩, h.base⟩
  have hs := h.rows.store hi j (by rw [List.length_map, hn]; exact hj) (.int .i64 x)
  have e : rowsOf { t with classes := t.classes.set j x } v ++ ex = (rowsOf t v ++ ex).set 4 ⟨.slice (some ⟨g, 0, none⟩) n cap, 3, 1, n, (t.classes.map vI).set j (.int .i64 x)⟩ := by
    simp [rowsOf, hv, hn, List.map_set, vI]
  rw [e]
  exact hs
theorem Tst.tabs (h : Tst w0 B tb w t v []) (ht : ∀ s, s ∈ t.modes ∨ s ∈ t.labels → s.length ≤ 9223372036854775807) : TbIn w t v := by
  have := h.rows
  rw [List.append_nil] at this
  exact this.tabs h.len ht
end

end Go.Proofs.YtcbfmajojkcibaaDoor
