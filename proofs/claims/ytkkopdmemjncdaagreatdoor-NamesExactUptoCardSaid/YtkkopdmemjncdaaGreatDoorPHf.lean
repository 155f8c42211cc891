/- Texts of mine, put together: Rws, NmX, AppAt. No condition but what each says. -/
import Derived.Test.YtkkopdmemjncdaaGreatDoorPGb
import Derived.Test.YtkkopdmemjncdaaGreatDoorPHi
import Derived.Test.YtkkopdmemjncdaaGreatDoorPHe
import Derived.Sort.OwnSortedInts
import Derived.Test.YtkkopdmemjncdaaGreatDoorPGa
import Derived.Maps.AppendAt
namespace Go.Proofs.YtkkopdmemjncdaaGreatDoor
open Go Go.RowKit
structure RwE where
 v : Value
 e : TypeId
 k : Nat
 n : Nat
 xs : List Value
structure Rws (w : World) (B : Nat) (X : List Nat) (L : List RwE) : Prop where
 own : ∀ r ∈ L, w.ownsRow B r.e r.k r.v r.n r.xs
 apart : L.Pairwise fun r s => ∀ g, r.v.ownBlock = some g → s.v.ownBlock ≠ some g
 out : ∀ r ∈ L, ∀ g, r.v.ownBlock = some g → g ∉ X
theorem Rws.keep {w w' : World} {B : Nat} {X : List Nat} {L : List RwE} (h : Rws w B X L) (hb : ∀ k, k < w.heap.size → B ≤ k → k ∉ X → w'.heap[k]? = w.heap[k]?) : Rws w' B X L :=
 ⟨fun r hr => owns_heap (h.own r hr) (fun g hg => by
  have := (h.own r hr).lt g hg
  exact hb g this.2 this.1 (h.out r hr g hg)), h.apart, h.out⟩
theorem Rws.addX {w : World} {B x : Nat} {X : List Nat} {L : List RwE} (h : Rws w B X L) (hx : w.heap.size ≤ x) : Rws w B (x :: X) L :=
 ⟨h.own, h.apart, fun r hr g hg => by
  have := (h.own r hr).lt g hg
  intro hm
  rcases List.mem_cons.1 hm with rfl | hm
  · omega
  · exact h.out r hr g hg hm⟩
theorem Rws.dropX {w : World} {B x : Nat} {X : List Nat} {L : List RwE} (h : Rws w B (x :: X) L) : Rws w B X L :=
 ⟨h.own, h.apart, fun r hr g hg hm => h.out r hr g hg (List.mem_cons_of_mem _ hm)⟩
theorem Rws.push {w : World} {B : Nat} {X : List Nat} {L : List RwE} (h : Rws w B X L) (e k : Nat) : Rws w B X (L ++ [⟨.slice none 0 0, e, k, 0, []⟩]) :=
 ⟨fun r hr => by
  rcases List.mem_append.1 hr with hr | hr
  · exact h.own r hr
  ·
   rw [List.mem_singleton] at hr; subst hr; exact World.ownsRow_nil w B e k, List.pairwise_append.2 ⟨h.apart, List.pairwise_singleton _ _, fun r _ s hs g _ => by
   rw [List.mem_singleton] at hs; subst hs; intro e; cases e⟩, fun r hr g hg => by
  rcases List.mem_append.1 hr with hr | hr
  · exact h.out r hr g hg
  · rw [List.mem_singleton] at hr; subst hr; cases hg⟩
theorem pairwise_set {α : Type} {R : α → α → Prop} : ∀ {l : List α} {i : Nat} {a : α}, l.Pairwise R → (∀ j x, l[j]? = some x → j < i → R x a) → (∀ j x, l[j]? = some x → i < j → R a x) → (l.set i a).Pairwise R
 | [], _, _, h, _, _ => by simp
 |
  b :: l, 0, a, h, _, h2 => by
  rw [List.set_cons_zero]
  rw [List.pairwise_cons] at h ⊢
  refine ⟨fun x hx => ?_, h.2⟩
  obtain ⟨j, hj, rfl⟩ := List.mem_iff_getElem.1 hx
  exact h2 (j + 1) _ (by simp [List.getElem?_eq_getElem hj]) (by omega)
 |
  b :: l, i + 1, a, h, h1, h2 => by
  rw [List.set_cons_succ]
  rw [List.pairwise_cons] at h ⊢
  refine ⟨fun x hx => ?_, pairwise_set h.2 (fun j x hj hl => h1 (j + 1) x (by simpa using hj) (by omega)) (fun j x hj hl => h2 (j + 1) x (by simpa using hj) (by omega))⟩
  rcases List.mem_or_eq_of_mem_set hx with hx | rfl
  · exact h.1 x hx
  · exact h1 0 b (by simp) (by omega)
theorem
    Rws.grow {w w' : World} {B : Nat} {X : List Nat} {L : List RwE} (h : Rws w B X L) {i : Nat} {r : RwE} (hi : L[i]? = some r) {v' : Value} {n' : Nat} {xs' : List Value}
  (hg : w.grownBy w' r.v.ownBlock) (ho : w'.ownsRow B r.e r.k v' n' xs') (hat : v'.ownBlock = r.v.ownBlock ∨ v'.ownBlock = some w.heap.size) (hX : ∀ x ∈ X, x < w.heap.size) :
  Rws w' B X (L.set i ⟨v', r.e, r.k, n', xs'⟩) := by
 have hrm := List.mem_of_getElem? hi
 have hp := List.pairwise_iff_getElem.1 h.apart
 obtain ⟨hil, hie⟩ := List.getElem?_eq_some_iff.1 hi
 have hne : ∀ j x, L[j]? = some x → j ≠ i → ∀ g, x.v.ownBlock = some g → r.v.ownBlock ≠ some g := fun j x hj hji g hg hr => by
  obtain ⟨hjl, hje⟩ := List.getElem?_eq_some_iff.1 hj
  rcases Nat.lt_or_ge j i with h1 | h1
  · exact hp j i hjl hil h1 g (by rw [hje]; exact hg) (by rw [hie]; exact hr)
  · exact hp i j hil hjl (by omega) g (by rw [hie]; exact hr) (by rw [hje]; exact hg)
 have hlt : ∀ x ∈ L, ∀ g, x.v.ownBlock = some g → g < w.heap.size := fun x hx g hg => ((h.own x hx).lt g hg).2
 refine ⟨fun x hx => ?_, pairwise_set h.apart (fun j x hj hl g hg => ?_) (fun j x hj hl g hg => ?_), fun x hx g hg => ?_⟩
 ·
  obtain ⟨j, hj, hje⟩ := List.mem_iff_getElem.1 hx
  rw [List.length_set] at hj
  by_cases hji : j = i
  ·
   subst hji
   rw [List.getElem_set_self] at hje
   subst hje; exact ho
  ·
   rw [List.getElem_set_ne (Ne.symm hji)] at hje
   have hjq : L[j]? = some x := by rw [List.getElem?_eq_getElem hj, hje]
   refine owns_heap (h.own x (List.mem_of_getElem? hjq)) (fun g hgx => ?_)
   exact hg.block g (hlt x (List.mem_of_getElem? hjq) g hgx) (fun e => hne j x hjq hji g hgx e.symm)
 ·
  have h1 := hne j x hj (by omega) g hg
  rcases hat with h2 | h2
  ·
   show v'.ownBlock ≠ some g
   rw [h2]; exact h1
  ·
   show v'.ownBlock ≠ some g
   rw [h2]; intro e; injection e with e
   have := hlt x (List.mem_of_getElem? hj) g hg; omega
 ·
  have hg' : v'.ownBlock = some g := hg
  intro hx
  rcases hat with h2 | h2
  · exact hne j x hj (by omega) g hx (by rw [← h2]; exact hg')
  ·
   rw [h2] at hg'; injection hg' with hg'
   have := hlt x (List.mem_of_getElem? hj) g hx; omega
 ·
  rcases List.mem_or_eq_of_mem_set hx with hx | rfl
  · exact h.out x hx g hg
  ·
   have hg' : v'.ownBlock = some g := hg
   rcases hat with h2 | h2
   · exact h.out r hrm g (by rw [← h2]; exact hg')
   ·
    rw [h2] at hg'; injection hg' with hg'
    intro hm
    have := hX g hm; omega
theorem Rws.fresh {w w' : World} {B : Nat} {X : List Nat} {L : List RwE} {e k n : Nat} {v : Value} {xs : List Value} (h : Rws w B X L) (hb : ∀ g, g < w.heap.size → w'.heap[g]? = w.heap[g]?)
  (ho : w'.ownsRow w.heap.size e k v n xs) (hB : B ≤ w.heap.size) (hX : ∀ x ∈ X, x < w.heap.size) : Rws w' B X (L ++ [⟨v, e, k, n, xs⟩]) := by
 have h1 := h.keep (w' := w') (fun g hg _ _ => hb g hg)
 refine ⟨fun r hr => ?_, List.pairwise_append.2 ⟨h1.apart, List.pairwise_singleton _ _, fun r hr s hs g hg e2 => ?_⟩, fun r hr g hg => ?_⟩
 ·
  rcases List.mem_append.1 hr with hr | hr
  · exact h1.own r hr
  · rw [List.mem_singleton] at hr; subst hr; exact own_mono ho hB
 ·
  rw [List.mem_singleton] at hs; subst hs
  have a1 := ((h.own r hr).lt g hg).2
  have a2 := (World.ownsRow.lt ho g e2).1
  omega
 ·
  rcases List.mem_append.1 hr with hr | hr
  · exact h1.out r hr g hg
  ·
   rw [List.mem_singleton] at hr; subst hr
   intro hm
   have a1 := hX g hm
   have a2 := (World.ownsRow.lt ho g hg).1
   omega
theorem Rws.sub {w : World} {B : Nat} {X : List Nat} {L M : List RwE} (h : Rws w B X L) (hs : M.Sublist L) : Rws w B X M :=
 ⟨fun r hr => h.own r (hs.subset hr), h.apart.sublist hs, fun r hr => h.out r (hs.subset hr)⟩
theorem Rws.nilX (w : World) (B : Nat) (X : List Nat) : Rws w B X [] := ⟨fun r hr => (by cases hr), List.Pairwise.nil, fun r hr => (by cases hr)⟩
theorem Rws.low {w : World} {B B' : Nat} {X : List Nat} {L : List RwE} (h : Rws w B X L) (hB : B' ≤ B) : Rws w B' X L := ⟨fun r hr => own_mono (h.own r hr) hB, h.apart, h.out⟩
end Go.Proofs.YtkkopdmemjncdaaGreatDoor
namespace Go.Proofs.YtkkopdmemjncdaaGreatDoor
open Go Go.RowKit
def natV (n : Nat) : Value := .int .i64 (n : Int)
def rowsE : List (List Nat) → List Value → List RwE
 | r :: U, u :: vs => ⟨u, 3, 1, r.length, r.map natV⟩ :: rowsE U vs
 | _, _ => []
theorem rowsE_snoc : ∀ (U : List (List Nat)) (vs : List Value) (r : List Nat) (u : Value), vs.length = U.length → rowsE (U ++ [r]) (vs ++ [u]) = rowsE U vs ++ [⟨u, 3, 1, r.length, r.map natV⟩]
 | [], [], r, u, _ => rfl
 | [], _ :: _, _, _, h => by simp at h
 | _ :: _, [], _, _, h => by simp at h
 |
  x :: U, y :: vs, r, u, h => by
  simp only [List.cons_append, rowsE]
  rw [rowsE_snoc U vs r u (by simpa using h)]
theorem rowsE_get : ∀ (U : List (List Nat)) (vs : List Value) (k : Nat) (r : List Nat), vs.length = U.length → U[k]? = some r → ∃ u, vs[k]? = some u ∧ (⟨u, 3, 1, r.length, r.map natV⟩ : RwE) ∈ rowsE U vs
 | [], _, _, _, _, h => by simp at h
 | _ :: _, [], _, _, h, _ => by simp at h
 |
  x :: U, y :: vs, 0, r, _, hk => by
  simp at hk; subst hk; exact ⟨y, rfl, by simp [rowsE]⟩
 |
  x :: U, y :: vs, k + 1, r, h, hk => by
  obtain ⟨u, h1, h2⟩ := rowsE_get U vs k r (by simpa using h) (by simpa using hk)
  exact ⟨u, by simpa using h1, by simp [rowsE, h2]⟩
structure RowsN (w : World) (v : Value) (U : List (List Nat)) : Prop where
 sl : ∃ vs : List Value, vs.length = U.length ∧ Sl w v 1 U.length vs ∧ ∀ (k : Nat) (r : List Nat), U[k]? = some r → ∃ u, vs[k]? = some u ∧ Sl w u 1 r.length (r.map natV)
theorem RowsN.later {w w' : World} {v : Value} {U : List (List Nat)} (h : RowsN w v U) (hG : Gr w w') : RowsN w' v U := by
 obtain ⟨vs, h1, h2, h3⟩ := h.sl
 exact ⟨vs, h1, h2.later hG, fun k r hk => by
  obtain ⟨u, h4, h5⟩ := h3 k r hk
  exact ⟨u, h4, h5.later hG⟩⟩
theorem RowsN.of_rws {w : World} {B : Nat} {X : List Nat} {v : Value} {U : List (List Nat)} {vs : List Value} {L : List RwE} (hl : vs.length = U.length) (h : Rws w B X L) (h1 : (⟨v, 32, 1, U.length, vs⟩ : RwE) ∈ L) (h2 : ∀ r ∈ rowsE U vs, r ∈ L) : RowsN w v U :=
 ⟨vs, hl, Sl.of_owns (h.own _ h1), fun k r hk => by
  obtain ⟨u, h3, h4⟩ := rowsE_get U vs k r hl hk
  exact ⟨u, h3, Sl.of_owns (h.own _ (h2 _ h4))⟩⟩
theorem RowsN.row {w : World} {p : Option Addr} {c n : Nat} {U : List (List Nat)} (h : RowsN w (.slice p n c) U) {k : Nat} {r : List Nat} (hk : U[k]? = some r) : ∃ b off u, p = some ⟨b, off, none⟩ ∧ b < w.heap.size ∧ w.cell? ⟨b, off + k, none⟩ = some u ∧ Sl w u 1 r.length (r.map natV) := by
 obtain ⟨vs, hl, hs, hr⟩ := h.sl
 obtain ⟨u, hu, hsu⟩ := hr k r hk
 have hkl := (List.getElem?_eq_some_iff.1 hk).1
 obtain ⟨_, _, ⟨_, h0⟩ | ⟨b, off, cap, hv, hb, hc⟩⟩ := hs
 · omega
 ·
  injection hv with hp _ _
  exact ⟨b, off, u, hp, hb (by omega), hc k u hu, hsu⟩
theorem num_at {w : World} {p : Option Addr} {n c : Nat} {r : List Nat} (h : Sl w (.slice p n c) 1 r.length (r.map natV)) {k x : Nat} (hk : r[k]? = some x) : ∃ b off, p = some ⟨b, off, none⟩ ∧ b < w.heap.size ∧ w.cell? ⟨b, off + k, none⟩ = some (.int .i64 (x : Int)) := by
 have hkl := (List.getElem?_eq_some_iff.1 hk).1
 obtain ⟨_, _, ⟨_, h0⟩ | ⟨b, off, cap, hv, hb, hc⟩⟩ := h
 · omega
 ·
  injection hv with hp _ _
  exact ⟨b, off, hp, hb (by omega), hc k (natV x) (by rw [List.getElem?_map, hk]; rfl)⟩
def srtN (l : List Nat) : List Nat := l.mergeSort (fun x y => decide (x ≤ y))
theorem srtN_len (l : List Nat) : (srtN l).length = l.length := List.length_mergeSort l
theorem srtN_mem {l : List Nat} {x : Nat} : x ∈ srtN l ↔ x ∈ l := List.mem_mergeSort
theorem srtN_nil : srtN [] = [] := by unfold srtN; simp
theorem srtN_map (l : List Nat) : (l.map (fun n : Nat => (n : Int))).mergeSort (fun x y => decide (x ≤ y)) = (srtN l).map (fun n : Nat => (n : Int)) := by
 unfold srtN
 rw [List.map_mergeSort (s := fun x y : Int => decide (x ≤ y))]
 intro a _ b _
 exact decide_eq_decide.2 (by omega)
def linksS (s : Sc) : List (List Nat) := (linksN s).map srtN
theorem natV_map (l : List Nat) : l.map natV = (l.map (fun n : Nat => (n : Int))).map (Value.int .i64) := by rw [List.map_map]; rfl
theorem sortN_any (l : List Nat) (v : Value) (B e : Nat) (w : World) (h : w.ownsRow B e 1 v l.length (l.map natV)) (hl : l.length ≤ 1048576) :
  Calls Tryz.prog 82 #[v] w fun e' w' => e' = .returned (.tuple #[]) ∧ w'.ownsRow B e 1 v l.length ((srtN l).map natV) ∧ w.grownBy w' v.ownBlock := by
 have h0 := h
 obtain ⟨h1, ⟨rfl, hn⟩ | ⟨g, cap, cur, rfl, hb, hh, h3, h4, h5, h6⟩⟩ := h
 ·
  have hnil : l = [] := List.eq_nil_of_length_eq_zero hn
  subst hnil
  refine (Tryz.slices_Sort_int_none none 0 w).mono ?_
  rintro e' w' ⟨rfl, rfl⟩
  exact ⟨rfl, by rw [srtN_nil]; exact h0, World.grownBy.refl _ _⟩
 ·
  have hg := (Array.getElem?_eq_some_iff.1 hh).1
  have hH := holds_of_blockI (ss := l.map (fun n : Nat => (n : Int))) hh (by rw [List.length_map, ← natV_map, ← h6, Nat.mul_one])
  have hc := Tryz.slices_Sort_int g 0 cap (l.map (fun n : Nat => (n : Int))) w hH hg (by rw [List.length_map]; omega)
  rw [List.length_map] at hc
  refine hc.mono ?_
  rintro e' w' ⟨rfl, n, os, rfl⟩
  have hlen : ((l.map (fun n : Nat => (n : Int))).mergeSort (fun x y => decide (x ≤ y))).length = (l.map (fun n : Nat => (n : Int))).length := List.length_mergeSort _
  refine ⟨rfl, ?_, grownBy_sortedI _⟩
  have := ownsRow_sortedI (n := n) (os := os) hlen hb hh (by rw [List.length_map]; exact h3) h4 h5
  rw [List.length_map] at this
  rw [natV_map, ← srtN_map]
  exact this
theorem freeN_srt (U : List (List Nat)) (l : List Nat) (i : Nat) : freeN (U.map srtN) l i = freeN U l i := by
 unfold freeN
 congr 1
 rw [List.getElem?_map]
 cases U[i]? with
 | none => rfl
 |
  some r =>
  rw [Bool.eq_iff_iff]
  show (srtN r).all _ = true ↔ r.all _ = true
  rw [List.all_eq_true, List.all_eq_true]
  exact ⟨fun h x hx => h x (srtN_mem.2 hx), fun h x hx => h x (srtN_mem.1 hx)⟩
theorem orderN_srt (U : List (List Nat)) : ∀ (n : Nat) (l : List Nat), orderN (U.map srtN) n l = orderN U n l
 | 0, l => rfl
 |
  n + 1, l => by
  rw [orderN, orderN, List.length_map]
  have e : freeN (U.map srtN) l = freeN U l := funext fun i => freeN_srt U l i
  rw [e]
  cases (List.range U.length).find? (freeN U l) with
  | none => rfl
  | some i => exact orderN_srt U n _
end Go.Proofs.YtkkopdmemjncdaaGreatDoor
namespace Go.Proofs.YtkkopdmemjncdaaGreatDoor
open Go Go.RowKit
theorem wp_append_at {P : Program} (w : World) {o : Oper} {a : Act} {K : Act → World → Prop} {Q : Exit → Act → World → Prop} (s x : Operand) (t : TypeId)
  (ho : o.op = .call { callee := .builtin .append, args := #[s, x], argTypes := #[t, t] })
  (base : Nat) (e : TypeId) (i : TypeInfo) (z : Value) (size bytes : Nat) (ht : P.underlying t = some (.slice e)) (hi : P.info? e = some i) (hz : i.zero = some z)
  (hsize : i.size = size) (hby : i.bytes = bytes) (hzs : z.cells.size = size) (hsz : 0 < size)
  (v : Value) (n : Nat) (xs : List Value) (hs : a.eval s = v) (hown : w.ownsRow base e size v n xs)
  (ad : Addr) (m c : Nat) (news : List Value) (hx : a.eval x = .slice (some ad) m c) (hl : news.length = m * size) (hnews : ∀ j u, news[j]? = some u → w.cell? (ad.add j) = some u) (h1 : ∀ u ∈ news, u.oneCell' = true)
  (h63 : n + m ≤ maxLen) (hbytes : (n + m) * bytes ≤ 140737488355328) (hbase : base ≤ w.heap.size)
  (h : ∀ v' w', w'.ownsRow base e size v' (n + m) (xs ++ news) → w.grownBy w' v.ownBlock → (v'.ownBlock = v.ownBlock ∨ v'.ownBlock = some w.heap.size) → K (a.put o.dst v') w') : o.wp P a w K Q := by
 obtain ⟨v', w', hr, h2, h3, h4, h5⟩ := run_append_own_at (P := P) w base t o.type e i z size bytes ht hi hz hsize hby hzs hsz v n xs hown ad m c news hl hnews h1 h63 hbytes hbase
 unfold Oper.wp execOp
 simp only [ho, resolve, invoke, builtin, Sem.run_bind, Sem.run_pure, Result.andThen_ok, List.map_toArray, List.map_cons, List.map_nil, hs, hx, hr]
 exact h v' w' h2 h3 h5
end Go.Proofs.YtkkopdmemjncdaaGreatDoor
