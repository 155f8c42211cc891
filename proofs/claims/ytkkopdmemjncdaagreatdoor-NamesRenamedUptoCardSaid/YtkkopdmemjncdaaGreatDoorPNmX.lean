/- Rows of rows of numbers; slices.Sort of a row of the call's own. A bound of how many there are. -/
import Derived.Test.YtkkopdmemjncdaaGreatDoorPHf
import Derived.Test.YtkkopdmemjncdaaGreatDoorPHi
import Derived.Test.YtkkopdmemjncdaaGreatDoorPHe
import Derived.Test.YtkkopdmemjncdaaGreatDoorPGb
import Derived.Sort.OwnSortedInts
namespace Go.Proofs.YtkkopdmemjncdaaGreatDoor
open Go Go.RowKit

def natV (n : Nat) : Value := .int .i64 (n : Int)
/-- The rows that these values are. -/
def rowsE : List (List Nat) → List Value → List RwE
  | r :: U, u :: vs => ⟨u, 3, 1, r.length, r.map natV⟩ :: rowsE U vs
  | _, _ => []
theorem rowsE_snoc : ∀ (U : List (List Nat)) (vs : List Value) (r : List Nat) (u : Value), vs.length = U.length → rowsE (U ++ [r]) (vs ++ [u]) = rowsE U vs ++ [⟨u, 3, 1, r.length, r.map natV⟩]
  | [], [], r, u, _ => rfl
  | [], _ :: _, _, _, h => by simp at h
  | _ :: _, [], _, _, h => by simp at h
  | x :: U, y :: vs, r, u, h => by
    simp only [List.cons_append, rowsE]
    rw [rowsE_snoc U vs r u (by simpa using h)]
theorem rowsE_get : ∀ (U : List (List Nat)) (vs : List Value) (k : Nat) (r : List Nat), vs.length = U.length → U[k]? = some r → ∃ u, vs[k]? = some u ∧ (⟨u, 3, 1, r.length, r.map natV⟩ : RwE) ∈ rowsE U vs
  | [], _, _, _, _, h => by simp at h
  | _ :: _, [], _, _, h, _ => by simp at h
  | x :: U, y :: vs, 0, r, _, hk => by
    simp at hk; subst hk; exact ⟨y, rfl, by simp [rowsE]⟩
  | x :: U, y :: vs, k + 1, r, h, hk => by
    obtain ⟨u, h1, h2⟩ := rowsE_get U vs k r (by simpa using h) (by simpa using hk)
    exact ⟨u, by simpa using h1, by simp [rowsE, h2]⟩
/-- Rows of numbers in memory, to be read. -/
structure RowsN (w : World) (v : Value) (U : List (List Nat)) : Prop where
  sl : ∃ vs : List Value, vs.length = U.length ∧ Sl w v 1 U.length vs ∧ ∀ (k : Nat) (r : List Nat), U[k]? = some r → ∃ u, vs[k]? = some u ∧ Sl w u 1 r.length (r.map natV)
theorem RowsN.later {w w' : World} {v : Value} {U : List (List Nat)} (h : RowsN w v U) (hG : Gr w w') : RowsN w' v U := by
  obtain ⟨vs, h1, h2, h3⟩ := h.sl
  exact ⟨vs, h1, h2.later hG, fun k r hk => by
    obtain ⟨u, h4, h5⟩ := h3 k r hk
    exact ⟨u, h4, h5.later hG⟩⟩
theorem RowsN.of_rws {w : World} {B : Nat} {X : List Nat} {v : Value} {U : List (List Nat)} {vs : List Value} {L : List RwE} (hl : vs.length = U.length) (h : Rws w B X L) (h1 : (⟨v, 32, 1, U.length, vs⟩ : RwE) ∈ L) (h2 : ∀ r ∈ rowsE U vs, r ∈ L) : RowsN w v U :=
  ⟨vs, hl, Sl.of_owns (h.own _ h1), fun k r hk => by
    obtain ⟨u, h3, h4⟩ := rowsE_get U vs k r hl hk
    exact ⟨u, h3, Sl.of_owns (h.own _ (h2 _ h4))⟩⟩
/-- A row, and where its numbers lie. -/
theorem RowsN.row {w : World} {p : Option Addr} {c n : Nat} {U : List (List Nat)} (h : RowsN w (.slice p n c) U) {k : Nat} {r : List Nat} (hk : U[k]? = some r) : ∃ b off u, p = some ⟨b, off, none⟩ ∧ b < w.heap.size ∧ w.cell? ⟨b, off + k, none⟩ = some u ∧ Sl w u 1 r.length (r.map natV) := by
  obtain ⟨vs, hl, hs, hr⟩ := h.sl
  obtain ⟨u, hu, hsu⟩ := hr k r hk
  have hkl := (List.getElem?_eq_some_iff.1 hk).1
  obtain ⟨_, _, ⟨_, h0⟩ | ⟨b, off, cap, hv, hb, hc⟩⟩ := hs
  · omega
  · injection hv with hp _ _
    exact ⟨b, off, u, hp, hb (by omega), hc k u hu, hsu⟩
theorem num_at {w : World} {p : Option Addr} {n c : Nat} {r : List Nat} (h : Sl w (.slice p n c) 1 r.length (r.map natV)) {k x : Nat} (hk : r[k]? = some x) : ∃ b off, p = some ⟨b, off, none⟩ ∧ b < w.heap.size ∧ w.cell? ⟨b, off + k, none⟩ = some (.int .i64 (x : Int)) := by
  have hkl := (List.getElem?_eq_some_iff.1 hk).1
  obtain ⟨_, _, ⟨_, h0⟩ | ⟨b, off, cap, hv, hb, hc⟩⟩ := h
  · omega
  · injection hv with hp _ _
    exact ⟨b, off, hp, hb (by omega), hc k (natV x) (by rw [List.getElem?_map, hk]; rfl)⟩

/-- Numbers, sorted. -/
def srtN (l : List Nat) : List Nat := l.mergeSort (fun x y => decide (x ≤ y))
theorem srtN_len (l : List Nat) : (srtN l).length = l.length := List.length_mergeSort l
theorem srtN_mem {l : List Nat} {x : Nat} : x ∈ srtN l ↔ x ∈ l := List.mem_mergeSort
theorem srtN_nil : srtN [] = [] := by unfold srtN; simp
theorem srtN_map (l : List Nat) : (l.map (fun n : Nat => (n : Int))).mergeSort (fun x y => decide (x ≤ y)) = (srtN l).map (fun n : Nat => (n : Int)) := by
  unfold srtN
  rw [List.map_mergeSort (s := fun x y : Int => decide (x ≤ y))]
  intro a _ b _
  exact decide_eq_decide.2 (by omega)
def linksS (s : Sc) : List (List Nat) := (linksN s).map srtN
theorem natV_map (l : List Nat) : l.map natV = (l.map (fun n : Nat => (n : Int))).map (Value.int .i64) := by rw [List.map_map]; rfl
theorem sortN_any (l : List Nat) (v : Value) (B e : Nat) (w : World) (h : w.ownsRow B e 1 v l.length (l.map natV)) (hl : l.length ≤ 1048576) :
    Calls Tryz.prog 82 #[v] w fun e' w' => e' = .returned (.tuple #[]) ∧ w'.ownsRow B e 1 v l.length ((srtN l).map natV) ∧ w.grownBy w' v.ownBlock := by
  have h0 := h
  obtain ⟨h1, ⟨rfl, hn⟩ | ⟨g, cap, cur, rfl, hb, hh, h3, h4, h5, h6⟩⟩ := h
  · have hnil : l = [] := List.eq_nil_of_length_eq_zero hn
    subst hnil
    refine (Tryz.slices_Sort_int_none none 0 w).mono ?_
    rintro e' w' ⟨rfl, rfl⟩
    exact ⟨rfl, by rw [srtN_nil]; exact h0, World.grownBy.refl _ _⟩
  · have hg := (Array.getElem?_eq_some_iff.1 hh).1
    have hH := holds_of_blockI (ss := l.map (fun n : Nat => (n : Int))) hh (by rw [List.length_map, ← natV_map, ← h6, Nat.mul_one])
    have hc := Tryz.slices_Sort_int g 0 cap (l.map (fun n : Nat => (n : Int))) w hH hg (by rw [List.length_map]; omega)
    rw [List.length_map] at hc
    refine hc.mono ?_
    rintro e' w' ⟨rfl, n, os, rfl⟩
    have hlen : ((l.map (fun n : Nat => (n : Int))).mergeSort (fun x y => decide (x ≤ y))).length = (l.map (fun n : Nat => (n : Int))).length := List.length_mergeSort _
    refine ⟨rfl, ?_, grownBy_sortedI _⟩
    have := ownsRow_sortedI (n := n) (os := os) hlen hb hh (by rw [List.length_map]; exact h3) h4 h5
    rw [List.length_map] at this
    rw [natV_map, ← srtN_map]
    exact this
/-- The order asks only what stands in a row. -/
theorem freeN_srt (U : List (List Nat)) (l : List Nat) (i : Nat) : freeN (U.map srtN) l i = freeN U l i := by
  unfold freeN
  congr 1
  rw [List.getElem?_map]
  cases U[i]? with
  | none => rfl
  | some r =>
    rw [Bool.eq_iff_iff]
    show (srtN r).all _ = true ↔ r.all _ = true
    rw [List.all_eq_true, List.all_eq_true]
    exact ⟨fun h x hx => h x (srtN_mem.2 hx), fun h x hx => h x (srtN_mem.1 hx)⟩
theorem orderN_srt (U : List (List Nat)) : ∀ (n : Nat) (l : List Nat), orderN (U.map srtN) n l = orderN U n l
  | 0, l => rfl
  | n + 1, l => by
    rw [orderN, orderN, List.length_map]
    have e : freeN (U.map srtN) l = freeN U l := funext fun i => freeN_srt U l i
    rw [e]
    cases (List.range U.length).find? (freeN U l) with
    | none => rfl
    | some i => exact orderN_srt U n _

end Go.Proofs.YtkkopdmemjncdaaGreatDoor
