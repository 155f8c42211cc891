/- Texts of mine, put together: NmS. No condition but what each says. -/
import Derived.Test.YtkkopdmemjncdaaGreatDoorPNmV
import Derived.Test.YtkkopdmemjncdaaGreatDoorPHf
namespace Go.Proofs.YtkkopdmemjncdaaGreatDoor
open Go Go.RowKit Go.Maps
def stepsE : List (List (Int × Int)) → List Value → List RwE
 | r :: C, u :: vs => ⟨u, 83, 2, r.length, r.flatMap prC⟩ :: stepsE C vs
 | _, _ => []
theorem stepsE_snoc : ∀ (C : List (List (Int × Int))) (vs : List Value) (r : List (Int × Int)) (u : Value), vs.length = C.length → stepsE (C ++ [r]) (vs ++ [u]) = stepsE C vs ++ [⟨u, 83, 2, r.length, r.flatMap prC⟩]
 | [], [], r, u, _ => rfl
 | [], _ :: _, _, _, h => by simp at h
 | _ :: _, [], _, _, h => by simp at h
 |
  x :: C, y :: vs, r, u, h => by
  simp only [List.cons_append, stepsE]
  rw [stepsE_snoc C vs r u (by simpa using h)]
theorem stepsE_get : ∀ (C : List (List (Int × Int))) (vs : List Value) (k : Nat) (r : List (Int × Int)), vs.length = C.length → C[k]? = some r → ∃ u, vs[k]? = some u ∧ (⟨u, 83, 2, r.length, r.flatMap prC⟩ : RwE) ∈ stepsE C vs
 | [], _, _, _, _, h => by simp at h
 | _ :: _, [], _, _, h, _ => by simp at h
 |
  x :: C, y :: vs, 0, r, _, hk => by
  simp at hk; subst hk; exact ⟨y, rfl, by simp [stepsE]⟩
 |
  x :: C, y :: vs, k + 1, r, h, hk => by
  obtain ⟨u, h1, h2⟩ := stepsE_get C vs k r (by simpa using h) (by simpa using hk)
  exact ⟨u, by simpa using h1, by simp [stepsE, h2]⟩
def nmsRows (N : List ByteArray) (A : List (List Nat)) (C : List (List (Int × Int))) (v0 v1 v3 : Value) (vs1 vs3 : List Value) : List RwE :=
 ⟨v0, 9, 1, N.length, N.map .string⟩ :: ⟨v1, 32, 1, A.length, vs1⟩ :: ⟨v3, 81, 1, C.length, vs3⟩ :: (rowsE A vs1 ++ stepsE C vs3)
structure ReI (wB : World) (nb : Nat) (N : List ByteArray) (A : List (List Nat)) (C : List (List (Int × Int))) (v0 v1 v2 v3 : Value) (vs1 vs3 : List Value) (E : List RwE) (wr : World) : Prop where
 box : boxAt wr nb [v0, v1, v2, v3]
 l1 : vs1.length = A.length
 l3 : vs3.length = C.length
 rws : Rws wr wB.heap.size [nb] (nmsRows N A C v0 v1 v3 vs1 vs3 ++ E)
 kp : KpR [nb] wB wr
 lt : nb < wB.heap.size
section
variable {wB wr w' : World} {nb : Nat} {N : List ByteArray} {A : List (List Nat)} {C : List (List (Int × Int))} {v0 v1 v2 v3 : Value} {vs1 vs3 : List Value} {E F : List RwE}
theorem ReI.later (h : ReI wB nb N A C v0 v1 v2 v3 vs1 vs3 E wr) (hG : Gr wr w') : ReI wB nb N A C v0 v1 v2 v3 vs1 vs3 E w' :=
 ⟨h.box.later hG, h.l1, h.l3, h.rws.keep (fun g hg _ _ => Below.block hG g hg), kpr1 h.kp (KpR.gr hG), h.lt⟩
theorem ReI.fresh (h : ReI wB nb N A C v0 v1 v2 v3 vs1 vs3 E wr) (hG : Gr wr w') {e z n : Nat} {u : Value} {xs : List Value} (ho : w'.ownsRow wr.heap.size e z u n xs) : ReI wB nb N A C v0 v1 v2 v3 vs1 vs3 (E ++ [⟨u, e, z, n, xs⟩]) w' := by
 have h1 := h.later hG
 refine ⟨h1.box, h1.l1, h1.l3, ?_, h1.kp, h.lt⟩
 rw [← List.append_assoc]
 exact Rws.fresh h.rws (fun g hg => Below.block hG g hg) ho h.kp.size (fun x hx => by rw [List.mem_singleton.1 hx]; exact h.box.lt (by simp))
theorem ReI.push (h : ReI wB nb N A C v0 v1 v2 v3 vs1 vs3 E wr) (e z : Nat) : ReI wB nb N A C v0 v1 v2 v3 vs1 vs3 (E ++ [⟨.slice none 0 0, e, z, 0, []⟩]) wr := by
 refine ⟨h.box, h.l1, h.l3, ?_, h.kp, h.lt⟩
 rw [← List.append_assoc]
 exact h.rws.push e z
theorem ReI.row (h : ReI wB nb N A C v0 v1 v2 v3 vs1 vs3 E wr) {r : RwE} (hr : r ∈ nmsRows N A C v0 v1 v3 vs1 vs3 ++ E) : wr.ownsRow wB.heap.size r.e r.k r.v r.n r.xs := h.rws.own r hr
theorem ReI.ne (h : ReI wB nb N A C v0 v1 v2 v3 vs1 vs3 E wr) {r : RwE} (hr : r ∈ nmsRows N A C v0 v1 v3 vs1 vs3 ++ E) : r.v.ownBlock ≠ some nb := fun e => h.rws.out r hr nb e (by simp)
theorem ReI.grow {r : RwE} (h : ReI wB nb N A C v0 v1 v2 v3 vs1 vs3 (E ++ [r]) wr) {v' : Value} {n' : Nat} {xs' : List Value}
  (hg : wr.grownBy w' r.v.ownBlock) (ho : w'.ownsRow wB.heap.size r.e r.k v' n' xs') (hat : v'.ownBlock = r.v.ownBlock ∨ v'.ownBlock = some wr.heap.size) : ReI wB nb N A C v0 v1 v2 v3 vs1 vs3 (E ++ [⟨v', r.e, r.k, n', xs'⟩]) w' := by
 have hfb := h.box.lt (by simp)
 have hr := h.row (r := r) (by simp)
 have hne := h.ne (r := r) (by simp)
 have hrw := h.rws
 rw [← List.append_assoc] at hrw
 refine ⟨h.box.grown hg (by simp) hne, h.l1, h.l3, ?_, h.kp.grown hg (fun g hg' => .inl (World.ownsRow.lt hr g hg').1), h.lt⟩
 rw [← List.append_assoc, ← set_last _ r]
 exact hrw.grow (get_last _ r) hg ho hat (fun x hx => by rw [List.mem_singleton.1 hx]; exact hfb)
theorem ReI.name (h : ReI wB nb N A C v0 v1 v2 v3 vs1 vs3 [] wr) (x : ByteArray) {v' : Value} (hg : wr.grownBy w' v0.ownBlock) (ho : w'.ownsRow wB.heap.size 9 1 v' (N.length + 1) (N.map Value.string ++ [Value.string x])) (hat : v'.ownBlock = v0.ownBlock ∨ v'.ownBlock = some wr.heap.size) :
  ReI wB nb (N ++ [x]) A C v' v1 v2 v3 vs1 vs3 [] (w'.setCell ⟨nb, 0, none⟩ v') := by
 have hfb := h.box.lt (by simp)
 have hown := h.row (r := ⟨v0, 9, 1, N.length, N.map .string⟩) (by simp [nmsRows])
 have hne := h.ne (r := ⟨v0, 9, 1, N.length, N.map .string⟩) (by simp [nmsRows])
 have hrw := h.rws.grow (i := 0) (r := ⟨v0, 9, 1, N.length, N.map .string⟩) rfl hg ho hat (fun x hx => by rw [List.mem_singleton.1 hx]; exact hfb)
 refine ⟨(h.box.grown hg (by simp) hne).put 0 v' (by simp), h.l1, h.l3, ?_, (h.kp.grown hg (fun g hg' => .inl (World.ownsRow.lt hown g hg').1)).put (.inr (by simp)) _, h.lt⟩
 have e : nmsRows (N ++ [x]) A C v' v1 v3 vs1 vs3 ++ [] = (nmsRows N A C v0 v1 v3 vs1 vs3 ++ []).set 0 (⟨v', 9, 1, N.length + 1, N.map Value.string ++ [Value.string x]⟩ : RwE) := by
  unfold nmsRows
  rw [List.map_append, List.length_append]; rfl
 rw [e]
 exact hrw.keep (fun g _ _ hg' => Below.heap_setCell w' ⟨nb, 0, none⟩ v' g (fun e => hg' (by rw [e]; simp)))
theorem ReI.act {u : Value} {row : List Nat} (h : ReI wB nb N A [] v0 v1 v2 v3 vs1 [] [⟨u, 3, 1, row.length, row.map natV⟩] wr) {v' : Value} (hg : wr.grownBy w' v1.ownBlock) (ho : w'.ownsRow wB.heap.size 32 1 v' (A.length + 1) (vs1 ++ [u])) (hat : v'.ownBlock = v1.ownBlock ∨ v'.ownBlock = some wr.heap.size) :
  ReI wB nb N (A ++ [row]) [] v0 v' v2 v3 (vs1 ++ [u]) [] [] (w'.setCell ⟨nb, 1, none⟩ v') := by
 have hfb := h.box.lt (by simp)
 have hown := h.row (r := ⟨v1, 32, 1, A.length, vs1⟩) (by simp [nmsRows])
 have hne := h.ne (r := ⟨v1, 32, 1, A.length, vs1⟩) (by simp [nmsRows])
 have hrw := h.rws.grow (i := 1) (r := ⟨v1, 32, 1, A.length, vs1⟩) rfl hg ho hat (fun x hx => by rw [List.mem_singleton.1 hx]; exact hfb)
 refine ⟨(h.box.grown hg (by simp) hne).put 1 v' (by simp), by rw [List.length_append, List.length_append, h.l1]; rfl, h.l3, ?_, (h.kp.grown hg (fun g hg' => .inl (World.ownsRow.lt hown g hg').1)).put (.inr (by simp)) _, h.lt⟩
 have e : nmsRows N (A ++ [row]) [] v0 v' v3 (vs1 ++ [u]) [] ++ [] = (nmsRows N A [] v0 v1 v3 vs1 [] ++ ([⟨u, 3, 1, row.length, row.map natV⟩] : List RwE)).set 1 (⟨v', 32, 1, A.length + 1, vs1 ++ [u]⟩ : RwE) := by
  unfold nmsRows
  rw [rowsE_snoc _ _ _ _ h.l1, List.length_append]
  simp [stepsE]
 rw [e]
 exact hrw.keep (fun g _ _ hg' => Below.heap_setCell w' ⟨nb, 1, none⟩ v' g (fun e => hg' (by rw [e]; simp)))
theorem ReI.acts {u : Value} {row : List (Int × Int)} {m : Nat} (h : ReI wB nb N A C v0 v1 v2 v3 vs1 vs3 [⟨u, 83, 2, m, row.flatMap prC⟩] wr) (hm : row.length = m) {v' : Value} (hg : wr.grownBy w' v3.ownBlock) (ho : w'.ownsRow wB.heap.size 81 1 v' (C.length + 1) (vs3 ++ [u])) (hat : v'.ownBlock = v3.ownBlock ∨ v'.ownBlock = some wr.heap.size) :
  ReI wB nb N A (C ++ [row]) v0 v1 v2 v' vs1 (vs3 ++ [u]) [] (w'.setCell ⟨nb, 3, none⟩ v') := by
 subst hm
 have hfb := h.box.lt (by simp)
 have hown := h.row (r := ⟨v3, 81, 1, C.length, vs3⟩) (by simp [nmsRows])
 have hne := h.ne (r := ⟨v3, 81, 1, C.length, vs3⟩) (by simp [nmsRows])
 have hrw := h.rws.grow (i := 2) (r := ⟨v3, 81, 1, C.length, vs3⟩) rfl hg ho hat (fun x hx => by rw [List.mem_singleton.1 hx]; exact hfb)
 refine ⟨(h.box.grown hg (by simp) hne).put 3 v' (by simp), h.l1, by rw [List.length_append, List.length_append, h.l3]; rfl, ?_, (h.kp.grown hg (fun g hg' => .inl (World.ownsRow.lt hown g hg').1)).put (.inr (by simp)) _, h.lt⟩
 have e : nmsRows N A (C ++ [row]) v0 v1 v' vs1 (vs3 ++ [u]) ++ [] = (nmsRows N A C v0 v1 v3 vs1 vs3 ++ ([⟨u, 83, 2, row.length, row.flatMap prC⟩] : List RwE)).set 2 (⟨v', 81, 1, C.length + 1, vs3 ++ [u]⟩ : RwE) := by
  unfold nmsRows
  rw [stepsE_snoc _ _ _ _ h.l3, List.length_append]
  simp
 rw [e]
 exact hrw.keep (fun g _ _ hg' => Below.heap_setCell w' ⟨nb, 3, none⟩ v' g (fun e => hg' (by rw [e]; simp)))
end
theorem grown_set (w : World) (g j : Nat) (v : Value) : w.grownBy (w.setCell ⟨g, j, none⟩ v) (some g) :=
 ⟨rfl, rfl, rfl, by simp [World.setCell], fun k _ hne => Below.heap_setCell w ⟨g, j, none⟩ v k (fun e => hne (by rw [e]))⟩
theorem steps_set (l : List (Int × Int)) (a b : Int) : ((l ++ [(a, b)]).flatMap prC).set (l.length * 2 + 1) (.int .i64 0) = (l ++ [(a, 0)]).flatMap prC := by
 rw [List.flatMap_append, List.flatMap_append]
 have hl : (l.flatMap prC).length = l.length * 2 := flatMap_len prC 2 (fun _ => rfl) l
 rw [List.set_append_right _ _ (by omega), hl, show l.length * 2 + 1 - l.length * 2 = 1 by omega]; rfl
set_option maxRecDepth 100000 in
theorem info_stepN : (Tryz.prog.info? 83).map (fun i => (i.zero, i.size, i.bytes)) = some (some (.agg #[.int .i64 0, .int .i64 0]), 2, 16) := by kernel_rfl
set_option maxRecDepth 100000 in
theorem info_stepsN : (Tryz.prog.info? 81).map (fun i => (i.zero, i.size, i.bytes)) = some (some (.slice none 0 0), 1, 24) := by kernel_rfl
end Go.Proofs.YtkkopdmemjncdaaGreatDoor
