/- Texts of mine, put together: Reg, Win, NmHas, NmZ, NmAt, NmL, NmOr, NmRe, NmWy. No condition but what each says. -/
import Derived.Test.YtkkopdmemjncdaaGreatDoorPNmC
import Derived.ArgAppend
import Derived.Test.YtkkopdmemjncdaaGreatDoorPNmI
import Derived.Test.YtkkopdmemjncdaaGreatDoorPHk
import Derived.Test.YtkkopdmemjncdaaGreatDoorPGc
namespace Go.Proofs.YtkkopdmemjncdaaGreatDoor
open Go Go.RowKit
structure Reg (w : World) (X : List (Nat × List Value)) (L : List RwE) (wr : World) : Prop where
 box : ∀ x ∈ X, boxAt wr x.1 x.2 ∧ 0 < x.2.length ∧ w.heap.size ≤ x.1
 rws : Rws wr w.heap.size (X.map (·.1)) L
 kp : KpR [] w wr
section
variable {w wr w' : World} {X : List (Nat × List Value)} {L M : List RwE}
theorem Reg.gr (h : Reg w X L wr) : Gr w wr := KpR.toGr (Gr.refl w) h.kp (fun x hx => by cases hx)
theorem Reg.start (w : World) : Reg w [] [] w := ⟨(fun x hx => by cases hx), Rws.nilX _ _ _, KpR.refl _ _⟩
theorem kprN {a b c : World} (h : KpR [] a b) (k : KpR [] b c) : KpR [] a c := h.trans k (fun x hx => by cases hx)
theorem Reg.later (h : Reg w X L wr) (hG : Gr wr w') : Reg w X L w' :=
 ⟨fun x hx => ⟨(h.box x hx).1.later hG, (h.box x hx).2⟩, h.rws.keep (fun g hg _ _ => Below.block hG g hg), kprN h.kp (KpR.gr hG)⟩
theorem Reg.addBox (h : Reg w X L wr) (hG : Gr wr w') {b : Nat} {cs : List Value} (hb : boxAt w' b cs) (hn : 0 < cs.length) (hl : wr.heap.size ≤ b) : Reg w ((b, cs) :: X) L w' := by
 have h1 := h.later hG
 refine ⟨fun x hx => ?_, ?_, h1.kp⟩
 ·
  rcases List.mem_cons.1 hx with rfl | hx
  · exact ⟨hb, hn, Nat.le_trans h.kp.size hl⟩
  · exact h1.box x hx
 · refine (h.rws.addX (x := b) hl).keep (fun g hg _ _ => Below.block hG g hg)
theorem Reg.fresh (h : Reg w X L wr) (hG : Gr wr w') {e z n : Nat} {u : Value} {xs : List Value} (ho : w'.ownsRow wr.heap.size e z u n xs) : Reg w X (L ++ [⟨u, e, z, n, xs⟩]) w' := by
 have h1 := h.later hG
 refine ⟨h1.box, ?_, h1.kp⟩
 exact Rws.fresh h.rws (fun g hg => Below.block hG g hg) ho h.kp.size (fun x hx => by
  obtain ⟨y, hy, rfl⟩ := List.mem_map.1 hx
  exact (h.box y hy).1.lt (h.box y hy).2.1)
theorem Reg.push (h : Reg w X L wr) (e z : Nat) : Reg w X (L ++ [⟨.slice none 0 0, e, z, 0, []⟩]) wr := ⟨h.box, h.rws.push e z, h.kp⟩
theorem Reg.sub (h : Reg w X L wr) (hs : M.Sublist L) : Reg w X M wr := ⟨h.box, h.rws.sub hs, h.kp⟩
theorem Reg.row (h : Reg w X L wr) {r : RwE} (hr : r ∈ L) : wr.ownsRow w.heap.size r.e r.k r.v r.n r.xs := h.rws.own r hr
theorem Reg.grow (h : Reg w X L wr) {i : Nat} {r : RwE} (hi : L[i]? = some r) {v' : Value} {n' : Nat} {xs' : List Value}
  (hg : wr.grownBy w' r.v.ownBlock) (ho : w'.ownsRow w.heap.size r.e r.k v' n' xs') (hat : v'.ownBlock = r.v.ownBlock ∨ v'.ownBlock = some wr.heap.size) : Reg w X (L.set i ⟨v', r.e, r.k, n', xs'⟩) w' := by
 have hm := List.mem_of_getElem? hi
 have hr := h.row hm
 refine ⟨fun x hx => ⟨(h.box x hx).1.grown hg (h.box x hx).2.1 (fun e => h.rws.out r hm x.1 e (List.mem_map.2 ⟨x, hx, rfl⟩)), (h.box x hx).2⟩, ?_, h.kp.grown hg (fun g hg' => .inl (World.ownsRow.lt hr g hg').1)⟩
 exact h.rws.grow hi hg ho hat (fun x hx => by
  obtain ⟨y, hy, rfl⟩ := List.mem_map.1 hx
  exact (h.box y hy).1.lt (h.box y hy).2.1)
theorem Reg.growLast {r : RwE} (h : Reg w X (L ++ [r]) wr) {v' : Value} {n' : Nat} {xs' : List Value}
  (hg : wr.grownBy w' r.v.ownBlock) (ho : w'.ownsRow w.heap.size r.e r.k v' n' xs') (hat : v'.ownBlock = r.v.ownBlock ∨ v'.ownBlock = some wr.heap.size) : Reg w X (L ++ [⟨v', r.e, r.k, n', xs'⟩]) w' := by
 rw [← set_last _ r]
 exact h.grow (get_last _ r) hg ho hat
end
end Go.Proofs.YtkkopdmemjncdaaGreatDoor
namespace Go.Proofs.YtkkopdmemjncdaaGreatDoor
open Go Go.RowKit
structure Win (w : World) (B : Nat) (v : Value) (n : Nat) (xs : List Value) : Prop where
 len : xs.length = n
 le : n ≤ maxLen
 at_ : (∃ c, v = .slice none 0 c ∧ n = 0) ∨ ∃ g off cap, v = .slice (some ⟨g, off, none⟩) n cap ∧ B ≤ g ∧ g < w.heap.size ∧ n ≤ cap ∧ cap ≤ maxLen ∧ (∀ j, j < cap → (w.cell? ⟨g, off + j, none⟩).isSome = true ∧ w.frozen? ⟨g, off + j, none⟩ = false) ∧ ∀ j u, xs[j]? = some u → w.cell? ⟨g, off + j, none⟩ = some u
theorem frozen_block {w w' : World} {g : Nat} (h : w'.heap[g]? = w.heap[g]?) (off : Nat) : w'.frozen? ⟨g, off, none⟩ = w.frozen? ⟨g, off, none⟩ := by simp only [World.frozen?, h]
theorem Win.heap {w w' : World} {B n : Nat} {v : Value} {xs : List Value} (h : Win w B v n xs) (hs : w.heap.size ≤ w'.heap.size) (hb : ∀ g, v.ownBlock = some g → w'.heap[g]? = w.heap[g]?) : Win w' B v n xs := by
 refine ⟨h.len, h.le, h.at_.imp id ?_⟩
 rintro ⟨g, off, cap, rfl, h1, h2, h3, h4, h5, h6⟩
 have e := hb g rfl
 refine ⟨g, off, cap, rfl, h1, by omega, h3, h4, fun j hj => ?_, fun j u hu => ?_⟩
 · rw [World.cell?_of_block (w := w) e, frozen_block e]; exact h5 j hj
 · rw [World.cell?_of_block (w := w) e]; exact h6 j u hu
theorem Win.lt {w : World} {B n : Nat} {v : Value} {xs : List Value} (h : Win w B v n xs) : ∀ g, v.ownBlock = some g → B ≤ g ∧ g < w.heap.size := by
 rintro g hg
 rcases h.at_ with ⟨c, rfl, _⟩ | ⟨g', off, cap, rfl, h1, h2, _⟩
 · cases hg
 ·
  injection hg with hg
  subst hg
  exact ⟨h1, h2⟩
theorem Win.later {w w' : World} {B n : Nat} {v : Value} {xs : List Value} (h : Win w B v n xs) (hG : Gr w w') : Win w' B v n xs :=
 h.heap hG.size (fun g hg => Below.block hG g (h.lt g hg).2)
theorem Win.sl {w : World} {B n : Nat} {v : Value} {xs : List Value} (h : Win w B v n xs) : Sl w v 1 n xs := by
 refine ⟨by rw [h.len, Nat.mul_one], h.le, h.at_.imp (fun ⟨c, e, h0⟩ => ⟨⟨_, _, e⟩, h0⟩) ?_⟩
 rintro ⟨g, off, cap, rfl, h1, h2, h3, h4, h5, h6⟩
 exact ⟨g, off, cap, rfl, fun _ => h2, h6⟩
theorem Win.of_owns {w : World} {B e n : Nat} {v : Value} {xs : List Value} (h : w.ownsRow B e 1 v n xs) : Win w B v n xs := by
 have hc := fun g => World.ownsRow.cells (g := g) h
 obtain ⟨h1, h2⟩ := h
 rw [Nat.mul_one] at h1
 rcases h2 with ⟨rfl, h0⟩ | ⟨g, cap, cur, rfl, hb, hh, h3, h4, h5, h6⟩
 · exact ⟨h1, by omega, .inl ⟨_, rfl, h0⟩⟩
 ·
  refine ⟨h1, by omega, .inr ⟨g, 0, cap, rfl, hb, (Array.getElem?_eq_some_iff.1 hh).1, h3, h4, fun j hj => ?_, fun j u hu => ?_⟩⟩
  ·
   rw [Nat.zero_add, cell_of_row w g j cur e (0, 0) hh]
   refine ⟨?_, ?_⟩
   · rw [Array.getElem?_eq_getElem (by omega)]; rfl
   · simp [World.frozen?, hh]
  ·
   have := hc g rfl j u hu
   have hadd : (⟨g, 0, none⟩ : Addr).add j = ⟨g, j, none⟩ := by unfold Addr.add; split <;> simp_all
   rw [hadd] at this
   rw [Nat.zero_add]; exact this
theorem Win.low {w : World} {B B' n : Nat} {v : Value} {xs : List Value} (h : Win w B v n xs) (hB : B' ≤ B) : Win w B' v n xs :=
 ⟨h.len, h.le, h.at_.imp id (fun ⟨g, off, cap, e, h1, h2⟩ => ⟨g, off, cap, e, Nat.le_trans hB h1, h2⟩)⟩
theorem heap_setCells_far (g : Nat) : ∀ (vs : List Value) (o : Nat) (w : World) (k : Nat), k ≠ g → (w.setCells g o vs).heap[k]? = w.heap[k]?
 | [], _, _, _, _ => rfl
 |
  v :: r, o, w, k, h => by
  rw [World.setCells, heap_setCells_far g r (o + 1) _ k h]
  exact Below.heap_setCell w ⟨g, o, none⟩ v k h
theorem size_setCellsW (g : Nat) : ∀ (vs : List Value) (o : Nat) (w : World), (w.setCells g o vs).heap.size = w.heap.size ∧ (w.setCells g o vs).os = w.os ∧ (w.setCells g o vs).tape = w.tape ∧ (w.setCells g o vs).output = w.output
 | [], _, _ => ⟨rfl, rfl, rfl, rfl⟩
 |
  v :: r, o, w => by
  obtain ⟨h1, h2, h3, h4⟩ := size_setCellsW g r (o + 1) (w.setCell ⟨g, o, none⟩ v)
  rw [World.setCells]
  have h := (KpR.refl [g] w).put (a := ⟨g, o, none⟩) (.inr (by simp)) v
  refine ⟨h1.trans ?_, h2.trans h.os, h3.trans h.tape, h4.trans h.output⟩
  exact World.size_setCell _ _ _
end Go.Proofs.YtkkopdmemjncdaaGreatDoor
namespace Go.Proofs.YtkkopdmemjncdaaGreatDoor
open Go Go.RowKit
end Go.Proofs.YtkkopdmemjncdaaGreatDoor
namespace Go.Proofs.YtkkopdmemjncdaaGreatDoor
open Go Go.RowKit
mutual
theorem refs_wt : ∀ e : Ex, (refsE e).length ≤ wtE e
 |
  .mk op pos set text mn mx args => by
  rw [refsE, wtE, List.length_append]
  have h1 := refs_wtL args
  have h2 : (if op = 4 then [(text, pos)] else []).length ≤ 1 := by split <;> simp
  omega
theorem refs_wtL : ∀ l : List Ex, (refsL l).length ≤ wtL l
 | [] => by rw [refsL, wtL]; simp
 |
  a :: r => by
  rw [refsL, wtL, List.length_append]
  have h1 := refs_wt a
  have h2 := refs_wtL r
  omega
end
theorem sum_mem {α : Type} (f : α → Nat) : ∀ (l : List α) (a : α), a ∈ l → f a ≤ (l.map f).sum
 |
  b :: l, a, h => by
  rw [List.map_cons, List.sum_cons]
  rcases List.mem_cons.1 h with rfl | h
  · omega
  · have := sum_mem f l a h; omega
theorem refs_wtS {s : Sc} (h : wtS s ≤ 1048576) : ∀ d ∈ s.defs, (refsE d.ex).length ≤ 1048576 := fun d hd => by
 have h1 := refs_wt d.ex
 have h2 := sum_mem (fun d : Df => wtE d.ex) s.defs d hd
 unfold wtS at h
 omega
structure StepsN (w : World) (v : Value) (C : List (List (Int × Int))) : Prop where
 sl : ∃ vs : List Value, vs.length = C.length ∧ Sl w v 1 C.length vs ∧ ∀ (k : Nat) (r : List (Int × Int)), C[k]? = some r → ∃ u, vs[k]? = some u ∧ Sl w u 2 r.length (r.flatMap prC)
theorem StepsN.later {w w' : World} {v : Value} {C : List (List (Int × Int))} (h : StepsN w v C) (hG : Gr w w') : StepsN w' v C := by
 obtain ⟨vs, h1, h2, h3⟩ := h.sl
 exact ⟨vs, h1, h2.later hG, fun k r hk => by
  obtain ⟨u, h4, h5⟩ := h3 k r hk
  exact ⟨u, h4, h5.later hG⟩⟩
theorem StepsN.row {w : World} {p : Option Addr} {c n : Nat} {C : List (List (Int × Int))} (h : StepsN w (.slice p n c) C) {k : Nat} {r : List (Int × Int)} (hk : C[k]? = some r) : ∃ b off u, p = some ⟨b, off, none⟩ ∧ b < w.heap.size ∧ w.cell? ⟨b, off + k, none⟩ = some u ∧ Sl w u 2 r.length (r.flatMap prC) := by
 obtain ⟨vs, hl, hs, hr⟩ := h.sl
 obtain ⟨u, hu, hsu⟩ := hr k r hk
 have hkl := (List.getElem?_eq_some_iff.1 hk).1
 obtain ⟨_, _, ⟨_, h0⟩ | ⟨b, off, cap, hv, hb, hc⟩⟩ := hs
 · omega
 ·
  injection hv with hp _ _
  exact ⟨b, off, u, hp, hb (by omega), hc k u hu, hsu⟩
structure NmIn (w : World) (s : Sc) (v0 v1 v2 v3 : Value) : Prop where
 m : Sl w v0 1 (modesN s).length ((modesN s).map .string)
 a : RowsN w v1 (namesN s).active
 o : Sl w v2 1 (namesN s).order.length ((namesN s).order.map natV)
 c : StepsN w v3 (actsR s)
theorem NmIn.later {w w' : World} {s : Sc} {v0 v1 v2 v3 : Value} (h : NmIn w s v0 v1 v2 v3) (hG : Gr w w') : NmIn w' s v0 v1 v2 v3 := ⟨h.m.later hG, h.a.later hG, h.o.later hG, h.c.later hG⟩
theorem NmIn.of {w0 w : World} {s : Sc} {B : Nat} {v0 v1 v2 v3 : Value} {vs1 vs3 : List Value} (h1 : vs1.length = (namesN s).active.length) (h3 : vs3.length = (namesN s).acts.length) (hr : Rws w B [] (nmsRows (namesN s).modes (namesN s).active (namesN s).acts v0 v1 v3 vs1 vs3)) (h2 : w.ownsRow w0.heap.size 3 1 v2 (namesN s).order.length ((namesN s).order.map natV)) : NmIn w s v0 v1 v2 v3 := by
 refine ⟨Sl.of_owns (hr.own ⟨v0, 9, 1, (namesN s).modes.length, (namesN s).modes.map .string⟩ (by simp [nmsRows])), RowsN.of_rws h1 hr (by simp [nmsRows]) (fun r hr => by simp [nmsRows, hr]), Sl.of_owns h2, ⟨vs3, h3, Sl.of_owns (hr.own ⟨v3, 81, 1, (namesN s).acts.length, vs3⟩ (by simp [nmsRows])), fun k r hk => ?_⟩⟩
 obtain ⟨u, h4, h5⟩ := stepsE_get (namesN s).acts vs3 k r h3 hk
 exact ⟨u, h4, Sl.of_owns (hr.own ⟨u, 83, 2, r.length, r.flatMap prC⟩ (by simp [nmsRows, h5]))⟩
theorem txt_at {w : World} {p : Option Addr} {n c : Nat} {l : List ByteArray} (h : Sl w (.slice p n c) 1 l.length (l.map .string)) {k : Nat} {x : ByteArray} (hk : l[k]? = some x) : ∃ b off, p = some ⟨b, off, none⟩ ∧ b < w.heap.size ∧ w.cell? ⟨b, off + k, none⟩ = some (.string x) := by
 have hkl := (List.getElem?_eq_some_iff.1 hk).1
 obtain ⟨_, _, ⟨_, h0⟩ | ⟨b, off, cap, hv, hb, hc⟩⟩ := h
 · omega
 ·
  injection hv with hp _ _
  exact ⟨b, off, hp, hb (by omega), hc k (.string x) (by rw [List.getElem?_map, hk]; rfl)⟩
theorem toList_inj {a b : ByteArray} (h : a.toList = b.toList) : a = b := by
 rw [st_of a, st_of b] at h
 rw [st_list, st_list] at h
 rw [st_of a, st_of b, h]
end Go.Proofs.YtkkopdmemjncdaaGreatDoor
namespace Go.Proofs.YtkkopdmemjncdaaGreatDoor
open Go Go.RowKit
def atI (l : List ByteArray) (s : ByteArray) : Int := if memN l s = true then (noOf l s : Int) else -1
theorem atI_none {l : List ByteArray} {s : ByteArray} (h : memN l s = false) : atI l s = -1 := by unfold atI; rw [if_neg (by rw [h]; simp)]
theorem atI_some {l : List ByteArray} {s : ByteArray} (h : memN l s = true) : atI l s = (noOf l s : Int) := by unfold atI; rw [if_pos h]
theorem noOf_at {l : List ByteArray} {k : Nat} {s : ByteArray} (h : memN (l.take k) s = false) (hk : l[k]? = some s) : noOf l s = k := by
 have hkl := (List.getElem?_eq_some_iff.1 hk).1
 have he := (List.getElem?_eq_some_iff.1 hk).2
 unfold noOf
 rw [List.findIdx_eq hkl]
 refine ⟨decide_eq_true he, fun j hj => ?_⟩
 refine decide_eq_false (fun e => ?_)
 have : s ∈ l.take k := by
  rw [List.mem_take_iff_getElem]
  exact ⟨j, by omega, e⟩
 rw [memN_iff.2 this] at h
 cases h
end Go.Proofs.YtkkopdmemjncdaaGreatDoor
namespace Go.Proofs.YtkkopdmemjncdaaGreatDoor
open Go Go.RowKit Go.Maps
structure Linked (s : Sc) : Prop where
 nodup : (defsN s).Nodup
 uses : ∀ d ∈ s.defs, ∀ x ∈ usesN d.ex, x ∈ defsN s
structure RowsY (w : World) (v : Value) (U : List (List Nat)) : Prop where
 sl : ∃ vs : List Value, vs.length = U.length ∧ Sl w v 1 U.length vs ∧ ∀ (k : Nat) (r : List Nat), U[k]? = some r → ∃ u, vs[k]? = some u ∧ Sl w u 1 r.length (r.map natV) ∧ Nily u
theorem RowsY.rows {w : World} {v : Value} {U : List (List Nat)} (h : RowsY w v U) : RowsN w v U := by
 obtain ⟨vs, h1, h2, h3⟩ := h.sl
 exact ⟨vs, h1, h2, fun k r hk => by
  obtain ⟨u, h4, h5, _⟩ := h3 k r hk
  exact ⟨u, h4, h5⟩⟩
theorem RowsY.later {w w' : World} {v : Value} {U : List (List Nat)} (h : RowsY w v U) (hG : Gr w w') : RowsY w' v U := by
 obtain ⟨vs, h1, h2, h3⟩ := h.sl
 exact ⟨vs, h1, h2.later hG, fun k r hk => by
  obtain ⟨u, h4, h5, h6⟩ := h3 k r hk
  exact ⟨u, h4, h5.later hG, h6⟩⟩
theorem nily_own {w : World} {B e k n : Nat} {v : Value} {xs : List Value} (h : w.ownsRow B e k v n xs) : Nily v := by
 obtain ⟨_, ⟨rfl, _⟩ | ⟨g, cap, cur, rfl, _⟩⟩ := h
 · exact .inl rfl
 · exact .inr ⟨_, _, _, rfl⟩
theorem RowsY.row {w : World} {p : Option Addr} {c n : Nat} {U : List (List Nat)} (h : RowsY w (.slice p n c) U) {k : Nat} {r : List Nat} (hk : U[k]? = some r) : ∃ b off u, p = some ⟨b, off, none⟩ ∧ b < w.heap.size ∧ w.cell? ⟨b, off + k, none⟩ = some u ∧ Sl w u 1 r.length (r.map natV) ∧ Nily u := by
 obtain ⟨vs, hl, hs, hr⟩ := h.sl
 obtain ⟨u, hu, hsu, hn⟩ := hr k r hk
 have hkl := (List.getElem?_eq_some_iff.1 hk).1
 obtain ⟨_, _, ⟨_, h0⟩ | ⟨b, off, cap, hv, hb, hc⟩⟩ := hs
 · omega
 ·
  injection hv with hp _ _
  exact ⟨b, off, u, hp, hb (by omega), hc k u hu, hsu, hn⟩
theorem linksN_get {s : Sc} {k : Nat} {d : Df} (h : s.defs[k]? = some d) : (linksN s)[k]? = some ((usesN d.ex).map (noOf (defsN s))) := by
 unfold linksN
 rw [List.getElem?_map, h]; rfl
theorem linksN_len (s : Sc) : (linksN s).length = s.defs.length := by unfold linksN; simp
theorem defsN_get {s : Sc} {k : Nat} {d : Df} (h : s.defs[k]? = some d) : (defsN s)[k]? = some d.name := by
 unfold defsN
 rw [List.getElem?_map, h]; rfl
theorem take_snoc {α : Type} {l : List α} {k : Nat} {x : α} (h : l[k]? = some x) : l.take (k + 1) = l.take k ++ [x] := by rw [List.take_add_one, h]; rfl
end Go.Proofs.YtkkopdmemjncdaaGreatDoor
namespace Go.Proofs.YtkkopdmemjncdaaGreatDoor
open Go Go.RowKit
theorem len_sum6 {α : Type} (f : α → Nat) (hf : ∀ a, 1 ≤ f a) : ∀ l : List α, l.length ≤ (l.map f).sum
 | [] => Nat.le_refl _
 |
  a :: l => by
  rw [List.length_cons, List.map_cons, List.sum_cons]
  have h1 := hf a
  have h2 := len_sum6 f hf l
  omega
theorem wtE_one (e : Ex) : 1 ≤ wtE e := by cases e; rw [wtE]; omega
theorem defs_wt (s : Sc) : s.defs.length ≤ wtS s := by
 have h := len_sum6 (fun d : Df => wtE d.ex) (fun d => wtE_one d.ex) s.defs
 unfold wtS
 omega
theorem linked_of {s : Sc} (h : Right s) : Linked s := ⟨h.defs, fun d hd x hx => by
 obtain ⟨y, hy, rfl⟩ := usesN_mem hx
 exact h.drefs d hd y hy⟩
end Go.Proofs.YtkkopdmemjncdaaGreatDoor
namespace Go.Proofs.YtkkopdmemjncdaaGreatDoor
open Go Go.RowKit
def Rch (U : List (List Nat)) (i x : Nat) : Prop := ∃ n, wayN U (n + 1) i x
theorem Rch.one {U : List (List Nat)} {i x : Nat} (h : x ∈ U[i]?.getD []) : Rch U i x := ⟨0, x, h, rfl⟩
theorem Rch.step {U : List (List Nat)} {i x y : Nat} (h : Rch U i x) (hy : y ∈ U[x]?.getD []) : Rch U i y := by
 obtain ⟨n, h⟩ := h
 exact ⟨n + 1, wayN_add U (n + 1) 1 i x y h ⟨y, hy, rfl⟩⟩
structure RcI (U : List (List Nat)) (i : Nat) (O T : List Nat) : Prop where
 nodup : O.Nodup
 lt : ∀ x ∈ O, x < U.length
 ltw : ∀ x ∈ T, x < U.length
 rch : ∀ x ∈ O, Rch U i x
 rchw : ∀ x ∈ T, Rch U i x
 closed : ∀ x ∈ O, ∀ u ∈ U[x]?.getD [], u ∈ O ∨ u ∈ T
 start : ∀ u ∈ U[i]?.getD [], u ∈ O ∨ u ∈ T
 bound : T.length ≤ (O.length + 1) * 1048576
theorem RcI.le {U : List (List Nat)} {i : Nat} {O T : List Nat} (h : RcI U i O T) : O.length ≤ U.length := nodup_le _ _ h.nodup h.lt
theorem RcI.skip {U : List (List Nat)} {i x : Nat} {O T : List Nat} (h : RcI U i O (x :: T)) (hx : x ∈ O) : RcI U i O T :=
 ⟨h.nodup, h.lt, fun y hy => h.ltw y (List.mem_cons_of_mem _ hy), h.rch, fun y hy => h.rchw y (List.mem_cons_of_mem _ hy), fun y hy u hu => (h.closed y hy u hu).elim .inl (fun hm => (List.mem_cons.1 hm).elim (fun e => .inl (e ▸ hx)) .inr),
  fun u hu => (h.start u hu).elim .inl (fun hm => (List.mem_cons.1 hm).elim (fun e => .inl (e ▸ hx)) .inr), by have := h.bound; rw [List.length_cons] at this; omega⟩
theorem
    RcI.take {U : List (List Nat)} {i x : Nat} {O T r : List Nat} (h : RcI U i O (x :: T)) (hx : x ∉ O) (hr : U[x]? = some r) (hU : ∀ (i : Nat) (r : List Nat), U[i]? = some r → ∀ x ∈ r, x < U.length) (hb : r.length ≤ 1048576) : RcI U i (O ++ [x]) (T ++ r) := by
 have e : U[x]?.getD [] = r := by rw [hr]; rfl
 have hrx := h.rchw x (by simp)
 refine ⟨?_, fun y hy => ?_, fun y hy => ?_, fun y hy => ?_, fun y hy => ?_, fun y hy u hu => ?_, fun u hu => ?_, ?_⟩
 ·
  rw [List.nodup_append]
  refine ⟨h.nodup, by simp, fun a ha b hb => ?_⟩
  rw [List.mem_singleton] at hb
  subst hb
  exact fun e => hx (e ▸ ha)
 ·
  rcases List.mem_append.1 hy with hy | hy
  · exact h.lt y hy
  · rw [List.mem_singleton.1 hy]; exact h.ltw x (by simp)
 ·
  rcases List.mem_append.1 hy with hy | hy
  · exact h.ltw y (List.mem_cons_of_mem _ hy)
  · exact hU x r hr y hy
 ·
  rcases List.mem_append.1 hy with hy | hy
  · exact h.rch y hy
  · rw [List.mem_singleton.1 hy]; exact hrx
 ·
  rcases List.mem_append.1 hy with hy | hy
  · exact h.rchw y (List.mem_cons_of_mem _ hy)
  · exact hrx.step (by rw [e]; exact hy)
 ·
  rcases List.mem_append.1 hy with hy | hy
  ·
   rcases h.closed y hy u hu with hm | hm
   · exact .inl (List.mem_append_left _ hm)
   ·
    rcases List.mem_cons.1 hm with rfl | hm
    · exact .inl (by simp)
    · exact .inr (List.mem_append_left _ hm)
  ·
   rw [List.mem_singleton.1 hy, e] at hu
   exact .inr (List.mem_append_right _ hu)
 ·
  rcases h.start u hu with hm | hm
  · exact .inl (List.mem_append_left _ hm)
  ·
   rcases List.mem_cons.1 hm with rfl | hm
   · exact .inl (by simp)
   · exact .inr (List.mem_append_left _ hm)
 ·
  have := h.bound
  rw [List.length_cons] at this
  rw [List.length_append, List.length_append, List.length_singleton]
  omega
theorem closed_rch {U : List (List Nat)} {O : List Nat} (hc : ∀ x ∈ O, ∀ u ∈ U[x]?.getD [], u ∈ O) : ∀ (n k x : Nat), k ∈ O → wayN U n k x → x ∈ O
 |
  0, k, x, hk, hw => by
  have e : k = x := hw
  exact e ▸ hk
 | n + 1, k, x, hk, ⟨m, hm, hw⟩ => closed_rch hc n m x (hc k hk m hm) hw
theorem RcI.stop {U : List (List Nat)} {i : Nat} {O : List Nat} (h : RcI U i O []) (x : Nat) : x ∈ O ↔ Rch U i x :=
 ⟨h.rch x, fun ⟨n, k, hk, hw⟩ => closed_rch (fun x hx u hu => (h.closed x hx u hu).resolve_right (by simp)) n k x ((h.start k hk).resolve_right (by simp)) hw⟩
theorem natV_vI (l : List Nat) : l.map natV = (l.map (fun n : Nat => (n : Int))).map vI := by rw [List.map_map]; rfl
theorem Win.cons {w : World} {B n : Nat} {v : Value} {x : Value} {xs : List Value} (h : Win w B v n (x :: xs)) : ∃ m g off cap, n = m + 1 ∧ v = .slice (some ⟨g, off, none⟩) (m + 1) cap ∧ 0 < cap ∧ xs.length = m ∧ g < w.heap.size ∧ w.cell? ⟨g, off, none⟩ = some x := by
 have hl := h.len
 rw [List.length_cons] at hl
 subst hl
 rcases h.at_ with ⟨c, _, h0⟩ | ⟨g, off, cap, rfl, _, h2, h3, _, _, h6⟩
 · omega
 · exact ⟨_, g, off, cap, rfl, rfl, by omega, rfl, h2, by simpa using h6 0 x rfl⟩
end Go.Proofs.YtkkopdmemjncdaaGreatDoor
namespace Go.Proofs.YtkkopdmemjncdaaGreatDoor
open Go Go.RowKit
theorem far_pos {U : List (List Nat)} {fr : Nat} {far : List Int} (h : FarOk U fr far) {i : Nat} (hne : i ≠ fr) (h0 : 0 ≤ farAt far i) : 1 ≤ farAt far i := by
 obtain ⟨k, _, h1, h2⟩ := h.step i hne h0
 omega
structure WayP (U : List (List Nat)) (fr : Nat) (P : List Nat) : Prop where
 pos : 0 < P.length
 le : P.length ≤ U.length
 first : P[0]? = some fr
 lt : ∀ x ∈ P, x < U.length
 nodup : P.Nodup
 link : ∀ (j x : Nat), P[j]? = some x → ∃ y, P[(j + 1) % P.length]? = some y ∧ y ∈ U[x]?.getD []
theorem
    whole_cyc {U : List (List Nat)} (hl : (orderN U U.length []).length = U.length) {i : Nat} (hi : i < U.length) : ¬ Cyc U i := by
 have ho := orderN_ordered U U.length [] (ordered_nil U)
 generalize orderN U U.length [] = L at hl ho
 have hlt : ∀ x ∈ L, x < U.length := fun x hx => by
  obtain ⟨j, hj, rfl⟩ := List.mem_iff_getElem.1 hx
  exact (ho j _ (List.getElem?_eq_getElem hj)).1
 have hall : ∀ x, x < U.length → x ∈ L := fun x hx => by
  by_cases h : x ∈ L
  · exact h
  ·
   have := nodup_le U.length (x :: L) (List.nodup_cons.2 ⟨h, ordered_nodup ho⟩) (fun y hy => by
    rcases List.mem_cons.1 hy with rfl | hy
    · exact hx
    · exact hlt y hy)
   rw [List.length_cons] at this
   omega
 have hstep : ∀ (a : Nat) (x k : Nat), L[a]? = some x → k ∈ U[x]?.getD [] → ∃ b, b < a ∧ L[b]? = some k := fun a x k hx hk => by
  have h1 := (ho a x hx).2.1
  unfold freeN at h1
  rw [Bool.and_eq_true, List.all_eq_true] at h1
  have h2 := of_decide_eq_true (h1.2 k hk)
  rw [List.mem_take_iff_getElem] at h2
  obtain ⟨b, hb, hbe⟩ := h2
  exact ⟨b, by omega, by rw [← hbe]; exact List.getElem?_eq_getElem (by omega)⟩
 have hway : ∀ (n a x y : Nat), L[a]? = some x → wayN U n x y → ∃ b, b + n ≤ a ∧ L[b]? = some y := fun n => by
  induction n with
  |
   zero =>
   intro a x y hx hw
   have e : x = y := hw
   exact ⟨a, by omega, e ▸ hx⟩
  |
   succ n ih =>
   intro a x y hx hw
   obtain ⟨k, hk, hw⟩ := hw
   obtain ⟨b, hb, hbk⟩ := hstep a x k hx hk
   obtain ⟨c, hc, hcy⟩ := ih b k y hbk hw
   exact ⟨c, by omega, hcy⟩
 rintro ⟨n, hn⟩
 obtain ⟨a, ha, hae⟩ := List.mem_iff_getElem.1 (hall i hi)
 obtain ⟨b, hb, hbe⟩ := hway (n + 1) a i i (by rw [← hae]; exact List.getElem?_eq_getElem ha) hn
 obtain ⟨hbl, hbe⟩ := List.getElem?_eq_some_iff.1 hbe
 have hnd := ordered_nodup ho
 rw [List.nodup_iff_pairwise_ne, List.pairwise_iff_getElem] at hnd
 exact hnd b a hbl ha (by omega) (hbe.trans hae.symm)
theorem srt_row (U : List (List Nat)) (i : Nat) (x : Nat) : x ∈ (U.map srtN)[i]?.getD [] ↔ x ∈ U[i]?.getD [] := by
 rw [List.getElem?_map]
 cases U[i]? with
 | none => exact Iff.rfl
 | some r => exact srtN_mem
theorem srt_way (U : List (List Nat)) : ∀ (n i j : Nat), wayN (U.map srtN) n i j ↔ wayN U n i j
 | 0, _, _ => Iff.rfl
 |
  n
   + 1, i, j => by
  constructor
  ·
   rintro ⟨k, hk, hw⟩
   exact ⟨k, (srt_row U i k).1 hk, (srt_way U n k j).1 hw⟩
  ·
   rintro ⟨k, hk, hw⟩
   exact ⟨k, (srt_row U i k).2 hk, (srt_way U n k j).2 hw⟩
theorem srt_cyc (U : List (List Nat)) (i : Nat) : Cyc (U.map srtN) i ↔ Cyc U i :=
 ⟨fun ⟨n, h⟩ => ⟨n, (srt_way U _ i i).1 h⟩, fun ⟨n, h⟩ => ⟨n, (srt_way U _ i i).2 h⟩⟩
theorem linksN_in {s : Sc} (h : Linked s) {i : Nat} {r : List Nat} (hr : (linksN s)[i]? = some r) : ∀ x ∈ r, x < (linksN s).length := by
 intro x hx
 unfold linksN at hr
 rw [List.getElem?_map] at hr
 cases hd : s.defs[i]? with
 | none => rw [hd] at hr; cases hr
 |
  some d =>
  rw [hd] at hr
  injection hr with hr
  subst hr
  obtain ⟨y, hy, rfl⟩ := List.mem_map.1 hx
  have := (noOf_some (h.uses d (List.mem_of_getElem? hd) y hy)).1
  rw [linksN_len]
  unfold defsN at this
  rw [List.length_map] at this
  exact this
theorem linksN_row {s : Sc} (hru : ∀ d ∈ s.defs, (refsE d.ex).length ≤ 1048576) {i : Nat} {r : List Nat} (hr : (linksN s)[i]? = some r) : r.length ≤ 1048576 := by
 unfold linksN at hr
 rw [List.getElem?_map] at hr
 cases hd : s.defs[i]? with
 | none => rw [hd] at hr; cases hr
 |
  some d =>
  rw [hd] at hr
  injection hr with hr
  subst hr
  rw [List.length_map, usesN_eq]
  exact Nat.le_trans (usesL_len _) (hru d (List.mem_of_getElem? hd))
end Go.Proofs.YtkkopdmemjncdaaGreatDoor
