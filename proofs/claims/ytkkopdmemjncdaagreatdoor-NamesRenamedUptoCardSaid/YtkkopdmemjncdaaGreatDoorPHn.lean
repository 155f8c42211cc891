/- Texts of mine, put together: Win, NmRe, NmWy. No condition but what each says. -/
import Derived.Test.YtkkopdmemjncdaaGreatDoorPHm
import Derived.ArgAppend
import Derived.Test.YtkkopdmemjncdaaGreatDoorPNmOr
import Derived.Test.YtkkopdmemjncdaaGreatDoorPGc

/- A part of a row of the call's own, that is read from its start and grows at its end. No condition. -/
namespace Go.Proofs.YtkkopdmemjncdaaGreatDoor
open Go Go.RowKit

/-- A slice into a row of the call's own: its cells, and room. -/
structure Win (w : World) (B : Nat) (v : Value) (n : Nat) (xs : List Value) : Prop where
  len : xs.length = n
  le : n ≤ maxLen
  at_ : (∃ c, v = .slice none 0 c ∧ n = 0) ∨ ∃ g off cap, v = .slice (some ⟨g, off, none⟩) n cap ∧ B ≤ g ∧ g < w.heap.size ∧ n ≤ cap ∧ cap ≤ maxLen ∧ (∀ j, j < cap → (w.cell? ⟨g, off + j, none⟩).isSome = true ∧ w.frozen? ⟨g, off + j, none⟩ = false) ∧ ∀ j u, xs[j]? = some u → w.cell? ⟨g, off + j, none⟩ = some u
theorem frozen_block {w w' : World} {g : Nat} (h : w'.heap[g]? = w.heap[g]?) (off : Nat) : w'.frozen? ⟨g, off, none⟩ = w.frozen? ⟨g, off, none⟩ := by simp only [World.frozen?, h]
theorem Win.heap {w w' : World} {B n : Nat} {v : Value} {xs : List Value} (h : Win w B v n xs) (hs : w.heap.size ≤ w'.heap.size) (hb : ∀ g, v.ownBlock = some g → w'.heap[g]? = w.heap[g]?) : Win w' B v n xs := by
  refine ⟨h.len, h.le, h.at_.imp id ?_⟩
  rintro ⟨g, off, cap, rfl, h1, h2, h3, h4, h5, h6⟩
  have e := hb g rfl
  refine ⟨g, off, cap, rfl, h1, by omega, h3, h4, fun j hj => ?_, fun j u hu => ?_⟩
  · rw [World.cell?_of_block (w := w) e, frozen_block e]; exact h5 j hj
  · rw [World.cell?_of_block (w := w) e]; exact h6 j u hu
theorem Win.lt {w : World} {B n : Nat} {v : Value} {xs : List Value} (h : Win w B v n xs) : ∀ g, v.ownBlock = some g → B ≤ g ∧ g < w.heap.size := by
  rintro g hg
  rcases h.at_ with ⟨c, rfl, _⟩ | ⟨g', off, cap, rfl, h1, h2, _⟩
  · cases hg
  · injection hg with hg
    subst hg
    exact ⟨h1, h2⟩
theorem Win.later {w w' : World} {B n : Nat} {v : Value} {xs : List Value} (h : Win w B v n xs) (hG : Gr w w') : Win w' B v n xs :=
  h.heap hG.size (fun g hg => Below.block hG g (h.lt g hg).2)
theorem Win.sl {w : World} {B n : Nat} {v : Value} {xs : List Value} (h : Win w B v n xs) : Sl w v 1 n xs := by
  refine ⟨by rw [h.len, Nat.mul_one], h.le, h.at_.imp (fun ⟨c, e, h0⟩ => ⟨⟨_, _, e⟩, h0⟩) ?_⟩
  rintro ⟨g, off, cap, rfl, h1, h2, h3, h4, h5, h6⟩
  exact ⟨g, off, cap, rfl, fun _ => h2, h6⟩
theorem Win.of_owns {w : World} {B e n : Nat} {v : Value} {xs : List Value} (h : w.ownsRow B e 1 v n xs) : Win w B v n xs := by
  have hc := fun g => World.ownsRow.cells (g := g) h
  obtain ⟨h1, h2⟩ := h
  rw [Nat.mul_one] at h1
  rcases h2 with ⟨rfl, h0⟩ | ⟨g, cap, cur, rfl, hb, hh, h3, h4, h5, h6⟩
  · exact ⟨h1, by omega, .inl ⟨_, rfl, h0⟩⟩
  · refine ⟨h1, by omega, .inr ⟨g, 0, cap, rfl, hb, (Array.getElem?_eq_some_iff.1 hh).1, h3, h4, fun j hj => ?_, fun j u hu => ?_⟩⟩
    · rw [Nat.zero_add, cell_of_row w g j cur e (0, 0) hh]
      refine ⟨?_, ?_⟩
      · rw [Array.getElem?_eq_getElem (by omega)]; rfl
      · simp [World.frozen?, hh]
    · have := hc g rfl j u hu
      have hadd : (⟨g, 0, none⟩ : Addr).add j = ⟨g, j, none⟩ := by unfold Addr.add; split <;> simp_all
      rw [hadd] at this
      rw [Nat.zero_add]; exact this
theorem Win.low {w : World} {B B' n : Nat} {v : Value} {xs : List Value} (h : Win w B v n xs) (hB : B' ≤ B) : Win w B' v n xs :=
  ⟨h.len, h.le, h.at_.imp id (fun ⟨g, off, cap, e, h1, h2⟩ => ⟨g, off, cap, e, Nat.le_trans hB h1, h2⟩)⟩
/-- Without its first cell. -/
theorem Win.tail {w : World} {B n g off cap : Nat} {x : Value} {xs : List Value} (h : Win w B (.slice (some ⟨g, off, none⟩) (n + 1) cap) (n + 1) (x :: xs)) :
    Win w B (.slice (some ⟨g, off + 1, none⟩) n (cap - 1)) n xs ∧ (cap = 1 → Win w B (.slice (some ⟨g, off, none⟩) n 0) n xs) := by
  have hl := h.len
  have hle := h.le
  rw [List.length_cons] at hl
  rcases h.at_ with ⟨c, e, h0⟩ | ⟨g', off', cap', e, h1, h2, h3, h4, h5, h6⟩
  · omega
  · injection e with e1 _ e3
    injection e1 with e1
    injection e1 with e1 e2
    subst e1 e2 e3
    refine ⟨⟨by omega, by omega, .inr ⟨g, off + 1, cap - 1, rfl, h1, h2, by omega, by omega, fun j hj => ?_, fun j u hu => ?_⟩⟩, fun hc => ?_⟩
    · have := h5 (j + 1) (by omega)
      rw [show off + 1 + j = off + (j + 1) by omega]; exact this
    · have := h6 (j + 1) u (by simpa using hu)
      rw [show off + 1 + j = off + (j + 1) by omega]; exact this
    · have hn : n = 0 := by omega
      subst hn
      have : xs = [] := List.eq_nil_of_length_eq_zero (by omega)
      subst this
      exact ⟨rfl, by omega, .inr ⟨g, off, 0, rfl, h1, h2, Nat.le_refl _, by omega, fun j hj => by omega, fun j u hu => by simp at hu⟩⟩
theorem heap_setCells_far (g : Nat) : ∀ (vs : List Value) (o : Nat) (w : World) (k : Nat), k ≠ g → (w.setCells g o vs).heap[k]? = w.heap[k]?
  | [], _, _, _, _ => rfl
  | v :: r, o, w, k, h => by
    rw [World.setCells, heap_setCells_far g r (o + 1) _ k h]
    exact Below.heap_setCell w ⟨g, o, none⟩ v k h
theorem size_setCellsW (g : Nat) : ∀ (vs : List Value) (o : Nat) (w : World), (w.setCells g o vs).heap.size = w.heap.size ∧ (w.setCells g o vs).os = w.os ∧ (w.setCells g o vs).tape = w.tape ∧ (w.setCells g o vs).output = w.output
  | [], _, _ => ⟨rfl, rfl, rfl, rfl⟩
  | v :: r, o, w => by
    obtain ⟨h1, h2, h3, h4⟩ := size_setCellsW g r (o + 1) (w.setCell ⟨g, o, none⟩ v)
    rw [World.setCells]
    have h := (KpR.refl [g] w).put (a := ⟨g, o, none⟩) (.inr (by simp)) v
    refine ⟨h1.trans ?_, h2.trans h.os, h3.trans h.tape, h4.trans h.output⟩
    exact World.size_setCell _ _ _
/-- More is appended. -/
theorem run_append_win {P : Program} (w : World) (B : Nat) (t ty e : TypeId) (i : TypeInfo) (z : Value) (bytes : Nat) (ht : P.underlying t = some (.slice e)) (hi : P.info? e = some i) (hz : i.zero = some z)
    (hsize : i.size = 1) (hby : i.bytes = bytes) (hzs : z.cells.size = 1) (v : Value) (n : Nat) (xs : List Value) (hwin : Win w B v n xs) (hv : 0 < n ∨ ∃ a c, v = .slice (some a) n c) (src : Value) (m : Nat) (news : List Value) (hsrc : Sl w src 1 m news) (h1 : ∀ u ∈ news, u.oneCell' = true)
    (h63 : n + m ≤ maxLen) (hbytes : (n + m) * bytes ≤ 140737488355328) (hbase : B ≤ w.heap.size) :
    ∃ v' w', (Builtin.append_ #[t, t] ty #[v, src]).run P w = .ok v' w' ∧ Win w' B v' (n + m) (xs ++ news) ∧ w.grownBy w' v.ownBlock ∧ (v'.ownBlock = v.ownBlock ∨ ∀ g, v'.ownBlock = some g → w.heap.size ≤ g) := by
  obtain ⟨hl, hle, hat⟩ := hwin
  obtain ⟨hl2, _, hs⟩ := hsrc
  rw [Nat.mul_one] at hl2
  rcases hat with ⟨c, rfl, h0⟩ | ⟨g, off, cap, rfl, hB, hg, hnc, hcm, hroom, hcell⟩
  · exfalso
    rcases hv with hv | ⟨a, c', hv⟩
    · omega
    · cases hv
  by_cases hm : m = 0
  · subst hm
    have hn : news = [] := List.eq_nil_of_length_eq_zero hl2
    subst hn
    obtain ⟨p, c, rfl⟩ : ∃ p c, src = .slice p 0 c := by
      rcases hs with ⟨h, _⟩ | ⟨b, o, c, rfl, _⟩
      · exact h
      · exact ⟨_, _, rfl⟩
    refine ⟨.slice (some ⟨g, off, none⟩) n cap, w, ?_, ⟨by simp [hl], by omega, .inr ⟨g, off, cap, rfl, hB, hg, hnc, hcm, hroom, by simpa using hcell⟩⟩, ⟨rfl, rfl, rfl, Nat.le_refl _, fun _ _ _ => rfl⟩, .inl rfl⟩
    have hnc' : n + 0 ≤ cap := by omega
    simp [Builtin.append_, run_underlying ht, sizeOf, typeInfo, hi, Builtin.lenOf, Builtin.firstCells, loadCells, loadCellsFrom, storeCells, hnc]
    cases p <;> simp [Builtin.firstCells, loadCells, loadCellsFrom, storeCells]
  · rcases hs with ⟨_, h0⟩ | ⟨b2, o2, c2, rfl, hb2, hc2⟩
    · omega
    have hnews : ∀ j u, news[j]? = some u → w.cell? ((⟨b2, o2, none⟩ : Addr).add j) = some u := fun j u hu => by
      have hadd : (⟨b2, o2, none⟩ : Addr).add j = ⟨b2, o2 + j, none⟩ := by unfold Addr.add; split <;> simp_all
      rw [hadd]; exact hc2 j u hu
    by_cases hr : n + m ≤ cap
    · have hrun := run_append_room_cells (P := P) w t ty e i ht hi g off n cap ⟨b2, o2, none⟩ m c2 news (by rw [hsize, Nat.mul_one]; exact hl2) hnews h1 hr (fun j hj => by
        rw [hsize, Nat.mul_one, Nat.add_assoc]
        exact (hroom (n + j) (by omega)).1) (fun j hj => by
        rw [hsize, Nat.mul_one, Nat.add_assoc]
        exact (hroom (n + j) (by omega)).2)
      rw [hsize, Nat.mul_one] at hrun
      obtain ⟨s1, s2, s3, s4⟩ := size_setCellsW g news (off + n) w
      refine ⟨_, _, hrun, ⟨by rw [List.length_append, hl, hl2], h63, .inr ⟨g, off, cap, rfl, hB, by rw [s1]; exact hg, hr, hcm, fun j hj => ?_, fun j u hu => ?_⟩⟩, ⟨s2, s3, s4, by rw [s1]; exact Nat.le_refl _, fun k _ hk => heap_setCells_far g news _ w k (fun e => hk (by simp [Value.ownBlock, e]))⟩, .inl rfl⟩
      · rw [World.frozen?_setCells]
        refine ⟨?_, (hroom j hj).2⟩
        by_cases h : n ≤ j ∧ j < n + news.length
        · have := World.cell?_setCells_in g news (off + n) w (fun i hi => by rw [Nat.add_assoc]; exact (hroom (n + i) (by omega)).1) (j - n) (by omega)
          rw [show off + n + (j - n) = off + j by omega] at this
          rw [this]; rfl
        · rw [World.cell?_setCells_out g news (off + n) w _ (fun _ _ => by show off + j < _ ∨ _ ≤ off + j; omega)]
          exact (hroom j hj).1
      · by_cases h : j < n
        · rw [List.getElem?_append_left (by omega)] at hu
          rw [World.cell?_setCells_out g news (off + n) w _ (fun _ _ => by show off + j < _ ∨ _ ≤ off + j; omega)]
          exact hcell j u hu
        · rw [List.getElem?_append_right (by omega), hl] at hu
          obtain ⟨hj, he⟩ := List.getElem?_eq_some_iff.1 hu
          have := World.cell?_setCells_in g news (off + n) w (fun i hi => by rw [Nat.add_assoc]; exact (hroom (n + i) (by omega)).1) (j - n) hj
          rw [show off + n + (j - n) = off + j by omega, he] at this
          exact this
    · obtain ⟨v', w', hrun, hown, hgr⟩ := run_append_arg_grows (P := P) w t ty e i z 1 bytes ht hi hz hsize hby hzs (by decide) ⟨g, off, none⟩ n cap xs (by omega) (fun j u hu => by
        have hadd : (⟨g, off, none⟩ : Addr).add j = ⟨g, off + j, none⟩ := by unfold Addr.add; split <;> simp_all
        rw [hadd]; exact hcell j u hu) ⟨b2, o2, none⟩ m c2 news (by omega) hnews (by omega) h63 hbytes
      refine ⟨v', w', hrun, (Win.of_owns hown).low hbase, ⟨hgr.os, hgr.tape, hgr.output, hgr.size, fun k hk _ => hgr.block k hk (by simp)⟩, .inr (fun g hg => (World.ownsRow.lt hown g hg).1)⟩

theorem wpList_append_win {P : Program} {w : World} {ops : Array Oper} {rest : List Oper} {o : Oper} {a : Act} {Q : Exit → Act → World → Prop} (hgd : o.guard = none) (s x : Operand) (t : TypeId)
    (ho : o.op = .call { callee := .builtin .append, args := #[s, x], argTypes := #[t, t] })
    (B : Nat) (e : TypeId) (i : TypeInfo) (z : Value) (bytes : Nat) (ht : P.underlying t = some (.slice e)) (hi : P.info? e = some i) (hz : i.zero = some z)
    (hsize : i.size = 1) (hby : i.bytes = bytes) (hzs : z.cells.size = 1) (v : Value) (n : Nat) (xs : List Value) (hs : a.eval s = v) (hwin : Win w B v n xs) (hv : 0 < n ∨ ∃ a c, v = .slice (some a) n c) (src : Value) (m : Nat) (news : List Value) (hx : a.eval x = src) (hsrc : Sl w src 1 m news) (h1 : ∀ u ∈ news, u.oneCell' = true)
    (h63 : n + m ≤ maxLen) (hbytes : (n + m) * bytes ≤ 140737488355328) (hbase : B ≤ w.heap.size)
    (h : ∀ v' w', Win w' B v' (n + m) (xs ++ news) → w.grownBy w' v.ownBlock → (v'.ownBlock = v.ownBlock ∨ ∀ g, v'.ownBlock = some g → w.heap.size ≤ g) → wpList P ops Q rest (a.put o.dst v') w') :
    wpList P ops Q (o :: rest) a w := by
  refine wpList_plain hgd fun K hK => ?_
  obtain ⟨v', w', hr, h2, h3, h5⟩ := run_append_win (P := P) w B t o.type e i z bytes ht hi hz hsize hby hzs v n xs hwin hv src m news hsrc h1 h63 hbytes hbase
  unfold Oper.wp execOp
  simp only [ho, resolve, invoke, builtin, Sem.run_bind, Sem.run_pure, Result.andThen_ok, List.map_toArray, List.map_cons, List.map_nil, hs, hx, hr]
  exact hK _ _ (h v' w' h2 h3 h5)

end Go.Proofs.YtkkopdmemjncdaaGreatDoor

/- bolterlaw6.reaches: all that a definition uses, and what these use. Printed by gen_nmre.py. A bound of how many there are. -/
namespace Go.Proofs.YtkkopdmemjncdaaGreatDoor
open Go Go.RowKit

/-- It is reached in one step or more. -/
def Rch (U : List (List Nat)) (i x : Nat) : Prop := ∃ n, wayN U (n + 1) i x
theorem Rch.one {U : List (List Nat)} {i x : Nat} (h : x ∈ U[i]?.getD []) : Rch U i x := ⟨0, x, h, rfl⟩
theorem Rch.step {U : List (List Nat)} {i x y : Nat} (h : Rch U i x) (hy : y ∈ U[x]?.getD []) : Rch U i y := by
  obtain ⟨n, h⟩ := h
  exact ⟨n + 1, wayN_add U (n + 1) 1 i x y h ⟨y, hy, rfl⟩⟩
/-- What has been reached, and what waits. -/
structure RcI (U : List (List Nat)) (i : Nat) (O T : List Nat) : Prop where
  nodup : O.Nodup
  lt : ∀ x ∈ O, x < U.length
  ltw : ∀ x ∈ T, x < U.length
  rch : ∀ x ∈ O, Rch U i x
  rchw : ∀ x ∈ T, Rch U i x
  closed : ∀ x ∈ O, ∀ u ∈ U[x]?.getD [], u ∈ O ∨ u ∈ T
  start : ∀ u ∈ U[i]?.getD [], u ∈ O ∨ u ∈ T
  bound : T.length ≤ (O.length + 1) * 1048576
theorem RcI.le {U : List (List Nat)} {i : Nat} {O T : List Nat} (h : RcI U i O T) : O.length ≤ U.length := nodup_le _ _ h.nodup h.lt
theorem RcI.init {U : List (List Nat)} {i : Nat} {r : List Nat} (hr : U[i]? = some r) (hU : ∀ (i : Nat) (r : List Nat), U[i]? = some r → ∀ x ∈ r, x < U.length) (hb : r.length ≤ 1048576) : RcI U i [] r := by
  have e : U[i]?.getD [] = r := by rw [hr]; rfl
  exact ⟨List.nodup_nil, (fun x hx => by cases hx), hU i r hr, (fun x hx => by cases hx), fun x hx => Rch.one (by rw [e]; exact hx), (fun x hx => by cases hx), fun u hu => .inr (by rw [e] at hu; exact hu), by simpa using hb⟩
theorem RcI.skip {U : List (List Nat)} {i x : Nat} {O T : List Nat} (h : RcI U i O (x :: T)) (hx : x ∈ O) : RcI U i O T :=
  ⟨h.nodup, h.lt, fun y hy => h.ltw y (List.mem_cons_of_mem _ hy), h.rch, fun y hy => h.rchw y (List.mem_cons_of_mem _ hy), fun y hy u hu => (h.closed y hy u hu).elim .inl (fun hm => (List.mem_cons.1 hm).elim (fun e => .inl (e ▸ hx)) .inr),
    fun u hu => (h.start u hu).elim .inl (fun hm => (List.mem_cons.1 hm).elim (fun e => .inl (e ▸ hx)) .inr), by have := h.bound; rw [List.length_cons] at this; omega⟩
theorem RcI.take {U : List (List Nat)} {i x : Nat} {O T r : List Nat} (h : RcI U i O (x :: T)) (hx : x ∉ O) (hr : U[x]? = some r) (hU : ∀ (i : Nat) (r : List Nat), U[i]? = some r → ∀ x ∈ r, x < U.length) (hb : r.length ≤ 1048576) : RcI U i (O ++ [x]) (T ++ r) := by
  have e : U[x]?.getD [] = r := by rw [hr]; rfl
  have hrx := h.rchw x (by simp)
  refine ⟨?_, fun y hy => ?_, fun y hy => ?_, fun y hy => ?_, fun y hy => ?_, fun y hy u hu => ?_, fun u hu => ?_, ?_⟩
  · rw [List.nodup_append]
    refine ⟨h.nodup, by simp, fun a ha b hb => ?_⟩
    rw [List.mem_singleton] at hb
    subst hb
    exact fun e => hx (e ▸ ha)
  · rcases List.mem_append.1 hy with hy | hy
    · exact h.lt y hy
    · rw [List.mem_singleton.1 hy]; exact h.ltw x (by simp)
  · rcases List.mem_append.1 hy with hy | hy
    · exact h.ltw y (List.mem_cons_of_mem _ hy)
    · exact hU x r hr y hy
  · rcases List.mem_append.1 hy with hy | hy
    · exact h.rch y hy
    · rw [List.mem_singleton.1 hy]; exact hrx
  · rcases List.mem_append.1 hy with hy | hy
    · exact h.rchw y (List.mem_cons_of_mem _ hy)
    · exact hrx.step (by rw [e]; exact hy)
  · rcases List.mem_append.1 hy with hy | hy
    · rcases h.closed y hy u hu with hm | hm
      · exact .inl (List.mem_append_left _ hm)
      · rcases List.mem_cons.1 hm with rfl | hm
        · exact .inl (by simp)
        · exact .inr (List.mem_append_left _ hm)
    · rw [List.mem_singleton.1 hy, e] at hu
      exact .inr (List.mem_append_right _ hu)
  · rcases h.start u hu with hm | hm
    · exact .inl (List.mem_append_left _ hm)
    · rcases List.mem_cons.1 hm with rfl | hm
      · exact .inl (by simp)
      · exact .inr (List.mem_append_left _ hm)
  · have := h.bound
    rw [List.length_cons] at this
    rw [List.length_append, List.length_append, List.length_singleton]
    omega
theorem closed_rch {U : List (List Nat)} {O : List Nat} (hc : ∀ x ∈ O, ∀ u ∈ U[x]?.getD [], u ∈ O) : ∀ (n k x : Nat), k ∈ O → wayN U n k x → x ∈ O
  | 0, k, x, hk, hw => by
    have e : k = x := hw
    exact e ▸ hk
  | n + 1, k, x, hk, ⟨m, hm, hw⟩ => closed_rch hc n m x (hc k hk m hm) hw
theorem RcI.stop {U : List (List Nat)} {i : Nat} {O : List Nat} (h : RcI U i O []) (x : Nat) : x ∈ O ↔ Rch U i x :=
  ⟨h.rch x, fun ⟨n, k, hk, hw⟩ => closed_rch (fun x hx u hu => (h.closed x hx u hu).resolve_right (by simp)) n k x ((h.start k hk).resolve_right (by simp)) hw⟩

theorem natV_vI (l : List Nat) : l.map natV = (l.map (fun n : Nat => (n : Int))).map vI := by rw [List.map_map]; rfl
set_option maxRecDepth 100000 in
theorem copyN_any (v : Value) (n : Nat) (xs : List Value) (w : World) (h : Sl w v 1 n xs) (hz : Nily v) (hb : n * 8 ≤ 140737488355328) (h1 : ∀ u ∈ xs, u.oneCell' = true) :
    Calls Tryz.prog 58 #[v] w fun e w' => ∃ v', e = .returned v' ∧ w'.ownsRow w.heap.size 3 1 v' n xs ∧ Gr w w' := by
  obtain ⟨i0, hi, hz0, hz1, hz2⟩ := info_parts info_intN
  have hl := h.1
  have hmx := h.2.1
  obtain ⟨ao, c, rfl, hnone, hsome⟩ := src_of h hz
  clear h hz
  go_enter Tryz.func58, Tryz.ntmps58
  go_wp2_with (at_builtin; refine wpList_append_own_any rfl (.tmp 4) (.tmp 5) 32 rfl w.heap.size 3 i0 (.int .i64 0) 1 8 Tryz.underlying32 hi hz0 hz1 hz2 rfl (by decide) _ 0 [] rfl (World.ownsRow_nil _ _ _ _) ao n c xs rfl hl hnone hsome h1 ?c2 ?c3 (Nat.le_refl _) ?_)
  case c2 => rw [Nat.zero_add]; exact hmx
  case c3 => rw [Nat.zero_add]; exact hb
  intro v' w' hown hg _
  go_wp2
  go_ret
  refine ⟨v', rfl, ?_, Gr.grown (Gr.refl _) hg (fun k hk => by cases hk)⟩
  simpa using hown
def lenM : Value → Nat
  | .slice _ n _ => n
  | _ => 0
theorem natV_one (l : List Nat) : ∀ u ∈ l.map natV, u.oneCell' = true := by
  intro u hu
  obtain ⟨x, _, rfl⟩ := List.mem_map.1 hu
  rfl
theorem Win.cons {w : World} {B n : Nat} {v : Value} {x : Value} {xs : List Value} (h : Win w B v n (x :: xs)) : ∃ m g off cap, n = m + 1 ∧ v = .slice (some ⟨g, off, none⟩) (m + 1) cap ∧ 0 < cap ∧ xs.length = m ∧ g < w.heap.size ∧ w.cell? ⟨g, off, none⟩ = some x := by
  have hl := h.len
  rw [List.length_cons] at hl
  subst hl
  rcases h.at_ with ⟨c, _, h0⟩ | ⟨g, off, cap, rfl, _, h2, h3, _, _, h6⟩
  · omega
  · exact ⟨_, g, off, cap, rfl, rfl, by omega, rfl, h2, by simpa using h6 0 x rfl⟩

set_option maxRecDepth 100000 in
set_option maxHeartbeats 8000000 in
theorem reaches_any (U : List (List Nat)) (nd i : Nat) (v : Value) (w : World) (hU : RowsY w v U) (hn : U.length = nd) (hnd : nd ≤ 1048576) (hi : i < nd) (hin : ∀ (i : Nat) (r : List Nat), U[i]? = some r → ∀ x ∈ r, x < U.length) (hlen : ∀ (i : Nat) (r : List Nat), U[i]? = some r → r.length ≤ 1048576) :
    Calls Tryz.prog 25 #[v, .int .i64 (i : Int)] w fun e w' => ∃ (v' : Value) (O : List Nat), e = .returned v' ∧ Sl w' v' 1 O.length (O.map natV) ∧ (∀ x, x ∈ O ↔ Rch U i x) ∧ Gr w w' := by
  obtain ⟨i1, ki, ky0, ky1, ky2⟩ := info_parts info_intN
  obtain ⟨pl, cl, rfl⟩ : ∃ p c, v = .slice p nd c := by
    obtain ⟨vs, _, h, _⟩ := hU.sl
    rw [hn] at h
    exact h.len
  obtain ⟨r0, hr0⟩ : ∃ r, U[i]? = some r := ⟨_, List.getElem?_eq_getElem (by omega)⟩
  obtain ⟨bl, ol, u0, rfl, hbl, hc0, hs0, hy0⟩ := hU.row hr0
  obtain ⟨p0, c0, rfl⟩ := hs0.len
  have HU := Lib.hid hU
  have HN := Lib.hid hn
  have HIN := Lib.hid hin
  have HLE := Lib.hid hlen
  have HBL := Lib.hid hbl
  have HND := Lib.hid hnd
  have hndI : (nd : Int) ≤ 1048576 := by omega
  have hiI : (i : Int) < (nd : Int) := by omega
  have HRC := Lib.hid (RcI.init hr0 hin (hlen i r0 hr0))
  have HCP := Lib.hid (copyN_any _ _ _ w hs0 hy0 (by have := hlen i r0 hr0; omega) (natV_one r0))
  obtain ⟨m0, hm0⟩ : ∃ m, r0.length = m := ⟨_, rfl⟩
  rw [hm0] at HCP hc0
  have HM0 := Lib.hid hm0
  clear hU hn hin hlen hi hr0 hs0 hy0 hm0 hnd
  go_enter Tryz.func25, Tryz.ntmps25
  go_wp2_with fail
  go_at_call 58
  (with_reducible refine HCP.out.mono ?_); rintro e w2 ⟨v2, rfl, ho2, hg2⟩
  obtain ⟨p2, c2, rfl⟩ := (Sl.of_owns ho2).len
  have HW2 := Lib.hid (Win.of_owns ho2)
  have HG2 := Lib.hid hg2
  clear ho2 hg2 hc0 hbl
  go_wp2_with fail
  go_loopw [5, 6] (fun ov wv wr => ∃ (O T : List Nat) (no nt : Nat), O.length = no ∧ T.length = nt ∧ Hid (wr.ownsRow w.heap.size 3 1 ov no (O.map natV)) ∧ Hid (Win wr w.heap.size wv nt (T.map natV)) ∧ Hid (∀ g, ov.ownBlock = some g → wv.ownBlock ≠ some g) ∧ Hid (Gr w wr) ∧ Hid (RcI U i O T)) (fun ov wv _ => (nd - lenM ov) * 2097152 + lenM wv)
  case atStart => exact ⟨[], r0, 0, m0, rfl, HM0.out, Lib.hid (World.ownsRow_nil _ _ _ _), HW2, Lib.hid (fun g hg => by cases hg), HG2, HRC⟩
  case round =>
    clear HW2 HG2 HRC
    obtain ⟨O, T, no, nt, hno, hnt, HO, HT, HAP, HG, HR⟩ := hrel
    have ho := HO.out
    obtain ⟨po, co, rfl⟩ := (Sl.of_owns ho).len
    have hle := HR.out.le
    rw [hno, HN.out] at hle
    have HNO := Lib.hid hno
    have HLO := Lib.hid hle
    have hbd := HR.out.bound
    rw [hno, hnt] at hbd
    have HBD := Lib.hid hbd
    clear ho hbd
    cases T with
    | nil =>
      have hz : nt = 0 := by rw [← hnt]; rfl
      subst hz
      have ht := HT.out.sl
      obtain ⟨pt, ct, rfl⟩ := ht.len
      have HE := Lib.hid HR.out.stop
      clear hno hnt hle ht HBD
      go_wp2_with fail
      go_ret
      exact ⟨_, O, rfl, by rw [HNO.out]; exact Sl.of_owns HO.out, HE.out, HG.out⟩
    | cons x T =>
      obtain ⟨m, g, off, cap, hm, rfl, hcp, hTl, hgl, kw⟩ := HT.out.cons
      subst hm
      rw [List.length_map] at hTl
      have hxn := HR.out.ltw x (by simp)
      rw [HN.out] at hxn
      obtain ⟨rx, hrx⟩ : ∃ r, U[x]? = some r := ⟨_, List.getElem?_eq_getElem (by rw [HN.out]; exact hxn)⟩
      have HRX := Lib.hid hrx
      obtain ⟨b', o', ux, hp', hbl', hcx, hsx, hyx⟩ := HU.out.row hrx
      injection hp' with hp'
      injection hp' with hp1 hp2
      subst hp1 hp2
      obtain ⟨mx, hmx⟩ : ∃ m, rx.length = m := ⟨_, rfl⟩
      have hmb := HLE.out x rx hrx
      rw [hmx] at hsx hmb
      obtain ⟨pu, cu, rfl⟩ := hsx.len
      have HMX := Lib.hid hmx
      have HMB := Lib.hid hmb
      have HSX := Lib.hid hsx
      have HXN := Lib.hid hxn
      have HTL := Lib.hid hTl
      have HTW := Lib.hid (Win.tail HT.out)
      have hxI : (x : Int) < (nd : Int) := by omega
      have hcI : (0 : Int) < (cap : Int) := by omega
      have HHS := Lib.hid (has_any6 O (.slice po no co) (x : Int) wr (by rw [HNO.out]; exact Sl.of_owns HO.out))
      rw [any_inN] at HHS
      have HCX := Lib.hid hcx
      have hmI : (m : Int) ≤ 9223372036854775806 := by have := HT.out.le; unfold maxLen at this; omega
      unfold natV at kw
      clear hno hnt hle hrx hsx hyx hmx hmb hxn hTl hcx
      have HAG := Lib.hid (show ∀ k, (Value.slice po no co).ownBlock = some k → k ≠ g from fun k hk e => HAP.out k hk (by rw [e]; rfl))
      have HGL := Lib.hid hgl
      obtain ⟨q, hq⟩ : ∃ q, inN O x = q := ⟨_, rfl⟩
      rw [hq] at HHS
      have HQ := Lib.hid hq
      clear hq
      by_cases hc1 : cap = 1
      focus
        have HWT := Lib.hid (HTW.out.2 hc1)
        go_upto_region 6 with fail
      rotate_left
      focus
        have HWT := Lib.hid HTW.out.1
        go_upto_region 6 with fail
      all_goals
        clear HTW hc1 kw hcp hcI hgl HT HAP HCP
        cases q with
        | true =>
          have HRS := Lib.hid (HR.out.skip (of_decide_eq_true HQ.out))
          go_wp2_with fail
          go_at_call 24
          (with_reducible refine HHS.out.mono ?_); rintro e w3 ⟨rfl, hg3⟩
          have HG3 := Lib.hid hg3
          clear hg3
          go_wp2_with fail
          go_roundw
          case rel => exact ⟨O, T, no, m, HNO.out, HTL.out, Lib.hid (owns_later HO.out HG3.out), Lib.hid (HWT.out.later HG3.out), Lib.hid (fun k hk e => HAG.out k hk (by injection e with e; exact e.symm)), Lib.hid (HG.out.trans HG3.out), HRS⟩
          case measure => simp [lenM]
        | false =>
          have HRT := Lib.hid (HR.out.take (of_decide_eq_false HQ.out) HRX.out HIN.out (HLE.out x rx HRX.out))
          have HLT := Lib.hid (show no + 1 ≤ nd by have := HRT.out.le; rw [List.length_append, List.length_singleton, HNO.out, HN.out] at this; exact this)
          go_wp2_with fail
          go_at_call 24
          (with_reducible refine HHS.out.mono ?_); rintro e w3 ⟨rfl, hg3⟩
          have HG3 := Lib.hid (HG.out.trans hg3)
          have HO3 := Lib.hid (owns_later HO.out hg3)
          have HW3 := Lib.hid (HWT.out.later hg3)
          have HGL3 := Lib.hid (Nat.lt_of_lt_of_le HGL.out hg3.size)
          clear hg3
          go_wp2_with (first
            | (at_builtin; refine wpList_append_own_at _ rfl (.tmp 25) (.tmp 27) 32 rfl w.heap.size 3 i1 (.int .i64 0) 1 8 Tryz.underlying32 ki ky0 ky1 ky2 rfl (by decide) _ no (O.map natV) rfl (HO3.out.alloc _) ⟨w3.heap.size, 0, none⟩ 1 1 [.int .i64 (x : Int)] rfl rfl (new_cells _ _ _) (by intro u hu; simp at hu; subst hu; rfl) (by have := HLT.out; have := HND.out; unfold maxLen; omega) (by have := HLT.out; have := HND.out; omega) (Nat.le_trans HG3.out.size (Gr.alloc _ _).size) ?_; intro v' w4 hown4 hg4 _ hloc; obtain ⟨p4, c4', rfl⟩ := (Sl.of_owns hown4).len; have HOW4 := Lib.hid hown4; have HG4 := Lib.hid (Gr.grown (HG3.out.trans (Gr.alloc _ _)) hg4 (fun k hk => (World.ownsRow.lt HO3.out k hk).1)); have HW4 := Lib.hid ((HW3.out.later (Gr.alloc w3 (.cells #[.int .i64 (x : Int)] 3))).heap hg4.size (fun k hk => hg4.block k (Nat.lt_of_lt_of_le (HW3.out.lt k hk).2 (Gr.alloc _ _).size) (fun e => HAG.out k e.symm (by injection hk with hk; exact hk.symm)))); have HAP4 := Lib.hid (show ∀ k, (Value.slice p4 (no + 1) c4').ownBlock = some k → k ≠ g from fun k hk e => by rcases hloc with h | h; exact HAG.out k (h.symm.trans hk) e; rw [hk] at h; injection h with h; have h1 := HGL3.out; have h2 := (Gr.alloc w3 (.cells #[.int .i64 (x : Int)] 3)).size; omega); have kx := HG4.out.cell HCX.out; have hbl4 := Nat.lt_of_lt_of_le HBL.out HG4.out.size; have HS4 := Lib.hid (HSX.out.later HG4.out); clear hown4 hg4 hloc)
            | (at_builtin; refine wpList_append_win rfl (.tmp 29) (.tmp 33) 32 rfl w.heap.size 3 i1 (.int .i64 0) 8 Tryz.underlying32 ki ky0 ky1 ky2 rfl _ m (T.map natV) rfl HW4.out (.inr ⟨_, _, rfl⟩) _ mx (rx.map natV) rfl HS4.out (natV_one rx) (by have := HBD.out; have := HLO.out; have := HND.out; have := HMB.out; unfold maxLen; omega) (by have := HBD.out; have := HLO.out; have := HND.out; have := HMB.out; omega) HG4.out.size ?_; intro v5 w5 hwin5 hg5 hloc5; obtain ⟨p5, c5, rfl⟩ := hwin5.sl.len; have HW5 := Lib.hid hwin5; have HO5 := Lib.hid (World.ownsRow.kept HOW4.out hg5 (.inr (fun e => HAP4.out g e rfl))); have HG5 := Lib.hid (Gr.grown HG4.out hg5 (fun k hk => (HW4.out.lt k hk).1)); have HAP5 := Lib.hid (show ∀ k, (Value.slice p4 (no + 1) c4').ownBlock = some k → (Value.slice p5 (m + mx) c5).ownBlock ≠ some k from fun k hk e => by rcases hloc5 with h | h; exact HAP4.out k hk (by have h6 := h.symm.trans e; injection h6 with h6; exact h6.symm); have h1 := h k e; have h2 := (World.ownsRow.lt HOW4.out k hk).2; omega); clear hwin5 hg5 hloc5))
          go_roundw
          case rel => exact ⟨O ++ [x], T ++ rx, no + 1, m + mx, by rw [List.length_append, HNO.out]; rfl, by rw [List.length_append, HTL.out, HMX.out], Lib.hid (by rw [List.map_append]; exact HO5.out), Lib.hid (by rw [List.map_append]; exact HW5.out), HAP5, HG5, HRT⟩
          case measure => have := HLT.out; have := HMB.out; simp [lenM]; omega


end Go.Proofs.YtkkopdmemjncdaaGreatDoor

/- The way back that a refusal tells, plain. No condition. -/
namespace Go.Proofs.YtkkopdmemjncdaaGreatDoor
open Go Go.RowKit

theorem far_pos {U : List (List Nat)} {fr : Nat} {far : List Int} (h : FarOk U fr far) {i : Nat} (hne : i ≠ fr) (h0 : 0 ≤ farAt far i) : 1 ≤ farAt far i := by
  obtain ⟨k, _, h1, h2⟩ := h.step i hne h0
  omega
/-- Each uses the next one, the last one the first; all come nearer. -/
def WayT (U : List (List Nat)) (far : List Int) (fr : Nat) : List Nat → Prop
  | [] => False
  | [x] => x ≠ fr ∧ x < U.length ∧ fr ∈ U[x]?.getD []
  | x :: y :: l => x ≠ fr ∧ x < U.length ∧ y ∈ U[x]?.getD [] ∧ farAt far y < farAt far x ∧ WayT U far fr (y :: l)
theorem path_way {U : List (List Nat)} {fr : Nat} {far : List Int} (h : FarOk U fr far) (hU : ∀ (i k : Nat), k ∈ U[i]?.getD [] → k < U.length) : ∀ (n i : Nat), i < U.length → i ≠ fr → 0 ≤ farAt far i → farAt far i ≤ (n : Int) → ∃ l, pathP U far fr n i = i :: l ∧ WayT U far fr (i :: l)
  | 0, i, hi, hne, h0, hb => by
    have := far_pos h hne h0
    omega
  | n + 1, i, hi, hne, h0, hb => by
    obtain ⟨k, hk, he⟩ := h.next hi hne h0
    obtain ⟨hm, hk0, _⟩ := near_some hk
    by_cases e : k = fr
    · refine ⟨[], ?_, hne, hi, e ▸ hm⟩
      rw [pathP, hk]
      simp only [if_pos e]
    · obtain ⟨l, hl, hw⟩ := path_way h hU n k (hU i k hm) e hk0 (by omega)
      refine ⟨k :: l, ?_, hne, hi, hm, by omega, hw⟩
      rw [pathP, hk]
      simp only [if_neg e, hl]
theorem wayT_lt {U : List (List Nat)} {fr : Nat} {far : List Int} : ∀ l, WayT U far fr l → ∀ x ∈ l, x < U.length ∧ x ≠ fr
  | [], h, _, _ => h.elim
  | [y], h, x, hx => by
    rw [List.mem_singleton.1 hx]
    exact ⟨h.2.1, h.1⟩
  | y :: z :: l, h, x, hx => by
    rcases List.mem_cons.1 hx with rfl | hx
    · exact ⟨h.2.1, h.1⟩
    · exact wayT_lt (z :: l) h.2.2.2.2 x hx
theorem wayT_far {U : List (List Nat)} {fr : Nat} {far : List Int} : ∀ x l, WayT U far fr (x :: l) → (∀ y ∈ l, farAt far y < farAt far x) ∧ (x :: l).Nodup
  | x, [], _ => ⟨(fun y hy => by cases hy), by simp⟩
  | x, z :: l, h => by
    obtain ⟨h1, h2⟩ := wayT_far z l h.2.2.2.2
    have h3 := h.2.2.2.1
    have h4 : ∀ y ∈ z :: l, farAt far y < farAt far x := fun y hy => by
      rcases List.mem_cons.1 hy with rfl | hy
      · exact h3
      · have := h1 y hy
        omega
    refine ⟨h4, ?_⟩
    rw [List.nodup_cons]
    exact ⟨fun hm => by have := h4 x hm; omega, h2⟩
theorem wayT_link {U : List (List Nat)} {fr : Nat} {far : List Int} : ∀ l, WayT U far fr l → ∀ (j x : Nat), l[j]? = some x → (∃ y, l[j + 1]? = some y ∧ y ∈ U[x]?.getD []) ∨ (j + 1 = l.length ∧ fr ∈ U[x]?.getD [])
  | [], h, _, _, _ => h.elim
  | [y], h, j, x, hx => by
    cases j with
    | zero =>
      simp at hx
      subst hx
      exact .inr ⟨rfl, h.2.2⟩
    | succ j => simp at hx
  | y :: z :: l, h, j, x, hx => by
    cases j with
    | zero =>
      simp at hx
      subst hx
      exact .inl ⟨z, rfl, h.2.2.1⟩
    | succ j =>
      rw [List.getElem?_cons_succ] at hx
      rcases wayT_link (z :: l) h.2.2.2.2 j x hx with h | ⟨h1, h2⟩
      · exact .inl h
      · exact .inr ⟨by rw [List.length_cons, h1], h2⟩
/-- A way back: the first, none twice, each uses the next, the last the first. -/
structure WayP (U : List (List Nat)) (fr : Nat) (P : List Nat) : Prop where
  pos : 0 < P.length
  le : P.length ≤ U.length
  first : P[0]? = some fr
  lt : ∀ x ∈ P, x < U.length
  nodup : P.Nodup
  link : ∀ (j x : Nat), P[j]? = some x → ∃ y, P[(j + 1) % P.length]? = some y ∧ y ∈ U[x]?.getD []
theorem path_all {U : List (List Nat)} {fr : Nat} {far : List Int} (h : FarOk U fr far) (hU : ∀ (i k : Nat), k ∈ U[i]?.getD [] → k < U.length) (hne : pathP U far fr (U.length + 1) fr ≠ []) : WayP U fr (pathP U far fr (U.length + 1) fr) := by
  rw [pathP] at hne ⊢
  cases hk : nearP far (U[fr]?.getD []) with
  | none => rw [hk] at hne; exact absurd rfl hne
  | some k =>
    simp only
    obtain ⟨hm, hk0, _⟩ := near_some hk
    by_cases e : k = fr
    · rw [if_pos e]
      subst e
      refine ⟨by simp, (by have := h.lt; rw [List.length_singleton]; omega), rfl, (fun x hx => by rw [List.mem_singleton.1 hx]; exact h.lt), by simp, fun j x hx => ?_⟩
      cases j with
      | zero =>
        simp at hx
        subst hx
        exact ⟨k, by simp, hm⟩
      | succ j => simp at hx
    · rw [if_neg e]
      have hb : farAt far k ≤ (U.length : Int) := by
        have h1 := h.cnt k
        have h2 := fin_le far
        rw [h.len] at h2
        omega
      obtain ⟨l, hl, hw⟩ := path_way h hU U.length k (hU fr k hm) e hk0 hb
      rw [hl]
      have hlt := wayT_lt _ hw
      have hnd : (fr :: k :: l).Nodup := by
        rw [List.nodup_cons]
        exact ⟨fun hm => (hlt fr hm).2 rfl, (wayT_far k l hw).2⟩
      have hal : ∀ x ∈ fr :: k :: l, x < U.length := fun x hx => by
        rcases List.mem_cons.1 hx with rfl | hx
        · exact h.lt
        · exact (hlt x hx).1
      refine ⟨by simp, nodup_le _ _ hnd hal, rfl, hal, hnd, fun j x hx => ?_⟩
      cases j with
      | zero =>
        simp at hx
        subst hx
        refine ⟨k, ?_, hm⟩
        rw [Nat.mod_eq_of_lt (by simp)]
        rfl
      | succ j =>
        rw [List.getElem?_cons_succ] at hx
        have hj := (List.getElem?_eq_some_iff.1 hx).1
        rcases wayT_link _ hw j x hx with ⟨y, h1, h2⟩ | ⟨h1, h2⟩
        · have hj2 := (List.getElem?_eq_some_iff.1 h1).1
          refine ⟨y, ?_, h2⟩
          rw [Nat.mod_eq_of_lt (by rw [List.length_cons]; omega), List.getElem?_cons_succ]
          exact h1
        · refine ⟨fr, ?_, h2⟩
          rw [show j + 1 + 1 = (fr :: k :: l).length by rw [List.length_cons, ← h1], Nat.mod_self]
          rfl
/-- The order is whole: nothing reaches itself. -/
theorem whole_cyc {U : List (List Nat)} (hl : (orderN U U.length []).length = U.length) {i : Nat} (hi : i < U.length) : ¬ Cyc U i := by
  have ho := orderN_ordered U U.length [] (ordered_nil U)
  generalize orderN U U.length [] = L at hl ho
  have hlt : ∀ x ∈ L, x < U.length := fun x hx => by
    obtain ⟨j, hj, rfl⟩ := List.mem_iff_getElem.1 hx
    exact (ho j _ (List.getElem?_eq_getElem hj)).1
  have hall : ∀ x, x < U.length → x ∈ L := fun x hx => by
    by_cases h : x ∈ L
    · exact h
    · have := nodup_le U.length (x :: L) (List.nodup_cons.2 ⟨h, ordered_nodup ho⟩) (fun y hy => by
        rcases List.mem_cons.1 hy with rfl | hy
        · exact hx
        · exact hlt y hy)
      rw [List.length_cons] at this
      omega
  have hstep : ∀ (a : Nat) (x k : Nat), L[a]? = some x → k ∈ U[x]?.getD [] → ∃ b, b < a ∧ L[b]? = some k := fun a x k hx hk => by
    have h1 := (ho a x hx).2.1
    unfold freeN at h1
    rw [Bool.and_eq_true, List.all_eq_true] at h1
    have h2 := of_decide_eq_true (h1.2 k hk)
    rw [List.mem_take_iff_getElem] at h2
    obtain ⟨b, hb, hbe⟩ := h2
    exact ⟨b, by omega, by rw [← hbe]; exact List.getElem?_eq_getElem (by omega)⟩
  have hway : ∀ (n a x y : Nat), L[a]? = some x → wayN U n x y → ∃ b, b + n ≤ a ∧ L[b]? = some y := fun n => by
    induction n with
    | zero =>
      intro a x y hx hw
      have e : x = y := hw
      exact ⟨a, by omega, e ▸ hx⟩
    | succ n ih =>
      intro a x y hx hw
      obtain ⟨k, hk, hw⟩ := hw
      obtain ⟨b, hb, hbk⟩ := hstep a x k hx hk
      obtain ⟨c, hc, hcy⟩ := ih b k y hbk hw
      exact ⟨c, by omega, hcy⟩
  rintro ⟨n, hn⟩
  obtain ⟨a, ha, hae⟩ := List.mem_iff_getElem.1 (hall i hi)
  obtain ⟨b, hb, hbe⟩ := hway (n + 1) a i i (by rw [← hae]; exact List.getElem?_eq_getElem ha) hn
  obtain ⟨hbl, hbe⟩ := List.getElem?_eq_some_iff.1 hbe
  have hnd := ordered_nodup ho
  rw [List.nodup_iff_pairwise_ne, List.pairwise_iff_getElem] at hnd
  exact hnd b a hbl ha (by omega) (hbe.trans hae.symm)
/-- Sorted rows tell the same. -/
theorem srt_row (U : List (List Nat)) (i : Nat) (x : Nat) : x ∈ (U.map srtN)[i]?.getD [] ↔ x ∈ U[i]?.getD [] := by
  rw [List.getElem?_map]
  cases U[i]? with
  | none => exact Iff.rfl
  | some r => exact srtN_mem
theorem srt_way (U : List (List Nat)) : ∀ (n i j : Nat), wayN (U.map srtN) n i j ↔ wayN U n i j
  | 0, _, _ => Iff.rfl
  | n + 1, i, j => by
    constructor
    · rintro ⟨k, hk, hw⟩
      exact ⟨k, (srt_row U i k).1 hk, (srt_way U n k j).1 hw⟩
    · rintro ⟨k, hk, hw⟩
      exact ⟨k, (srt_row U i k).2 hk, (srt_way U n k j).2 hw⟩
theorem srt_cyc (U : List (List Nat)) (i : Nat) : Cyc (U.map srtN) i ↔ Cyc U i :=
  ⟨fun ⟨n, h⟩ => ⟨n, (srt_way U _ i i).1 h⟩, fun ⟨n, h⟩ => ⟨n, (srt_way U _ i i).2 h⟩⟩
theorem cyc_rch (U : List (List Nat)) (i : Nat) : Cyc U i ↔ Rch U i i := Iff.rfl
theorem WayP.srt {U : List (List Nat)} {fr : Nat} {P : List Nat} (h : WayP (U.map srtN) fr P) : WayP U fr P :=
  ⟨h.pos, by have := h.le; rw [List.length_map] at this; exact this, h.first, fun x hx => by have := h.lt x hx; rw [List.length_map] at this; exact this, h.nodup, fun j x hx => by
    obtain ⟨y, h1, h2⟩ := h.link j x hx
    exact ⟨y, h1, (srt_row U x y).1 h2⟩⟩
theorem nmD_get {s : Sc} {x : Nat} (h : x < s.defs.length) : (defsN s)[x]? = some (nmD s x) := by
  have hx : x < (defsN s).length := by unfold defsN; rw [List.length_map]; exact h
  unfold nmD
  rw [List.getElem?_eq_getElem hx]; rfl
theorem atI_nmD {s : Sc} (hN : (defsN s).Nodup) {x : Nat} (h : x < s.defs.length) : atI (defsN s) (nmD s x) = (x : Int) := by
  have hg := nmD_get h
  rw [atI_some (memN_iff.2 (List.mem_of_getElem? hg)), (noOf_iff hN hg (nmD s x)).2 rfl]
theorem nmD_inj {s : Sc} (hN : (defsN s).Nodup) {x y : Nat} (hx : x < s.defs.length) (hy : y < s.defs.length) (h : nmD s x = nmD s y) : x = y := by
  have h1 := atI_nmD hN hx
  have h2 := atI_nmD hN hy
  rw [h, h2] at h1
  omega
theorem linksN_in {s : Sc} (h : Linked s) {i : Nat} {r : List Nat} (hr : (linksN s)[i]? = some r) : ∀ x ∈ r, x < (linksN s).length := by
  intro x hx
  unfold linksN at hr
  rw [List.getElem?_map] at hr
  cases hd : s.defs[i]? with
  | none => rw [hd] at hr; cases hr
  | some d =>
    rw [hd] at hr
    injection hr with hr
    subst hr
    obtain ⟨y, hy, rfl⟩ := List.mem_map.1 hx
    have := (noOf_some (h.uses d (List.mem_of_getElem? hd) y hy)).1
    rw [linksN_len]
    unfold defsN at this
    rw [List.length_map] at this
    exact this
theorem linksN_row {s : Sc} (hru : ∀ d ∈ s.defs, (refsE d.ex).length ≤ 1048576) {i : Nat} {r : List Nat} (hr : (linksN s)[i]? = some r) : r.length ≤ 1048576 := by
  unfold linksN at hr
  rw [List.getElem?_map] at hr
  cases hd : s.defs[i]? with
  | none => rw [hd] at hr; cases hr
  | some d =>
    rw [hd] at hr
    injection hr with hr
    subst hr
    rw [List.length_map, usesN_eq]
    exact Nat.le_trans (usesL_len _) (hru d (List.mem_of_getElem? hd))

end Go.Proofs.YtkkopdmemjncdaaGreatDoor
