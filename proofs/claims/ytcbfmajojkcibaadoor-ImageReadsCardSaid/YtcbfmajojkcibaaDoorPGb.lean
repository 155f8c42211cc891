/- Texts of mine, put together: Shelf, Owned, EqB. No condition but what each says. -/
import Derived.Shelf.Slices.Turned
import Derived.Ground.Names2Prog
import Derived.Shelf.Slices.Clone
import Derived.Test.YtcbfmajojkcibaaDoorProg
import Derived.Test.YtcbfmajojkcibaaDoorRows
import Derived.Test.YtcbfmajojkcibaaDoorPGa
import Derived.WalkSpells
import Derived.WalkLawsBesides
import Derived.Lib.Hide

/-
  DERIVED: THE SHELF's CONTRACTS AT THIS DUMP, IN PLAIN WORDS (tools/lay-plain.mjs out of 'TrydShelf.lean', which tools/lay-shelf.mjs wrote): THE SAME DECLARATIONS UNDER THE SAME NAMES: 'import', 'namespace', 'open', 'def', 'theorem' AND NOTHING ELSE: no command of the shelf's: FOR A HAND-IN. Each laying: the table of numbers ('.._ren') and one theorem, a field a fact of the dump's own or the kernel's comparison; each contract: ONE APPLICATION.
-/
namespace Go.Proofs
open Go.Shelf
def Tryd.lays109_ren : Go.Shelf.Ren := ⟨fun | 109 => 58 | n => n, fun | 31 => 26 | 9 => 9 | 3 => 3 | 0 => 0 | 4 => 4 | n => n, fun | n => n⟩
theorem Tryd.lays109 : Go.Proofs.Lays.n109 Tryd.prog Tryd.lays109_ren := {
  mixed := by kernel_rfl
  f109 := Tryd.func58.trans (congrArg some (by kernel_rfl))
  t0 := Tryd.underlying0
  a0 := Tryd.isAgg0
  z0 := Tryd.sizeOf0
  v0 := Tryd.zeroValue0
  t3 := Tryd.underlying3
  a3 := Tryd.isAgg3
  z3 := Tryd.sizeOf3
  v3 := Tryd.zeroValue3
  t4 := Tryd.underlying4
  a4 := Tryd.isAgg4
  z4 := Tryd.sizeOf4
  v4 := Tryd.zeroValue4
  t9 := Tryd.underlying9
  a9 := Tryd.isAgg9
  z9 := Tryd.sizeOf9
  v9 := Tryd.zeroValue9
  t31 := Tryd.underlying26
  a31 := Tryd.isAgg26
  z31 := Tryd.sizeOf26
  v31 := Tryd.zeroValue26 }
open Go.Lib in
/-- slices.Index at []string: "Index returns the index of the first occurrence of v in s, or -1 if not present.": IT RETURNS 'Lib.idxOfS (the elements) v'; the world is as it was. 'zs': what the cells behind the slice's address hold (its spare capacity too, if you have it); 'zs.take n': its elements. (LAID: no walk: one application.) -/
theorem Tryd.slices_Index_string (b off n c : Nat) (zs : List ByteArray) (x : ByteArray) (w : World) (hz : n ≤ zs.length) (hbig : n ≤ 9223372036854775807) (hc : ∀ j, j < zs.length → w.cell? ⟨b, off + j, none⟩ = some (.string (zs.getD j ByteArray.empty))) :
    Calls Tryd.prog 58 #[.slice (some ⟨b, off, none⟩) n c, .string x] w fun e w' => e = .returned (.int .i64 (Lib.idxOfS (zs.take n) x)) ∧ w' = w := Any.slices_Index_string Tryd.lays109 b off n c zs x w hz hbig hc
open Go.Lib in
/-- The same at a slice of length 0, a nil one too: no cell is known, none is asked for. (LAID: no walk: one application.) -/
theorem Tryd.slices_Index_string_empty (a : Option Addr) (c : Nat) (x : ByteArray) (w : World) :
    Calls Tryd.prog 58 #[.slice a 0 c, .string x] w fun e w' => e = .returned (.int .i64 (Lib.idxOfS [] x)) ∧ w' = w := Any.slices_Index_string_empty Tryd.lays109 a c x w
def Tryd.lays110_ren : Go.Shelf.Ren := ⟨fun | 110 => 39 | 109 => 58 | n => n, fun | 31 => 26 | 9 => 9 | 4 => 4 | 3 => 3 | 0 => 0 | n => n, fun | n => n⟩
theorem Tryd.lays110 : Go.Proofs.Lays.n110 Tryd.prog Tryd.lays110_ren := {
  mixed := by kernel_rfl
  f109 := Tryd.func58.trans (congrArg some (by kernel_rfl))
  f110 := Tryd.func39.trans (congrArg some (by kernel_rfl))
  t0 := Tryd.underlying0
  a0 := Tryd.isAgg0
  z0 := Tryd.sizeOf0
  v0 := Tryd.zeroValue0
  t3 := Tryd.underlying3
  a3 := Tryd.isAgg3
  z3 := Tryd.sizeOf3
  v3 := Tryd.zeroValue3
  t4 := Tryd.underlying4
  a4 := Tryd.isAgg4
  z4 := Tryd.sizeOf4
  v4 := Tryd.zeroValue4
  t9 := Tryd.underlying9
  a9 := Tryd.isAgg9
  z9 := Tryd.sizeOf9
  v9 := Tryd.zeroValue9
  t31 := Tryd.underlying26
  a31 := Tryd.isAgg26
  z31 := Tryd.sizeOf26
  v31 := Tryd.zeroValue26 }
open Go.Lib in
/-- slices.Contains at []string: "Contains reports whether v is present in s.": IT RETURNS 'Lib.containsS (the elements) v', which is true just where v is among them ('Lib.containsS_iff'); the world is as it was. ITS CALLEE slices.Index IS MET BY ITS OWN CONTRACT OFF THE SHELF (lay that first): no loop is walked here. (LAID: no walk: one application.) -/
theorem Tryd.slices_Contains_string (b off n c : Nat) (zs : List ByteArray) (x : ByteArray) (w : World) (hz : n ≤ zs.length) (hbig : n ≤ 9223372036854775807) (hc : ∀ j, j < zs.length → w.cell? ⟨b, off + j, none⟩ = some (.string (zs.getD j ByteArray.empty))) :
    Calls Tryd.prog 39 #[.slice (some ⟨b, off, none⟩) n c, .string x] w fun e w' => e = .returned (.bool (Lib.containsS (zs.take n) x)) ∧ w' = w := Any.slices_Contains_string Tryd.lays110 b off n c zs x w hz hbig hc
open Go.Lib in
/-- The same at a slice of length 0, a nil one too. (LAID: no walk: one application.) -/
theorem Tryd.slices_Contains_string_empty (a : Option Addr) (c : Nat) (x : ByteArray) (w : World) :
    Calls Tryd.prog 39 #[.slice a 0 c, .string x] w fun e w' => e = .returned (.bool false) ∧ w' = w := Any.slices_Contains_string_empty Tryd.lays110 a c x w
def Tryd.laysNm216_ren : Go.Shelf.Ren := ⟨fun | 16 => 64 | n => n, fun | 24 => 26 | 9 => 9 | 4 => 4 | n => n, fun | n => n⟩
theorem Tryd.laysNm216 : Go.Proofs.Lays2.n16 Tryd.prog Tryd.laysNm216_ren := {
  mixed := by kernel_rfl
  f16 := Tryd.func64.trans (congrArg some (by kernel_rfl))
  t4 := Tryd.underlying4
  a4 := Tryd.isAgg4
  z4 := Tryd.sizeOf4
  v4 := Tryd.zeroValue4
  t9 := Tryd.underlying9
  a9 := Tryd.isAgg9
  z9 := Tryd.sizeOf9
  v9 := Tryd.zeroValue9
  t24 := Tryd.underlying26
  a24 := Tryd.isAgg26
  z24 := Tryd.sizeOf26
  v24 := Tryd.zeroValue26
  i9 := by kernel_rfl }
open Go.RowKit Go.Lib in
/-- slices.Clone at []string: "Clone returns a copy of the slice. The elements are copied using assignment, so this is a shallow clone. The result may have additional unused capacity. The result preserves the nilness of s.": OF A SLICE THAT IS NOT nil IT RETURNS A SLICE THAT IS NOT nil, OF THE SAME ELEMENTS, IN MEMORY OF THE CALL's OWN: in the how-to's words (6f): 'w'.ownsRow B e 1 v' n cells': v' begins at the head of a row among the blocks from B on (B: the heap's size at the call), not frozen, whose first cells are the elements · 'Below B w w'': below B all is as it was. The capacity is whatever the run-time gives. 'zs': what the cells behind the slice's address hold; 'zs.take n': its elements. (LAID: no walk: one application.) -/
theorem Tryd.slices_Clone_string (b off n c : Nat) (zs : List ByteArray) (w : World) (hz : n ≤ zs.length) (hbig : n * 16 ≤ 140737488355328) (hc : ∀ j, j < zs.length → w.cell? ⟨b, off + j, none⟩ = some (.string (zs.getD j ByteArray.empty))) :
    Calls Tryd.prog 64 #[.slice (some ⟨b, off, none⟩) n c] w fun e w' => ∃ v', e = .returned v' ∧ w'.ownsRow w.heap.size 9 1 v' n ((zs.take n).map (Value.string)) ∧ v' ≠ .slice none 0 0 ∧ Below w.heap.size w w' := Any.slices_Clone_string Tryd.laysNm216 b off n c zs w hz hbig hc
open Go.RowKit Go.Lib in
/-- The same at nil: nil comes back; the world is as it was. (LAID: no walk: one application.) -/
theorem Tryd.slices_Clone_string_nil (n c : Nat) (w : World) :
    Calls Tryd.prog 64 #[.slice none n c] w fun e w' => e = .returned (.slice none 0 0) ∧ w' = w := Any.slices_Clone_string_nil Tryd.laysNm216 n c w
open Go.RowKit Go.Lib in
/-- The same at a slice of length 0 that is not nil, WHATEVER ITS ADDRESS (no cell is asked for): a slice that is not nil and owns nothing comes back. (LAID: no walk: one application.) -/
theorem Tryd.slices_Clone_string_zero (a : Addr) (c : Nat) (w : World) :
    Calls Tryd.prog 64 #[.slice (some a) 0 c] w fun e w' => ∃ v', e = .returned v' ∧ w'.ownsRow w.heap.size 9 1 v' 0 [] ∧ v' ≠ .slice none 0 0 ∧ Below w.heap.size w w' := Any.slices_Clone_string_zero Tryd.laysNm216 a c w
end Go.Proofs

/- Owned rows: over growth, over stores; their blocks, cells, marks. No condition. -/
namespace Go.Proofs.YtcbfmajojkcibaaDoor
open Go Go.RowKit

theorem owns_later {w w' : World} {B e n k : Nat} {v : Value} {xs : List Value} (h : w.ownsRow B e k v n xs) (hG : Gr w w') : w'.ownsRow B e k v n xs := by
  obtain ⟨h1, h2⟩ := h
  refine ⟨h1, h2.imp id ?_⟩
  rintro ⟨g, cap, cur, hv, hb, hh, r⟩
  refine ⟨g, cap, cur, hv, hb, ?_, r⟩
  have hlt : g < w.heap.size := (Array.getElem?_eq_some_iff.1 hh).1
  rw [Below.block hG g hlt]; exact hh
/-- An owned row, while another block is written. -/
theorem owns_heap {w w' : World} {B e n k : Nat} {v : Value} {xs : List Value} (h : w.ownsRow B e k v n xs) (hb : ∀ g, v.ownBlock = some g → w'.heap[g]? = w.heap[g]?) : w'.ownsRow B e k v n xs := by
  obtain ⟨h1, h2⟩ := h
  refine ⟨h1, h2.imp id ?_⟩
  rintro ⟨g, cap, cur, hv, hb', hh, r⟩
  exact ⟨g, cap, cur, hv, hb', by rw [hb g (by rw [hv]; rfl)]; exact hh, r⟩

theorem new2_cells (w : World) (a b : Value) (e : TypeId) : ∀ (j : Nat) (u : Value), [a, b][j]? = some u → (w.alloc (.cells #[a, b] e)).cell? ((⟨w.heap.size, 0, none⟩ : Addr).add j) = some u := fun j u hj => by
  have := (boxAt.new (w := w) [a, b] e rfl).cell j u hj
  rw [show (⟨w.heap.size, 0, none⟩ : Addr).add j = ⟨w.heap.size, j, none⟩ by
    unfold Addr.add
    by_cases h : j = 0
    · subst h; rfl
    · rw [if_neg h]; simp]
  exact this
theorem new_cells (w : World) (vs : List Value) (e : TypeId) : ∀ (j : Nat) (u : Value), vs[j]? = some u → (w.alloc (.cells vs.toArray e)).cell? ((⟨w.heap.size, 0, none⟩ : Addr).add j) = some u := fun j u hj => by
  have := (boxAt.new (w := w) vs e rfl).cell j u hj
  rw [show (⟨w.heap.size, 0, none⟩ : Addr).add j = ⟨w.heap.size, j, none⟩ by
    unfold Addr.add
    by_cases h : j = 0
    · subst h; rfl
    · rw [if_neg h]; simp]
  exact this
theorem four_one (x y z t : Int) : ∀ u ∈ [Value.int .u8 x, .int .u8 y, .int .u8 z, .int .u8 t], u.oneCell' = true := fun u hu => by
  simp at hu; rcases hu with rfl | rfl | rfl | rfl <;> rfl
theorem two_one (x y : Int) : ∀ u ∈ [Value.int .u8 x, .int .u8 y], u.oneCell' = true := fun u hu => by
  simp at hu; rcases hu with rfl | rfl <;> rfl

theorem owns_block {w : World} {B e size n : Nat} {v : Value} {xs : List Value} (h : w.ownsRow B e size v n xs) (hn : 0 < n) : ∃ g cap, v = .slice (some ⟨g, 0, none⟩) n cap ∧ B ≤ g ∧ g < w.heap.size ∧ n ≤ maxLen := by
  obtain ⟨_, h2⟩ := h
  rcases h2 with ⟨_, h0⟩ | ⟨g, cap, cur, hv, hb, hh, h3, h4, _⟩
  · omega
  · exact ⟨g, cap, hv, hb, (Array.getElem?_eq_some_iff.1 hh).1, by omega⟩
theorem owns_set {w : World} {B e size n g cap : Nat} {xs : List Value} (h : w.ownsRow B e size (.slice (some ⟨g, 0, none⟩) n cap) n xs) (j : Nat) (hj : j < xs.length) (u : Value) :
    (w.setCell ⟨g, j, none⟩ u).ownsRow B e size (.slice (some ⟨g, 0, none⟩) n cap) n (xs.set j u) := by
  obtain ⟨h1, h2⟩ := h
  refine ⟨by rw [List.length_set]; exact h1, .inr ?_⟩
  rcases h2 with ⟨h2, _⟩ | ⟨g', cap', cur, hv, hb, hh, h3, h4, h5, h6⟩
  · cases h2
  · simp only [Value.slice.injEq, Option.some.injEq, Addr.mk.injEq, and_true, true_and] at hv
    obtain ⟨rfl, rfl⟩ := hv
    refine ⟨g, cap, cur.setIfInBounds j u, rfl, hb, ?_, h3, h4, by simpa using h5, ?_⟩
    · simp [World.setCell, Array.getElem?_modify, hh]
    · rw [Array.toList_setIfInBounds, ← h6, List.take_set]
theorem owns_cell {w : World} {B e size n g cap : Nat} {xs : List Value} (h : w.ownsRow B e size (.slice (some ⟨g, 0, none⟩) n cap) n xs) (j : Nat) (u : Value) (hj : xs[j]? = some u) : w.cell? ⟨g, j, none⟩ = some u := by
  have := World.ownsRow.cells h (g := g) rfl j u hj
  rw [show (⟨g, 0, none⟩ : Addr).add j = ⟨g, j, none⟩ by
    unfold Addr.add
    by_cases h0 : j = 0
    · subst h0; rfl
    · rw [if_neg h0]; simp] at this
  exact this
theorem owns_mark {w : World} {B e size n g cap : Nat} {xs : List Value} (h : w.ownsRow B e size (.slice (some ⟨g, 0, none⟩) n cap) n xs) (j : Nat) : w.frozen? ⟨g, j, none⟩ = false := by
  obtain ⟨_, h2⟩ := h
  rcases h2 with ⟨h2, _⟩ | ⟨g', cap', cur, hv, hb, hh, _⟩
  · cases h2
  · simp only [Value.slice.injEq, Option.some.injEq, Addr.mk.injEq, and_true, true_and] at hv
    obtain ⟨rfl, _⟩ := hv
    simp [World.frozen?, hh]

theorem owns_capN {w : World} {B e g cap n k : Nat} {xs : List Value} (h : w.ownsRow B e k (.slice (some ⟨g, 0, none⟩) n cap) n xs) : n ≤ cap ∧ cap ≤ maxLen := by
  obtain ⟨_, ⟨h2, _⟩ | ⟨g', cap', cur, hv, hb, hh, h3, h4, _⟩⟩ := h
  · cases h2
  · simp only [Value.slice.injEq, Option.some.injEq, Addr.mk.injEq, and_true, true_and] at hv
    obtain ⟨rfl, rfl⟩ := hv
    exact ⟨h3, h4⟩

end Go.Proofs.YtcbfmajojkcibaaDoor

/- bolterref0.Eq. No condition. -/
namespace Go.Proofs.YtcbfmajojkcibaaDoor
open Go Go.RowKit

theorem eqTake_step (l m : List UInt8) (k : Nat) (h1 : k < l.length) (h2 : k < m.length) (h : l.take k = m.take k) (e : l[k] = m[k]) : l.take (k + 1) = m.take (k + 1) := by
  rw [List.take_succ_eq_append_getElem h1, List.take_succ_eq_append_getElem h2, h, e]

set_option maxRecDepth 100000 in
set_option maxHeartbeats 1000000 in
theorem eqB_long (l m : List UInt8) (b1 o1 c1 b2 o2 c2 : Nat) (w : World) (hn : l.length ≤ 9223372036854775807) (hlm : l.length = m.length) (hb1 : l.length ≠ 0 → b1 < w.heap.size) (hb2 : l.length ≠ 0 → b2 < w.heap.size)
    (h1 : ∀ (k : Nat) (x : UInt8), l[k]? = some x → w.cell? ⟨b1, o1 + k, none⟩ = some (vB x)) (h2 : ∀ (k : Nat) (x : UInt8), m[k]? = some x → w.cell? ⟨b2, o2 + k, none⟩ = some (vB x)) :
    Calls Tryd.prog 14 #[.slice (some ⟨b1, o1, none⟩) l.length c1, .slice (some ⟨b2, o2, none⟩) l.length c2] w fun e w' => e = .returned (.bool (l == m)) ∧ Gr w w' := by
  have HLM := Lib.hid hlm
  clear hlm
  go_enter Tryd.func14, Tryd.ntmps14
  go_wp2_with fail
  go_loopw [5] (fun i wr => ∃ k : Nat, k ≤ l.length ∧ i = .int .i64 k ∧ Gr w wr ∧ Hid (l.take k = m.take k)) (fun i _ => l.length - (intOf i).toNat)
  case atStart => exact ⟨0, by omega, rfl, Gr.refl _, by simp [Hid]⟩
  case round =>
    obtain ⟨k, hk, rfl, hg, HT⟩ := hrel
    by_cases hlt : k < l.length
    · have hlt2 : k < m.length := by have := HLM.out; omega
      have d1 := hg.cell (h1 k l[k] (List.getElem?_eq_getElem hlt))
      have d2 := hg.cell (h2 k m[k] (List.getElem?_eq_getElem hlt2))
      have z1 : b1 < wr.heap.size := Nat.lt_of_lt_of_le (hb1 (by omega)) hg.size
      have z2 : b2 < wr.heap.size := Nat.lt_of_lt_of_le (hb2 (by omega)) hg.size
      have HS := Lib.hid (fun e : l[k] = m[k] => eqTake_step l m k hlt hlt2 HT.out e)
      have HN := Lib.hid (fun e : l[k] ≠ m[k] => show l ≠ m from fun h => e (by subst h; rfl))
      unfold vB at d1 d2
      clear h1 h2 hb1 hb2
      by_cases e : l[k] = m[k]
      · have F := HS.out e
        rw [← e] at d2
        generalize l[k] = x at *
        have HF := Lib.hid F
        clear F e hlt2 HS HN
        go_wp2_with fail
        refine wp_region_G (.take 0 (.take 1 (.take 2 (.take 3 (.take 4 (.take 5 (.take 6 (.take 7 (.take 8 .nil))))))))) (by kernel_rfl) (by kernel_rfl) ?_
        simp only [pickOps, nthOp]
        intro wq hG
        repeat (first | (refine wpG_skip_take ?_ ?_; (focus rfl); try simp only [Act.put, List.setIfInBounds_toArray, List.set_cons_zero, List.set_cons_succ]) | (refine wpG_skip_run ?_ ?_; (focus rfl); try simp only [Act.put, List.setIfInBounds_toArray, List.set_cons_zero, List.set_cons_succ]) | (refine wpG_take ?_ ?_; (focus rfl); apply Exists.intro; refine ⟨fun w' hw' => ?_, ?_⟩; (focus (have hc := Gr.cells hw'; go_simp; (try rfl); done)); try simp only [Act.put, List.setIfInBounds_toArray, List.set_cons_zero, List.set_cons_succ]))
        refine wpG_done ?_
        go_wp2
        go_roundw
        case rel => exact ⟨k + 1, by omega, by go_num, hg.trans hG, HF.out⟩
        case measure => simp [intOf]; omega
      · have F := HN.out e
        have e2 : ((l[k].toNat : Int) == (m[k].toNat : Int)) = false := by
          simp; intro h; exact e (UInt8.toNat_inj.1 (by omega))
        have HF := Lib.hid F
        clear F e HS HN
        generalize l[k] = x at *
        generalize m[k] = y at *
        clear hlt2
        go_wp2_with fail
        refine wp_region_G (.take 0 (.take 1 (.take 2 (.take 3 (.take 4 (.take 5 (.take 6 (.take 7 (.take 8 .nil))))))))) (by kernel_rfl) (by kernel_rfl) ?_
        simp only [pickOps, nthOp]
        intro wq hG
        repeat (first | (refine wpG_skip_take ?_ ?_; (focus rfl); try simp only [Act.put, List.setIfInBounds_toArray, List.set_cons_zero, List.set_cons_succ]) | (refine wpG_skip_run ?_ ?_; (focus rfl); try simp only [Act.put, List.setIfInBounds_toArray, List.set_cons_zero, List.set_cons_succ]) | (refine wpG_take ?_ ?_; (focus rfl); apply Exists.intro; refine ⟨fun w' hw' => ?_, ?_⟩; (focus (have hc := Gr.cells hw'; go_simp; (try rfl); done)); try simp only [Act.put, List.setIfInBounds_toArray, List.set_cons_zero, List.set_cons_succ]))
        refine wpG_done ?_
        go_wp2
        go_ret
        exact ⟨ret_bool (by have := HF.out; simp [this]), hg.trans hG⟩
    · obtain rfl : k = l.length := by omega
      have F : l = m := by have := HT.out; rw [List.take_length, List.take_of_length_le (by have := HLM.out; omega)] at this; exact this
      have HF := Lib.hid F
      clear F
      go_wp2
      go_ret
      exact ⟨ret_bool (by have := HF.out; subst this; simp), hg⟩

set_option maxRecDepth 100000 in
set_option maxHeartbeats 400000 in
theorem eqB_unlike (p q : Option Addr) (n m c1 c2 : Nat) (w : World) (hne : n ≠ m) :
    Calls Tryd.prog 14 #[.slice p n c1, .slice q m c2] w fun e w' => e = .returned (.bool false) ∧ w = w' := by
  have hne2 : ((n : Int) == (m : Int)) = false := by simp; omega
  clear hne
  go_enter Tryd.func14, Tryd.ntmps14
  go_wp2
  go_ret
  exact ⟨rfl, rfl⟩

set_option maxRecDepth 100000 in
set_option maxHeartbeats 400000 in
theorem eqB_zero (p q : Option Addr) (c1 c2 : Nat) (w : World) :
    Calls Tryd.prog 14 #[.slice p 0 c1, .slice q 0 c2] w fun e w' => e = .returned (.bool true) ∧ w = w' := by
  go_enter Tryd.func14, Tryd.ntmps14
  go_wp2
  refine wp_loop_rounds 1 ?_
  rw [rounds_succ]
  go_wp2
  go_ret
  exact ⟨rfl, rfl⟩

theorem eqB_any (l m : List UInt8) (v u : Value) (w : World) (hl : Sl w v 1 l.length (l.map vB)) (hm : Sl w u 1 m.length (m.map vB)) :
    Calls Tryd.prog 14 #[v, u] w fun e w' => e = .returned (.bool (l == m)) ∧ Gr w w' := by
  by_cases hlm : l.length = m.length
  · by_cases h0 : l.length = 0
    · obtain ⟨p, c1, rfl⟩ := hl.len
      obtain ⟨q, c2, rfl⟩ := hm.len
      obtain rfl := List.eq_nil_of_length_eq_zero h0
      obtain rfl := List.eq_nil_of_length_eq_zero (hlm.symm.trans h0)
      exact (eqB_zero p q c1 c2 w).mono fun e w' ⟨he, hw⟩ => ⟨he, hw ▸ Gr.refl _⟩
    · obtain ⟨_, hn, ⟨_, hz⟩ | ⟨b1, o1, c1, rfl, hb1, h1⟩⟩ := hl
      · exact absurd hz h0
      · obtain ⟨_, _, ⟨_, hz⟩ | ⟨b2, o2, c2, rfl, hb2, h2⟩⟩ := hm
        · exact absurd (hlm.trans hz) h0
        · rw [← hlm]
          unfold maxLen at hn
          exact eqB_long l m b1 o1 c1 b2 o2 c2 w hn hlm hb1 (fun h => hb2 (hlm ▸ h)) (fun k x hx => h1 k _ (by rw [List.getElem?_map, hx]; rfl)) (fun k x hx => h2 k _ (by rw [List.getElem?_map, hx]; rfl))
  · obtain ⟨p, c1, rfl⟩ := hl.len
    obtain ⟨q, c2, rfl⟩ := hm.len
    have : (l == m) = false := by simp; intro h; exact hlm (by rw [h])
    rw [this]
    exact (eqB_unlike p q _ _ c1 c2 w hlm).mono fun e w' ⟨he, hw⟩ => ⟨he, hw ▸ Gr.refl _⟩

end Go.Proofs.YtcbfmajojkcibaaDoor
