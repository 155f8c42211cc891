/- Texts of mine, put together: Shelf, Owned. No condition but what each says. -/
import Derived.Shelf.Small.Bits
import Derived.Shelf.Small.Wraps
import Derived.Shelf.Strconv.Itoa0
import Derived.Shelf.Sort.Plain
import Derived.Ground.Names2Prog
import Derived.Shelf.Slices.Clone
import Derived.Shelf.Slices.In.SortNone
import Derived.Test.YtkkopdmemjncdaaGreatDoorProg
import Derived.Test.YtkkopdmemjncdaaGreatDoorRows
import Derived.Test.YtkkopdmemjncdaaGreatDoorPGa
namespace Go.Proofs
open Go.Shelf
open Go.RowKit in
def Tryz.lays189_ren : Go.Shelf.Ren := ⟨fun | 189 => 82 | 125 => 110 | 257 => 109 | 128 => 130 | 129 => 131 | 294 => 121 | 295 => 122 | 296 => 123 | 297 => 124 | 298 => 125 | 299 => 126 | 216 => 127 | 300 => 128 | 301 => 129 | 328 => 132 | 329 => 133 | 330 => 134 | 331 => 135 | 332 => 136 | 215 => 137 | 343 => 138 | n => n, fun | 28 => 32 | 3 => 3 | 46 => 177 | 0 => 0 | 51 => 206 | 53 => 50 | 4 => 4 | 183 => 199 | 182 => 198 | 131 => 106 | 5 => 5 | 9 => 9 | 218 => 211 | 222 => 215 | 228 => 217 | 229 => 218 | n => n, fun | n => n⟩
theorem Tryz.lays189 : Go.Proofs.Lays.n189 Tryz.prog Tryz.lays189_ren := {
 mixed := by kernel_rfl
 f125 := Tryz.func110.trans (congrArg some (by kernel_rfl))
 f128 := Tryz.func130.trans (congrArg some (by kernel_rfl))
 f129 := Tryz.func131.trans (congrArg some (by kernel_rfl))
 f189 := Tryz.func82.trans (congrArg some (by kernel_rfl))
 f215 := Tryz.func137.trans (congrArg some (by kernel_rfl))
 f216 := Tryz.func127.trans (congrArg some (by kernel_rfl))
 f257 := Tryz.func109.trans (congrArg some (by kernel_rfl))
 f294 := Tryz.func121.trans (congrArg some (by kernel_rfl))
 f295 := Tryz.func122.trans (congrArg some (by kernel_rfl))
 f296 := Tryz.func123.trans (congrArg some (by kernel_rfl))
 f297 := Tryz.func124.trans (congrArg some (by kernel_rfl))
 f298 := Tryz.func125.trans (congrArg some (by kernel_rfl))
 f299 := Tryz.func126.trans (congrArg some (by kernel_rfl))
 f300 := Tryz.func128.trans (congrArg some (by kernel_rfl))
 f301 := Tryz.func129.trans (congrArg some (by kernel_rfl))
 f328 := Tryz.func132.trans (congrArg some (by kernel_rfl))
 f329 := Tryz.func133.trans (congrArg some (by kernel_rfl))
 f330 := Tryz.func134.trans (congrArg some (by kernel_rfl))
 f331 := Tryz.func135.trans (congrArg some (by kernel_rfl))
 f332 := Tryz.func136.trans (congrArg some (by kernel_rfl))
 f343 := Tryz.func138.trans (congrArg some (by kernel_rfl))
 t0 := Tryz.underlying0
 a0 := Tryz.isAgg0
 z0 := Tryz.sizeOf0
 v0 := Tryz.zeroValue0
 t3 := Tryz.underlying3
 a3 := Tryz.isAgg3
 z3 := Tryz.sizeOf3
 v3 := Tryz.zeroValue3
 t4 := Tryz.underlying4
 a4 := Tryz.isAgg4
 z4 := Tryz.sizeOf4
 v4 := Tryz.zeroValue4
 t5 := Tryz.underlying5
 a5 := Tryz.isAgg5
 z5 := Tryz.sizeOf5
 v5 := Tryz.zeroValue5
 t9 := Tryz.underlying9
 a9 := Tryz.isAgg9
 z9 := Tryz.sizeOf9
 v9 := Tryz.zeroValue9
 t28 := Tryz.underlying32
 a28 := Tryz.isAgg32
 z28 := Tryz.sizeOf32
 v28 := Tryz.zeroValue32
 t46 := Tryz.underlying177
 a46 := Tryz.isAgg177
 z46 := Tryz.sizeOf177
 v46 := Tryz.zeroValue177
 t51 := Tryz.underlying206
 a51 := Tryz.isAgg206
 z51 := Tryz.sizeOf206
 v51 := Tryz.zeroValue206
 t53 := Tryz.underlying50
 a53 := Tryz.isAgg50
 z53 := Tryz.sizeOf50
 v53 := Tryz.zeroValue50
 t131 := Tryz.underlying106
 a131 := Tryz.isAgg106
 z131 := Tryz.sizeOf106
 v131 := Tryz.zeroValue106
 t182 := Tryz.underlying198
 a182 := Tryz.isAgg198
 z182 := Tryz.sizeOf198
 v182 := Tryz.zeroValue198
 t183 := Tryz.underlying199
 a183 := Tryz.isAgg199
 z183 := Tryz.sizeOf199
 v183 := Tryz.zeroValue199
 t218 := Tryz.underlying211
 a218 := Tryz.isAgg211
 z218 := Tryz.sizeOf211
 v218 := Tryz.zeroValue211
 t222 := Tryz.underlying215
 a222 := Tryz.isAgg215
 z222 := Tryz.sizeOf215
 v222 := Tryz.zeroValue215
 t228 := Tryz.underlying217
 a228 := Tryz.isAgg217
 z228 := Tryz.sizeOf217
 v228 := Tryz.zeroValue217
 t229 := Tryz.underlying218
 a229 := Tryz.isAgg218
 z229 := Tryz.sizeOf218
 v229 := Tryz.zeroValue218 }
open Go.Sort Go.RowKit in
theorem Tryz.slices_Sort_int (blk off cap : Nat) (zs : List Int) (w : World) (hH : Holds (Value.int .i64) w blk off zs.toArray) (hblk : blk < w.heap.size) (hsz : zs.length < 4611686018427387904) :
  Calls Tryz.prog 82 #[.slice (some ⟨blk, off, none⟩) zs.length cap] w fun e w' =>
   e = .returned (.tuple #[]) ∧ ∃ n os, w' = grow (putRow (Value.int .i64) (Sort.ahead w n) blk off (zs.mergeSort fun x y => decide (x ≤ y)).toArray) os := Any.slices_Sort_int Tryz.lays189 blk off cap zs w hH hblk hsz
def Tryz.laysNm216_ren : Go.Shelf.Ren := ⟨fun | 16 => 61 | n => n, fun | 24 => 30 | 9 => 9 | 4 => 4 | n => n, fun | n => n⟩
theorem Tryz.laysNm216 : Go.Proofs.Lays2.n16 Tryz.prog Tryz.laysNm216_ren := {
 mixed := by kernel_rfl
 f16 := Tryz.func61.trans (congrArg some (by kernel_rfl))
 t4 := Tryz.underlying4
 a4 := Tryz.isAgg4
 z4 := Tryz.sizeOf4
 v4 := Tryz.zeroValue4
 t9 := Tryz.underlying9
 a9 := Tryz.isAgg9
 z9 := Tryz.sizeOf9
 v9 := Tryz.zeroValue9
 t24 := Tryz.underlying30
 a24 := Tryz.isAgg30
 z24 := Tryz.sizeOf30
 v24 := Tryz.zeroValue30
 i9 := by kernel_rfl }
open Go.RowKit Go.Lib in
theorem Tryz.slices_Clone_string (b off n c : Nat) (zs : List ByteArray) (w : World) (hz : n ≤ zs.length) (hbig : n * 16 ≤ 140737488355328) (hc : ∀ j, j < zs.length → w.cell? ⟨b, off + j, none⟩ = some (.string (zs.getD j ByteArray.empty))) :
  Calls Tryz.prog 61 #[.slice (some ⟨b, off, none⟩) n c] w fun e w' => ∃ v', e = .returned v' ∧ w'.ownsRow w.heap.size 9 1 v' n ((zs.take n).map (Value.string)) ∧ v' ≠ .slice none 0 0 ∧ Below w.heap.size w w' := Any.slices_Clone_string Tryz.laysNm216 b off n c zs w hz hbig hc
open Go.RowKit Go.Lib in
theorem Tryz.slices_Clone_string_nil (n c : Nat) (w : World) :
  Calls Tryz.prog 61 #[.slice none n c] w fun e w' => e = .returned (.slice none 0 0) ∧ w' = w := Any.slices_Clone_string_nil Tryz.laysNm216 n c w
open Go.RowKit Go.Lib in
theorem Tryz.slices_Clone_string_zero (a : Addr) (c : Nat) (w : World) :
  Calls Tryz.prog 61 #[.slice (some a) 0 c] w fun e w' => ∃ v', e = .returned v' ∧ w'.ownsRow w.heap.size 9 1 v' 0 [] ∧ v' ≠ .slice none 0 0 ∧ Below w.heap.size w w' := Any.slices_Clone_string_zero Tryz.laysNm216 a c w
open Go.RowKit Go.Sort in
theorem Tryz.slices_Sort_int_none (p : Option Addr) (cap : Nat) (w : World) :
  Calls Tryz.prog 82 #[.slice p 0 cap] w fun e w' => e = .returned (.tuple #[]) ∧ w' = w := Any.slices_Sort_int_none Tryz.lays189 p cap w
end Go.Proofs
namespace Go.Proofs.YtkkopdmemjncdaaGreatDoor
open Go Go.RowKit
theorem owns_later {w w' : World} {B e n k : Nat} {v : Value} {xs : List Value} (h : w.ownsRow B e k v n xs) (hG : Gr w w') : w'.ownsRow B e k v n xs := by
 obtain ⟨h1, h2⟩ := h
 refine ⟨h1, h2.imp id ?_⟩
 rintro ⟨g, cap, cur, hv, hb, hh, r⟩
 refine ⟨g, cap, cur, hv, hb, ?_, r⟩
 have hlt : g < w.heap.size := (Array.getElem?_eq_some_iff.1 hh).1
 rw [Below.block hG g hlt]; exact hh
theorem own_mono {w : World} {B B' e n k : Nat} {v : Value} {xs : List Value} (h : w.ownsRow B e k v n xs) (hB : B' ≤ B) : w.ownsRow B' e k v n xs := by
 obtain ⟨h1, h2⟩ := h
 refine ⟨h1, h2.imp id ?_⟩
 rintro ⟨g, cap, cur, hv, hb, r⟩
 exact ⟨g, cap, cur, hv, Nat.le_trans hB hb, r⟩
theorem owns_heap {w w' : World} {B e n k : Nat} {v : Value} {xs : List Value} (h : w.ownsRow B e k v n xs) (hb : ∀ g, v.ownBlock = some g → w'.heap[g]? = w.heap[g]?) : w'.ownsRow B e k v n xs := by
 obtain ⟨h1, h2⟩ := h
 refine ⟨h1, h2.imp id ?_⟩
 rintro ⟨g, cap, cur, hv, hb', hh, r⟩
 exact ⟨g, cap, cur, hv, hb', by rw [hb g (by rw [hv]; rfl)]; exact hh, r⟩
theorem new_cells (w : World) (vs : List Value) (e : TypeId) : ∀ (j : Nat) (u : Value), vs[j]? = some u → (w.alloc (.cells vs.toArray e)).cell? ((⟨w.heap.size, 0, none⟩ : Addr).add j) = some u := fun j u hj => by
 have := (boxAt.new (w := w) vs e rfl).cell j u hj
 rw [show (⟨w.heap.size, 0, none⟩ : Addr).add j = ⟨w.heap.size, j, none⟩ by
  unfold Addr.add
  by_cases h : j = 0
  · subst h; rfl
  · rw [if_neg h]; simp]
 exact this
theorem owns_block {w : World} {B e size n : Nat} {v : Value} {xs : List Value} (h : w.ownsRow B e size v n xs) (hn : 0 < n) : ∃ g cap, v = .slice (some ⟨g, 0, none⟩) n cap ∧ B ≤ g ∧ g < w.heap.size ∧ n ≤ maxLen := by
 obtain ⟨_, h2⟩ := h
 rcases h2 with ⟨_, h0⟩ | ⟨g, cap, cur, hv, hb, hh, h3, h4, _⟩
 · omega
 · exact ⟨g, cap, hv, hb, (Array.getElem?_eq_some_iff.1 hh).1, by omega⟩
theorem owns_set {w : World} {B e size n g cap : Nat} {xs : List Value} (h : w.ownsRow B e size (.slice (some ⟨g, 0, none⟩) n cap) n xs) (j : Nat) (_ : j < xs.length) (u : Value) :
  (w.setCell ⟨g, j, none⟩ u).ownsRow B e size (.slice (some ⟨g, 0, none⟩) n cap) n (xs.set j u) := by
 obtain ⟨h1, h2⟩ := h
 refine ⟨by rw [List.length_set]; exact h1, .inr ?_⟩
 rcases h2 with ⟨h2, _⟩ | ⟨g', cap', cur, hv, hb, hh, h3, h4, h5, h6⟩
 · cases h2
 ·
  simp only [Value.slice.injEq, Option.some.injEq, Addr.mk.injEq, and_true, true_and] at hv
  obtain ⟨rfl, rfl⟩ := hv
  refine ⟨g, cap, cur.setIfInBounds j u, rfl, hb, ?_, h3, h4, by simpa using h5, ?_⟩
  · simp [World.setCell, Array.getElem?_modify, hh]
  · rw [Array.toList_setIfInBounds, ← h6, List.take_set]
theorem owns_cell {w : World} {B e size n g cap : Nat} {xs : List Value} (h : w.ownsRow B e size (.slice (some ⟨g, 0, none⟩) n cap) n xs) (j : Nat) (u : Value) (hj : xs[j]? = some u) : w.cell? ⟨g, j, none⟩ = some u := by
 have := World.ownsRow.cells h (g := g) rfl j u hj
 rw [show (⟨g, 0, none⟩ : Addr).add j = ⟨g, j, none⟩ by
  unfold Addr.add
  by_cases h0 : j = 0
  · subst h0; rfl
  · rw [if_neg h0]; simp] at this
 exact this
theorem owns_mark {w : World} {B e size n g cap : Nat} {xs : List Value} (h : w.ownsRow B e size (.slice (some ⟨g, 0, none⟩) n cap) n xs) (j : Nat) : w.frozen? ⟨g, j, none⟩ = false := by
 obtain ⟨_, h2⟩ := h
 rcases h2 with ⟨h2, _⟩ | ⟨g', cap', cur, hv, hb, hh, _⟩
 · cases h2
 ·
  simp only [Value.slice.injEq, Option.some.injEq, Addr.mk.injEq, and_true, true_and] at hv
  obtain ⟨rfl, _⟩ := hv
  simp [World.frozen?, hh]
end Go.Proofs.YtkkopdmemjncdaaGreatDoor
