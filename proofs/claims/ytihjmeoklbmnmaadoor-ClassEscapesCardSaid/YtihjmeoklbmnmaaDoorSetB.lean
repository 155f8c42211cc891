/- More of package byteset: All, Within, Count, Of; and bolterref0.Eq. No condition. -/
import Derived.Test.YtihjmeoklbmnmaaDoorMinus
import Derived.Test.YtihjmeoklbmnmaaDoorSetEq
import Derived.Test.YtihjmeoklbmnmaaDoorMem
import Derived.Test.YtihjmeoklbmnmaaDoorPop
namespace Go.Proofs.YtihjmeoklbmnmaaDoor
open Go Go.RowKit

theorem zeros_empty : (#[Value.agg #[.int .u64 0, .int .u64 0, .int .u64 0, .int .u64 0]] : Array Value) = #[.agg #[.int .u64 (wd emptyS 0), .int .u64 (wd emptyS 1), .int .u64 (wd emptyS 2), .int .u64 (wd emptyS 3)]] := by rw [wd_zero, wd_zero, wd_zero, wd_zero]

set_option maxRecDepth 100000 in
set_option maxHeartbeats 400000 in
theorem all_any (w : World) : Calls Tryd.prog 77 #[] w fun e w' => e = .returned (.agg #[.int .u64 (wd ((~~~emptyS)) 0), .int .u64 (wd ((~~~emptyS)) 1), .int .u64 (wd ((~~~emptyS)) 2), .int .u64 (wd ((~~~emptyS)) 3)]) ∧ Gr w w' := by
  go_enter Tryd.func77, Tryd.ntmps77
  go_wp2_with fail
  go_at_call 14
  refine name_calls (fun W hW => ?_)
  have hz : W.heap.size = w.heap.size + 1 := by subst hW; simp
  have c_r0 : W.cell? ⟨w.heap.size, 0, none⟩ = some (.int .u64 0) := by subst hW; go_simp
  have c_r1 : W.cell? ⟨w.heap.size, 1, none⟩ = some (.int .u64 0) := by subst hW; go_simp
  have c_r2 : W.cell? ⟨w.heap.size, 2, none⟩ = some (.int .u64 0) := by subst hW; go_simp
  have c_r3 : W.cell? ⟨w.heap.size, 3, none⟩ = some (.int .u64 0) := by subst hW; go_simp
  have m_r0 : W.frozen? ⟨w.heap.size, 0, none⟩ = false := by subst hW; go_simp
  have m_r1 : W.frozen? ⟨w.heap.size, 1, none⟩ = false := by subst hW; go_simp
  have m_r2 : W.frozen? ⟨w.heap.size, 2, none⟩ = false := by subst hW; go_simp
  have m_r3 : W.frozen? ⟨w.heap.size, 3, none⟩ = false := by subst hW; go_simp
  have hb0 : Gr w W := by subst hW; exact (Below.refl _ _).alloc (Nat.le_refl _) _
  clear hW
  rw [zeros_empty]
  refine (complement_any _ _).mono ?_; rintro e w' ⟨rfl, hb⟩
  have hc := Gr.cells hb
  have hm := Gr.marks hb
  go_wp2
  refine bodyPost_ret (v := .agg #[.int .u64 (wd ((~~~emptyS)) 0), .int .u64 (wd ((~~~emptyS)) 1), .int .u64 (wd ((~~~emptyS)) 2), .int .u64 (wd ((~~~emptyS)) 3)]) (by simp [results, Tryd.results77, go_sem, hc, hz, c_r0, c_r1, c_r2, c_r3]) rfl ⟨rfl, ?_⟩
  exact ((((hb0.trans hb).setCell (by simp) _).setCell (by simp) _).setCell (by simp) _).setCell (by simp) _

theorem wrap_u64_nat (n : Nat) (h : n < 18446744073709551616) : IntKind.u64.wrap (n : Int) = (n : Int) := by rw [IntKind.wrap_u64]; omega

theorem and127 (d : Nat) (h : d < 9223372036854775808) : bits .and .i64 (d : Int) 127 = ((d % 128 : Nat) : Int) := by
  have := bits_mask .i64 63 (by decide) (fun n h1 h2 => by rw [IntKind.wrap_i64]; omega) 7 (by decide) (d : Int) (by omega) (by omega)
  simpa using this

/-- How many bits word i of a set has. -/
def cardW (s : BitVec 256) (i : Nat) : Nat := cardN (s.extractLsb' (64 * i) 64).toNat.testBit 64

end Go.Proofs.YtihjmeoklbmnmaaDoor
