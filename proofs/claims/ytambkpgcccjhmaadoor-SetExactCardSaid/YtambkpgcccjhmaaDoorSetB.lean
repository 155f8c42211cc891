/- More of package byteset: All, Within, Count, Of; and bolterref0.Eq. No condition. -/
import Derived.Test.YtambkpgcccjhmaaDoorMinus
import Derived.Test.YtambkpgcccjhmaaDoorSetEq
import Derived.Test.YtambkpgcccjhmaaDoorMem
import Derived.Test.YtambkpgcccjhmaaDoorPop
namespace Go.Proofs.YtambkpgcccjhmaaDoor
open Go Go.RowKit

theorem zeros_empty : (#[Value.agg #[.int .u64 0, .int .u64 0, .int .u64 0, .int .u64 0]] : Array Value) = #[.agg #[.int .u64 (wd emptyS 0), .int .u64 (wd emptyS 1), .int .u64 (wd emptyS 2), .int .u64 (wd emptyS 3)]] := by rw [wd_zero, wd_zero, wd_zero, wd_zero]

set_option maxHeartbeats 400000 in
theorem all_any (w : World) : Calls Tryd.prog 7 #[] w fun e w' => e = .returned (.agg #[.int .u64 (wd ((~~~emptyS)) 0), .int .u64 (wd ((~~~emptyS)) 1), .int .u64 (wd ((~~~emptyS)) 2), .int .u64 (wd ((~~~emptyS)) 3)]) ∧ Gr w w' := by
  go_enter Tryd.func7, Tryd.ntmps7
  go_wp2_with fail
  go_at_call 30
  refine name_calls (fun W hW => ?_)
  have hz : W.heap.size = w.heap.size + 1 := by subst hW; simp
  have c_r0 : W.cell? ⟨w.heap.size, 0, none⟩ = some (.int .u64 0) := by subst hW; go_simp
  have c_r1 : W.cell? ⟨w.heap.size, 1, none⟩ = some (.int .u64 0) := by subst hW; go_simp
  have c_r2 : W.cell? ⟨w.heap.size, 2, none⟩ = some (.int .u64 0) := by subst hW; go_simp
  have c_r3 : W.cell? ⟨w.heap.size, 3, none⟩ = some (.int .u64 0) := by subst hW; go_simp
  have m_r0 : W.frozen? ⟨w.heap.size, 0, none⟩ = false := by subst hW; go_simp
  have m_r1 : W.frozen? ⟨w.heap.size, 1, none⟩ = false := by subst hW; go_simp
  have m_r2 : W.frozen? ⟨w.heap.size, 2, none⟩ = false := by subst hW; go_simp
  have m_r3 : W.frozen? ⟨w.heap.size, 3, none⟩ = false := by subst hW; go_simp
  have hb0 : Gr w W := by subst hW; exact (Below.refl _ _).alloc (Nat.le_refl _) _
  clear hW
  rw [zeros_empty]
  refine (complement_any _ _).mono ?_; rintro e w' ⟨rfl, hb⟩
  have hc := Gr.cells hb
  have hm := Gr.marks hb
  go_wp2
  refine bodyPost_ret (v := .agg #[.int .u64 (wd ((~~~emptyS)) 0), .int .u64 (wd ((~~~emptyS)) 1), .int .u64 (wd ((~~~emptyS)) 2), .int .u64 (wd ((~~~emptyS)) 3)]) (by simp [results, Tryd.results7, go_sem, hc, hz, c_r0, c_r1, c_r2, c_r3]) rfl ⟨rfl, ?_⟩
  exact ((((hb0.trans hb).setCell (by simp) _).setCell (by simp) _).setCell (by simp) _).setCell (by simp) _

set_option maxHeartbeats 400000 in
theorem within_any (s t : BitVec 256) (w : World) : Calls Tryd.prog 32 #[.agg #[.int .u64 (wd s 0), .int .u64 (wd s 1), .int .u64 (wd s 2), .int .u64 (wd s 3)], .agg #[.int .u64 (wd t 0), .int .u64 (wd t 1), .int .u64 (wd t 2), .int .u64 (wd t 3)]] w fun e w' => e = .returned (.bool (s &&& t == s)) ∧ Gr w w' := by
  go_enter Tryd.func32, Tryd.ntmps32
  go_wp2
  refine name_world (fun W hW => ?_)
  have hz : W.heap.size = w.heap.size + 2 := by subst hW; simp
  have c_s0 : W.cell? ⟨w.heap.size, 0, none⟩ = some (.int .u64 (wd (s) 0)) := by subst hW; go_simp
  have c_s1 : W.cell? ⟨w.heap.size, 1, none⟩ = some (.int .u64 (wd (s) 1)) := by subst hW; go_simp
  have c_s2 : W.cell? ⟨w.heap.size, 2, none⟩ = some (.int .u64 (wd (s) 2)) := by subst hW; go_simp
  have c_s3 : W.cell? ⟨w.heap.size, 3, none⟩ = some (.int .u64 (wd (s) 3)) := by subst hW; go_simp
  have m_s0 : W.frozen? ⟨w.heap.size, 0, none⟩ = false := by subst hW; go_simp
  have m_s1 : W.frozen? ⟨w.heap.size, 1, none⟩ = false := by subst hW; go_simp
  have m_s2 : W.frozen? ⟨w.heap.size, 2, none⟩ = false := by subst hW; go_simp
  have m_s3 : W.frozen? ⟨w.heap.size, 3, none⟩ = false := by subst hW; go_simp
  have c_t0 : W.cell? ⟨w.heap.size + 1, 0, none⟩ = some (.int .u64 (wd (t) 0)) := by subst hW; go_simp
  have c_t1 : W.cell? ⟨w.heap.size + 1, 1, none⟩ = some (.int .u64 (wd (t) 1)) := by subst hW; go_simp
  have c_t2 : W.cell? ⟨w.heap.size + 1, 2, none⟩ = some (.int .u64 (wd (t) 2)) := by subst hW; go_simp
  have c_t3 : W.cell? ⟨w.heap.size + 1, 3, none⟩ = some (.int .u64 (wd (t) 3)) := by subst hW; go_simp
  have m_t0 : W.frozen? ⟨w.heap.size + 1, 0, none⟩ = false := by subst hW; go_simp
  have m_t1 : W.frozen? ⟨w.heap.size + 1, 1, none⟩ = false := by subst hW; go_simp
  have m_t2 : W.frozen? ⟨w.heap.size + 1, 2, none⟩ = false := by subst hW; go_simp
  have m_t3 : W.frozen? ⟨w.heap.size + 1, 3, none⟩ = false := by subst hW; go_simp
  have hb0 : Gr w W := by subst hW; exact ((Below.refl _ _).alloc (Nat.le_refl _) _).alloc (by simp) _
  clear hW
  refine wp_region_G (.take 0 (.take 1 (.take 3 (.run 2 false (.take 4 (.run 5 true .nil)))))) (by kernel_rfl) (by kernel_rfl) ?_
  simp only [pickOps, nthOp]
  intro wq hG
  repeat (first | (refine wpG_skip_take ?_ ?_; (focus rfl); try simp only [Act.put, List.setIfInBounds_toArray, List.set_cons_zero, List.set_cons_succ]) | (refine wpG_skip_run ?_ ?_; (focus rfl); try simp only [Act.put, List.setIfInBounds_toArray, List.set_cons_zero, List.set_cons_succ]) | (refine wpG_take ?_ ?_; (focus rfl); apply Exists.intro; refine ⟨fun w' hw' => ?_, ?_⟩; (focus (have hc := Gr.cells hw'; go_simp; (try rfl); done)); try simp only [Act.put, List.setIfInBounds_toArray, List.set_cons_zero, List.set_cons_succ]) | (refine wpG_run ?_ (fun K hK => ?_); (focus rfl); go_simp; (first | (go_at_call 26; refine (inter_any _ _ _).mono ?_; rintro e w' ⟨rfl, hb⟩)); (try dsimp only); replace hG := hG.trans hb; refine hK.out _ _ hG ?_; clear hK K hb; try simp only [Act.put, List.setIfInBounds_toArray, List.set_cons_zero, List.set_cons_succ]))
  refine wpG_last ?_ (fun K hK => ?_); (focus rfl)
  have hc := hG.cells
  have hm := hG.marks
  go_simp
  refine hK.out _ _ ?_
  try simp only [Act.put, List.setIfInBounds_toArray, List.set_cons_zero, List.set_cons_succ]
  clear hK K hc hm
  refine wpG_done ?_
  go_wp2
  go_ret
  exact ⟨rfl, hb0.trans hG⟩

set_option maxHeartbeats 400000 in
theorem ones_core (x y1 y2 z y3 d1 d2 d3 r : Int) (w : World) (h0 : 0 ≤ x) (h1 : 0 ≤ y1) (h2 : 0 ≤ y2) (h3 : 0 ≤ y3) (h4 : 0 ≤ d1) (h5 : 0 ≤ d2) (h6 : 0 ≤ d3) (h7 : d3 ≤ 9223372036854775807)
    (e1 : IntKind.u64.wrap (bits .and .u64 (x / 2) 6148914691236517205 + bits .and .u64 x 6148914691236517205) = y1)
    (e2 : IntKind.u64.wrap (bits .and .u64 (y1 / 4) 3689348814741910323 + bits .and .u64 y1 3689348814741910323) = y2)
    (ez : IntKind.u64.wrap (y2 / 16 + y2) = z) (e3 : bits .and .u64 z 1085102592571150095 = y3)
    (f1 : IntKind.u64.wrap (y3 + y3 / 256) = d1) (f2 : IntKind.u64.wrap (d1 + d1 / 65536) = d2) (f3 : IntKind.u64.wrap (d2 + d2 / 4294967296) = d3) (f4 : bits .and .i64 d3 127 = r) :
    Calls Tryd.prog 38 #[.int .u64 x] w fun e w' => e = .returned (.int .i64 r) ∧ w' = w := by
  go_enter Tryd.func38, Tryd.ntmps38
  go_wp2
  go_ret
  exact ⟨rfl, rfl⟩

theorem wrap_u64_nat (n : Nat) (h : n < 18446744073709551616) : IntKind.u64.wrap (n : Int) = (n : Int) := by rw [IntKind.wrap_u64]; omega

theorem and127 (d : Nat) (h : d < 9223372036854775808) : bits .and .i64 (d : Int) 127 = ((d % 128 : Nat) : Int) := by
  have := bits_mask .i64 63 (by decide) (fun n h1 h2 => by rw [IntKind.wrap_i64]; omega) 7 (by decide) (d : Int) (by omega) (by omega)
  simpa using this

/-- How many bits word i of a set has. -/
def cardW (s : BitVec 256) (i : Nat) : Nat := cardN (s.extractLsb' (64 * i) 64).toNat.testBit 64

theorem ones_any (s : BitVec 256) (i : Nat) (w : World) : Calls Tryd.prog 38 #[.int .u64 (wd s i)] w fun e w' => e = .returned (.int .i64 (cardW s i)) ∧ w' = w := by
  have hx := (s.extractLsb' (64 * i) 64).isLt
  unfold wd cardW
  generalize (s.extractLsb' (64 * i) 64).toNat = x at *
  obtain ⟨y1, e1⟩ : ∃ y, y = (x / 2 &&& 6148914691236517205) + (x &&& 6148914691236517205) := ⟨_, rfl⟩
  obtain ⟨y2, e2⟩ : ∃ y, y = (y1 / 4 &&& 3689348814741910323) + (y1 &&& 3689348814741910323) := ⟨_, rfl⟩
  obtain ⟨y3, e3⟩ : ∃ y, y = (y2 / 16 + y2) &&& 1085102592571150095 := ⟨_, rfl⟩
  obtain ⟨d1, f1⟩ : ∃ y, y = y3 + y3 / 256 := ⟨_, rfl⟩
  obtain ⟨d2, f2⟩ : ∃ y, y = d1 + d1 / 65536 := ⟨_, rfl⟩
  obtain ⟨d3, f3⟩ : ∃ y, y = d2 + d2 / 4294967296 := ⟨_, rfl⟩
  obtain ⟨b1, b2, bz, b3, c1, c2, c3, hr⟩ := ones_sum x (by omega) y1 y2 y3 d1 d2 d3 e1 e2 e3 f1 f2 f3
  have A := fun (a m : Nat) (ha : a < 18446744073709551616) (hm : m < 18446744073709551616) => bits_and_u64_nat a m ha hm
  refine ones_core x y1 y2 ((y2 / 16 + y2 : Nat) : Int) y3 d1 d2 d3 _ w (by omega) (by omega) (by omega) (by omega) (by omega) (by omega) (by omega) (by omega) ?_ ?_ ?_ ?_ ?_ ?_ ?_ ?_
  · have p1 := A (x / 2) 6148914691236517205 (by omega) (by decide)
    have p2 := A x 6148914691236517205 (by omega) (by decide)
    simp only [Int.natCast_ediv] at p1
    have p1' : bits .and .u64 ((x : Int) / 2) 6148914691236517205 = ((x / 2 &&& 6148914691236517205 : Nat) : Int) := p1
    have p2' : bits .and .u64 (x : Int) 6148914691236517205 = ((x &&& 6148914691236517205 : Nat) : Int) := p2
    rw [p1', p2', ← Int.natCast_add, ← e1, wrap_u64_nat _ b1]
  · have p1 := A (y1 / 4) 3689348814741910323 (by omega) (by decide)
    have p2 := A y1 3689348814741910323 (by omega) (by decide)
    simp only [Int.natCast_ediv] at p1
    have p1' : bits .and .u64 ((y1 : Int) / 4) 3689348814741910323 = ((y1 / 4 &&& 3689348814741910323 : Nat) : Int) := p1
    have p2' : bits .and .u64 (y1 : Int) 3689348814741910323 = ((y1 &&& 3689348814741910323 : Nat) : Int) := p2
    rw [p1', p2', ← Int.natCast_add, ← e2, wrap_u64_nat _ b2]
  · have : (y2 : Int) / 16 + (y2 : Int) = ((y2 / 16 + y2 : Nat) : Int) := by omega
    rw [this, wrap_u64_nat _ bz]
  · have p1 : bits .and .u64 ((y2 / 16 + y2 : Nat) : Int) 1085102592571150095 = (((y2 / 16 + y2) &&& 1085102592571150095 : Nat) : Int) := A (y2 / 16 + y2) 1085102592571150095 (by omega) (by decide)
    rw [p1, ← e3]
  · have : (y3 : Int) + (y3 : Int) / 256 = (d1 : Int) := by omega
    rw [this, wrap_u64_nat _ c1]
  · have : (d1 : Int) + (d1 : Int) / 65536 = (d2 : Int) := by omega
    rw [this, wrap_u64_nat _ c2]
  · have : (d2 : Int) + (d2 : Int) / 4294967296 = (d3 : Int) := by omega
    rw [this, wrap_u64_nat _ (by omega)]
  · rw [and127 d3 c3, hr]

end Go.Proofs.YtambkpgcccjhmaaDoor
