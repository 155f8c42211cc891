/- bolterref0.EqSpans (of like lists), bolterkit.Lend, Back, Over. No condition but that what is lent takes no more than the platform's reach. -/
import Derived.Test.YtambkpgcccjhmaaDoorRefE
import Derived.Laws.MakeOwn
namespace Go.Proofs.YtambkpgcccjhmaaDoor
open Go Go.RowKit

@[go_sem] theorem eqSpan (a b c d : Int) (w : World) : (Op.equalIn 10000 38 (.agg #[.int .u8 a, .int .u8 b]) (.agg #[.int .u8 c, .int .u8 d])).run Tryd.prog w = .ok (a == c && b == d) w := by
  have u3 := Tryd.underlying5
  have hS : Tryd.prog.underlying 38 = some (.struct (Tryd.prog.fieldsOf 38)) := by kernel_rfl
  have hp : Tryd.prog.stoodInHeld 38 = false := by kernel_rfl
  have hs : ∀ w, (sizeOf 5 : Sem Nat).run Tryd.prog w = .ok 1 w := fun w => by kernel_rfl
  rw [show (10000 : Nat) = 9999 + 1 from rfl, run_equalIn_agg w 9999 38 _ _ hS hp]
  simp only [Program.fieldsOf, Tryd.underlying38]
  go_simp
  by_cases h1 : a = c <;> by_cases h2 : b = d <;> simp [h1, h2]

set_option maxHeartbeats 1000000 in
theorem eqSp_long (l : List Sp) (b1 o1 c1 b2 o2 c2 : Nat) (w : World) (hn : l.length ≤ 9223372036854775807) (hb1 : l.length ≠ 0 → b1 < w.heap.size) (hb2 : l.length ≠ 0 → b2 < w.heap.size)
    (h1 : ∀ (k : Nat) (x : Sp), l[k]? = some x → w.cell? ⟨b1, o1 + k * 2, none⟩ = some (vB x.1) ∧ w.cell? ⟨b1, o1 + k * 2 + 1, none⟩ = some (vB x.2))
    (h2 : ∀ (k : Nat) (x : Sp), l[k]? = some x → w.cell? ⟨b2, o2 + k * 2, none⟩ = some (vB x.1) ∧ w.cell? ⟨b2, o2 + k * 2 + 1, none⟩ = some (vB x.2)) :
    Calls Tryd.prog 21 #[.slice (some ⟨b1, o1, none⟩) l.length c1, .slice (some ⟨b2, o2, none⟩) l.length c2] w fun e w' => e = .returned (.bool true) ∧ Gr w w' := by
  go_enter Tryd.func21, Tryd.ntmps21
  go_wp2_with fail
  go_loopw [5] (fun i wr => ∃ k : Nat, k ≤ l.length ∧ i = .int .i64 (k : Int) ∧ Gr w wr) (fun i _ => l.length - (intOf i).toNat)
  case atStart => exact ⟨0, by omega, rfl, Gr.refl _⟩
  case round =>
    obtain ⟨k, hk, rfl, hg⟩ := hrel
    by_cases hlt : k < l.length
    · obtain ⟨p, hp⟩ : ∃ x, l[k]? = some x := ⟨_, List.getElem?_eq_getElem hlt⟩
      have d1 := hg.cell (h1 k p hp).1
      have d2 := hg.cell (h1 k p hp).2
      have d3 := hg.cell (h2 k p hp).1
      have d4 := hg.cell (h2 k p hp).2
      have z1 : b1 < wr.heap.size := Nat.lt_of_lt_of_le (hb1 (by omega)) hg.size
      have z2 : b2 < wr.heap.size := Nat.lt_of_lt_of_le (hb2 (by omega)) hg.size
      unfold vB at d1 d2 d3 d4
      obtain ⟨x, hx⟩ : ∃ x : Nat, p.1.toNat = x := ⟨_, rfl⟩
      obtain ⟨y, hy⟩ : ∃ x : Nat, p.2.toNat = x := ⟨_, rfl⟩
      rw [hx] at d1 d3
      rw [hy] at d2 d4
      have hkI : (k : Int) < (l.length : Int) := by omega
      have HLT := Lib.hid hlt
      clear h1 h2 hb1 hb2 hp hx hy hlt
      go_wp2_with fail
      refine wp_region_G (.take 0 (.take 1 (.take 2 (.take 3 (.take 4 (.take 5 (.take 6 (.take 7 (.take 8 .nil))))))))) (by kernel_rfl) (by kernel_rfl) ?_
      simp only [pickOps, nthOp]
      intro wq hG
      repeat (first | (refine wpG_skip_take ?_ ?_; (focus rfl); try simp only [Act.put, List.setIfInBounds_toArray, List.set_cons_zero, List.set_cons_succ]) | (refine wpG_skip_run ?_ ?_; (focus rfl); try simp only [Act.put, List.setIfInBounds_toArray, List.set_cons_zero, List.set_cons_succ]) | (refine wpG_take ?_ ?_; (focus rfl); apply Exists.intro; refine ⟨fun w' hw' => ?_, ?_⟩; (focus (have hc := Gr.cells hw'; go_simp; (try rfl); done)); try simp only [Act.put, List.setIfInBounds_toArray, List.set_cons_zero, List.set_cons_succ]))
      refine wpG_done ?_
      go_wp2
      go_roundw
      case rel => exact ⟨k + 1, by have := HLT.out; omega, by go_num, hg.trans hG⟩
      case measure => have := HLT.out; simp [intOf]; omega
    · obtain rfl : k = l.length := by omega
      clear hlt h1 h2
      go_wp2
      go_ret
      exact ⟨rfl, hg⟩
set_option maxHeartbeats 400000 in
theorem eqSp_zero (p q : Option Addr) (c1 c2 : Nat) (w : World) :
    Calls Tryd.prog 21 #[.slice p 0 c1, .slice q 0 c2] w fun e w' => e = .returned (.bool true) ∧ Gr w w' := by
  go_enter Tryd.func21, Tryd.ntmps21
  go_wp2
  refine wp_loop_rounds 1 ?_
  rw [rounds_succ]
  go_wp2
  go_ret
  exact ⟨rfl, Gr.refl _⟩
theorem Sl.spCells {w : World} {l : List Sp} {b off : Nat} (hc : ∀ j u, (spsCells l)[j]? = some u → w.cell? ⟨b, off + j, none⟩ = some u) : ∀ (k : Nat) (x : Sp), l[k]? = some x → w.cell? ⟨b, off + k * 2, none⟩ = some (vB x.1) ∧ w.cell? ⟨b, off + k * 2 + 1, none⟩ = some (vB x.2) := fun k x hx => by
  have := spsCells_get l k x hx
  exact ⟨hc _ _ this.1, by rw [Nat.add_assoc]; exact hc _ _ this.2⟩
theorem eqSp_same (l : List Sp) (v u : Value) (w : World) (hl : Sl w v 2 l.length (spsCells l)) (hm : Sl w u 2 l.length (spsCells l)) :
    Calls Tryd.prog 21 #[v, u] w fun e w' => e = .returned (.bool true) ∧ Gr w w' := by
  by_cases h0 : l.length = 0
  · obtain ⟨p, c1, rfl⟩ := hl.len
    obtain ⟨q, c2, rfl⟩ := hm.len
    rw [h0]
    exact eqSp_zero p q c1 c2 w
  · obtain ⟨_, hn, ⟨_, hz⟩ | ⟨b1, o1, c1, rfl, hb1, h1⟩⟩ := hl
    · exact absurd hz h0
    · obtain ⟨_, _, ⟨_, hz⟩ | ⟨b2, o2, c2, rfl, hb2, h2⟩⟩ := hm
      · exact absurd hz h0
      · unfold maxLen at hn
        exact eqSp_long l b1 o1 c1 b2 o2 c2 w hn hb1 hb2 (Sl.spCells h1) (Sl.spCells h2)

end Go.Proofs.YtambkpgcccjhmaaDoor
