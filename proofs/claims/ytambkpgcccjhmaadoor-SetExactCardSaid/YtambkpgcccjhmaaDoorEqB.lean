/- bolterref0.Eq. No condition. -/
import Derived.Test.YtambkpgcccjhmaaDoorRows
import Derived.Test.YtambkpgcccjhmaaDoorMem
import Derived.WalkSpells
import Derived.WalkLawsBesides
import Derived.Lib.Hide
namespace Go.Proofs.YtambkpgcccjhmaaDoor
open Go Go.RowKit

theorem eqTake_step (l m : List UInt8) (k : Nat) (h1 : k < l.length) (h2 : k < m.length) (h : l.take k = m.take k) (e : l[k] = m[k]) : l.take (k + 1) = m.take (k + 1) := by
  rw [List.take_succ_eq_append_getElem h1, List.take_succ_eq_append_getElem h2, h, e]

set_option maxHeartbeats 1000000 in
theorem eqB_long (l m : List UInt8) (b1 o1 c1 b2 o2 c2 : Nat) (w : World) (hn : l.length ≤ 9223372036854775807) (hlm : l.length = m.length) (hb1 : l.length ≠ 0 → b1 < w.heap.size) (hb2 : l.length ≠ 0 → b2 < w.heap.size)
    (h1 : ∀ (k : Nat) (x : UInt8), l[k]? = some x → w.cell? ⟨b1, o1 + k, none⟩ = some (vB x)) (h2 : ∀ (k : Nat) (x : UInt8), m[k]? = some x → w.cell? ⟨b2, o2 + k, none⟩ = some (vB x)) :
    Calls Tryd.prog 36 #[.slice (some ⟨b1, o1, none⟩) l.length c1, .slice (some ⟨b2, o2, none⟩) l.length c2] w fun e w' => e = .returned (.bool (l == m)) ∧ Gr w w' := by
  have HLM := Lib.hid hlm
  clear hlm
  go_enter Tryd.func36, Tryd.ntmps36
  go_wp2_with fail
  go_loopw [5] (fun i wr => ∃ k : Nat, k ≤ l.length ∧ i = .int .i64 k ∧ Gr w wr ∧ Hid (l.take k = m.take k)) (fun i _ => l.length - (intOf i).toNat)
  case atStart => exact ⟨0, by omega, rfl, Gr.refl _, by simp [Hid]⟩
  case round =>
    obtain ⟨k, hk, rfl, hg, HT⟩ := hrel
    by_cases hlt : k < l.length
    · have hlt2 : k < m.length := by have := HLM.out; omega
      have d1 := hg.cell (h1 k l[k] (List.getElem?_eq_getElem hlt))
      have d2 := hg.cell (h2 k m[k] (List.getElem?_eq_getElem hlt2))
      have z1 : b1 < wr.heap.size := Nat.lt_of_lt_of_le (hb1 (by omega)) hg.size
      have z2 : b2 < wr.heap.size := Nat.lt_of_lt_of_le (hb2 (by omega)) hg.size
      have HS := Lib.hid (fun e : l[k] = m[k] => eqTake_step l m k hlt hlt2 HT.out e)
      have HN := Lib.hid (fun e : l[k] ≠ m[k] => show l ≠ m from fun h => e (by subst h; rfl))
      unfold vB at d1 d2
      clear h1 h2 hb1 hb2
      by_cases e : l[k] = m[k]
      · have F := HS.out e
        rw [← e] at d2
        generalize l[k] = x at *
        have HF := Lib.hid F
        clear F e hlt2 HS HN
        go_wp2_with fail
        refine wp_region_G (.take 0 (.take 1 (.take 2 (.take 3 (.take 4 (.take 5 (.take 6 (.take 7 (.take 8 .nil))))))))) (by kernel_rfl) (by kernel_rfl) ?_
        simp only [pickOps, nthOp]
        intro wq hG
        repeat (first | (refine wpG_skip_take ?_ ?_; (focus rfl); try simp only [Act.put, List.setIfInBounds_toArray, List.set_cons_zero, List.set_cons_succ]) | (refine wpG_skip_run ?_ ?_; (focus rfl); try simp only [Act.put, List.setIfInBounds_toArray, List.set_cons_zero, List.set_cons_succ]) | (refine wpG_take ?_ ?_; (focus rfl); apply Exists.intro; refine ⟨fun w' hw' => ?_, ?_⟩; (focus (have hc := Gr.cells hw'; go_simp; (try rfl); done)); try simp only [Act.put, List.setIfInBounds_toArray, List.set_cons_zero, List.set_cons_succ]))
        refine wpG_done ?_
        go_wp2
        go_roundw
        case rel => exact ⟨k + 1, by omega, by go_num, hg.trans hG, HF.out⟩
        case measure => simp [intOf]; omega
      · have F := HN.out e
        have e2 : ((l[k].toNat : Int) == (m[k].toNat : Int)) = false := by
          simp; intro h; exact e (UInt8.toNat_inj.1 (by omega))
        have HF := Lib.hid F
        clear F e HS HN
        generalize l[k] = x at *
        generalize m[k] = y at *
        clear hlt2
        go_wp2_with fail
        refine wp_region_G (.take 0 (.take 1 (.take 2 (.take 3 (.take 4 (.take 5 (.take 6 (.take 7 (.take 8 .nil))))))))) (by kernel_rfl) (by kernel_rfl) ?_
        simp only [pickOps, nthOp]
        intro wq hG
        repeat (first | (refine wpG_skip_take ?_ ?_; (focus rfl); try simp only [Act.put, List.setIfInBounds_toArray, List.set_cons_zero, List.set_cons_succ]) | (refine wpG_skip_run ?_ ?_; (focus rfl); try simp only [Act.put, List.setIfInBounds_toArray, List.set_cons_zero, List.set_cons_succ]) | (refine wpG_take ?_ ?_; (focus rfl); apply Exists.intro; refine ⟨fun w' hw' => ?_, ?_⟩; (focus (have hc := Gr.cells hw'; go_simp; (try rfl); done)); try simp only [Act.put, List.setIfInBounds_toArray, List.set_cons_zero, List.set_cons_succ]))
        refine wpG_done ?_
        go_wp2
        go_ret
        exact ⟨ret_bool (by have := HF.out; simp [this]), hg.trans hG⟩
    · obtain rfl : k = l.length := by omega
      have F : l = m := by have := HT.out; rw [List.take_length, List.take_of_length_le (by have := HLM.out; omega)] at this; exact this
      have HF := Lib.hid F
      clear F
      go_wp2
      go_ret
      exact ⟨ret_bool (by have := HF.out; subst this; simp), hg⟩

theorem Sl.len {w : World} {v : Value} {k n : Nat} {cs : List Value} (h : Sl w v k n cs) : ∃ p cap, v = .slice p n cap := by
  obtain ⟨_, _, ⟨⟨p, c, rfl⟩, rfl⟩ | ⟨b, off, cap, rfl, _⟩⟩ := h
  · exact ⟨_, _, rfl⟩
  · exact ⟨_, _, rfl⟩

set_option maxHeartbeats 400000 in
theorem eqB_unlike (p q : Option Addr) (n m c1 c2 : Nat) (w : World) (hne : n ≠ m) :
    Calls Tryd.prog 36 #[.slice p n c1, .slice q m c2] w fun e w' => e = .returned (.bool false) ∧ w = w' := by
  have hne2 : ((n : Int) == (m : Int)) = false := by simp; omega
  clear hne
  go_enter Tryd.func36, Tryd.ntmps36
  go_wp2
  go_ret
  exact ⟨rfl, rfl⟩

set_option maxHeartbeats 400000 in
theorem eqB_zero (p q : Option Addr) (c1 c2 : Nat) (w : World) :
    Calls Tryd.prog 36 #[.slice p 0 c1, .slice q 0 c2] w fun e w' => e = .returned (.bool true) ∧ w = w' := by
  go_enter Tryd.func36, Tryd.ntmps36
  go_wp2
  refine wp_loop_rounds 1 ?_
  rw [rounds_succ]
  go_wp2
  go_ret
  exact ⟨rfl, rfl⟩

theorem eqB_any (l m : List UInt8) (v u : Value) (w : World) (hl : Sl w v 1 l.length (l.map vB)) (hm : Sl w u 1 m.length (m.map vB)) :
    Calls Tryd.prog 36 #[v, u] w fun e w' => e = .returned (.bool (l == m)) ∧ Gr w w' := by
  by_cases hlm : l.length = m.length
  · by_cases h0 : l.length = 0
    · obtain ⟨p, c1, rfl⟩ := hl.len
      obtain ⟨q, c2, rfl⟩ := hm.len
      obtain rfl := List.eq_nil_of_length_eq_zero h0
      obtain rfl := List.eq_nil_of_length_eq_zero (hlm.symm.trans h0)
      exact (eqB_zero p q c1 c2 w).mono fun e w' ⟨he, hw⟩ => ⟨he, hw ▸ Gr.refl _⟩
    · obtain ⟨_, hn, ⟨_, hz⟩ | ⟨b1, o1, c1, rfl, hb1, h1⟩⟩ := hl
      · exact absurd hz h0
      · obtain ⟨_, _, ⟨_, hz⟩ | ⟨b2, o2, c2, rfl, hb2, h2⟩⟩ := hm
        · exact absurd (hlm.trans hz) h0
        · rw [← hlm]
          unfold maxLen at hn
          exact eqB_long l m b1 o1 c1 b2 o2 c2 w hn hlm hb1 (fun h => hb2 (hlm ▸ h)) (fun k x hx => h1 k _ (by rw [List.getElem?_map, hx]; rfl)) (fun k x hx => h2 k _ (by rw [List.getElem?_map, hx]; rfl))
  · obtain ⟨p, c1, rfl⟩ := hl.len
    obtain ⟨q, c2, rfl⟩ := hm.len
    have : (l == m) = false := by simp; intro h; exact hlm (by rw [h])
    rw [this]
    exact (eqB_unlike p q _ _ c1 c2 w hlm).mono fun e w' ⟨he, hw⟩ => ⟨he, hw ▸ Gr.refl _⟩

end Go.Proofs.YtambkpgcccjhmaaDoor
