/- Of. No condition. -/
import Derived.Test.YtihjmeoklbmnmaaDoorSetC
namespace Go.Proofs.YtihjmeoklbmnmaaDoor
open Go Go.RowKit

/-- The set of these bytes. -/
def ofList (l : List UInt8) : BitVec 256 := ofP (fun k => l.any fun b => b.toNat == k)
theorem getLsbD_ofList (l : List UInt8) (k : Nat) : (ofList l).getLsbD k = (decide (k < 256) && l.any fun b => b.toNat == k) := getLsbD_ofP _ _
theorem ofList_nil : ofList [] = emptyS := ofP_empty _ fun _ _ => rfl
theorem ofList_snoc (l : List UInt8) (b : UInt8) : ofList (l ++ [b]) = ofList l ||| bit b.toNat :=
  (ofP_bit _ _ _ fun k _ => by
    rw [List.any_append]; congr 1
    simp only [List.any_cons, List.any_nil, Bool.or_false]
    rw [Bool.eq_iff_iff]; simp only [beq_iff_eq, decide_eq_true_eq]; exact eq_comm).symm
theorem ofList_take (l : List UInt8) (k : Nat) (h : k < l.length) : ofList (l.take (k + 1)) = ofList (l.take k) ||| bit (l[k].toNat) := by
  rw [← ofList_snoc, List.take_succ_eq_append_getElem h]

set_option maxRecDepth 100000 in
set_option maxHeartbeats 1000000 in
theorem of_some (l : List UInt8) (b off cap : Nat) (w : World) (hn : l.length ≤ 9223372036854775807) (hb : l.length ≠ 0 → b < w.heap.size) (hc : ∀ (k : Nat) (x : UInt8), l[k]? = some x → w.cell? ⟨b, off + k, none⟩ = some (vB x)) :
    Calls Tryd.prog 19 #[.slice (some ⟨b, off, none⟩) l.length cap] w fun e w' => e = .returned (.agg #[.int .u64 (wd (ofList l) 0), .int .u64 (wd (ofList l) 1), .int .u64 (wd (ofList l) 2), .int .u64 (wd (ofList l) 3)]) ∧ Gr w w' := by
  go_enter Tryd.func19, Tryd.ntmps19
  go_wp2
  go_loopw [8] (fun i wr => ∃ (k : Nat) (S : BitVec 256), k ≤ l.length ∧ S = ofList (l.take k) ∧ i = .int .i64 k ∧ wr = ((w.alloc (.cells #[.int .u64 0, .int .u64 0, .int .u64 0, .int .u64 0] 29)).alloc (.cells #[.int .u64 (wd S 0), .int .u64 (wd S 1), .int .u64 (wd S 2), .int .u64 (wd S 3)] 29))) (fun i _ => l.length - (intOf i).toNat)
  case atStart => exact ⟨0, emptyS, by omega, by rw [List.take_zero, ofList_nil], rfl, by simp only [wd_zero]⟩
  case round =>
    obtain ⟨k, S, hk, hS, rfl, rfl⟩ := hrel
    have HS := Lib.hid hS
    clear hS
    by_cases hlt : k < l.length
    · have hcell : w.cell? ⟨b, off + k, none⟩ = some (.int .u8 (l[k].toNat : Int)) := hc k l[k] (List.getElem?_eq_getElem hlt)
      have hbl : b < w.heap.size := hb (by omega)
      have fin : S ||| bit (l[k].toNat) = ofList (l.take (k + 1)) := by rw [HS.out, ofList_take l k hlt]
      have hx := l[k].toNat_lt
      obtain ⟨x, ex⟩ : ∃ x : Nat, x = l[k].toNat := ⟨_, rfl⟩
      rw [← ex] at hcell fin hx
      clear ex hc
      obtain ⟨q, r, hr, hq, hqr⟩ : ∃ q r : Nat, r < 64 ∧ (q = 0 ∨ q = 1 ∨ q = 2 ∨ q = 3) ∧ x = 64 * q + r := ⟨x / 64, x % 64, by omega, by omega, by omega⟩
      have E := fun i (hi : i = x / 64) => wd_setBit S x i r (by omega) (by omega) hi
      have D := fun i (hi : i ≠ x / 64) => wd_setBit_other S x i hi
      have hm : (x : Int) % 64 = r := by omega
      have FIN := Lib.hid fin
      have HE := Lib.hid E
      have HD := Lib.hid D
      have hwr := pow_wrap r hr
      clear fin E D
      rcases hq with rfl | rfl | rfl | rfl
      · have hd : (x : Int) / 64 = 0 := by omega
        have hd2 : x / 64 = 0 := by omega
        clear hqr
        go_wp2
        have e0 := HE.out 0 (by omega)
        simp only [hwr, e0]
        go_roundw
        case rel =>
          have Hd := HD.out
          refine ⟨k + 1, S ||| bit x, by omega, FIN.out, by go_num, ?_⟩
          rw [Hd 1 (by omega), Hd 2 (by omega), Hd 3 (by omega)]
        case measure => simp [intOf]; omega
      · have hd : (x : Int) / 64 = 1 := by omega
        have hd2 : x / 64 = 1 := by omega
        clear hqr
        go_wp2
        have e1 := HE.out 1 (by omega)
        simp only [hwr, e1]
        go_roundw
        case rel =>
          have Hd := HD.out
          refine ⟨k + 1, S ||| bit x, by omega, FIN.out, by go_num, ?_⟩
          rw [Hd 0 (by omega), Hd 2 (by omega), Hd 3 (by omega)]
        case measure => simp [intOf]; omega
      · have hd : (x : Int) / 64 = 2 := by omega
        have hd2 : x / 64 = 2 := by omega
        clear hqr
        go_wp2
        have e2 := HE.out 2 (by omega)
        simp only [hwr, e2]
        go_roundw
        case rel =>
          have Hd := HD.out
          refine ⟨k + 1, S ||| bit x, by omega, FIN.out, by go_num, ?_⟩
          rw [Hd 0 (by omega), Hd 1 (by omega), Hd 3 (by omega)]
        case measure => simp [intOf]; omega
      · have hd : (x : Int) / 64 = 3 := by omega
        have hd2 : x / 64 = 3 := by omega
        clear hqr
        go_wp2
        have e3 := HE.out 3 (by omega)
        simp only [hwr, e3]
        go_roundw
        case rel =>
          have Hd := HD.out
          refine ⟨k + 1, S ||| bit x, by omega, FIN.out, by go_num, ?_⟩
          rw [Hd 0 (by omega), Hd 1 (by omega), Hd 2 (by omega)]
        case measure => simp [intOf]; omega
    · obtain rfl : k = l.length := by omega
      obtain rfl : S = ofList l := by rw [HS.out, List.take_length]
      clear HS
      go_wp2
      refine bodyPost_ret (v := .agg #[.int .u64 (wd (ofList l) 0), .int .u64 (wd (ofList l) 1), .int .u64 (wd (ofList l) 2), .int .u64 (wd (ofList l) 3)]) (by simp [results, Tryd.results19, go_sem]) rfl ⟨rfl, ?_⟩
      exact ((Below.refl _ _).alloc (Nat.le_refl _) _).alloc (by simp) _

set_option maxRecDepth 100000 in
theorem of_any (l : List UInt8) (v : Value) (w : World) (h : Sl w v 1 l.length (l.map vB)) :
    Calls Tryd.prog 19 #[v] w fun e w' => e = .returned (.agg #[.int .u64 (wd (ofList l) 0), .int .u64 (wd (ofList l) 1), .int .u64 (wd (ofList l) 2), .int .u64 (wd (ofList l) 3)]) ∧ Gr w w' := by
  obtain ⟨_, hn, h⟩ := h
  unfold maxLen at hn
  rcases h with ⟨⟨p0, c0, rfl⟩, h0⟩ | ⟨b, off, cap, rfl, hb, hc⟩
  · obtain rfl := List.eq_nil_of_length_eq_zero h0
    go_enter Tryd.func19, Tryd.ntmps19
    go_wp2
    refine wp_loop_rounds 1 ?_
    rw [rounds_succ]
    go_wp2
    refine bodyPost_ret (v := .agg #[.int .u64 (wd (ofList []) 0), .int .u64 (wd (ofList []) 1), .int .u64 (wd (ofList []) 2), .int .u64 (wd (ofList []) 3)]) (by simp [results, Tryd.results19, go_sem, ofList_nil, wd_zero]) rfl ⟨rfl, ?_⟩
    exact ((Below.refl _ _).alloc (Nat.le_refl _) _).alloc (by simp) _
  · exact of_some l b off cap w hn hb (fun k x hx => hc k _ (by rw [List.getElem?_map, hx]; rfl))

end Go.Proofs.YtihjmeoklbmnmaaDoor
