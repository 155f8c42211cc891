/- Texts of mine, put together: R3a, R3b, R3c, R3n. No condition but what each says. -/
import Derived.Test.YtihjmeoklbmnmabDoorPLexP
import Derived.Test.YtihjmeoklbmnmabDoorPCode
import Derived.Deep.CutBlock

/- bolterref3: kinds of bytes, digits of base 16, what stands at a place. No condition but lengths' bounds. -/
namespace Go.Proofs.YtihjmeoklbmnmabDoor
open Go Go.RowKit

def dg3 (n : Nat) : Bool := decide (48 ≤ n) && decide (n ≤ 57)
def lt3 (n : Nat) : Bool := (decide (97 ≤ n) && decide (n ≤ 122)) || (decide (65 ≤ n) && decide (n ≤ 90))
theorem dig3_any (k : Nat) (w : World) : Calls Tryd.prog 33 #[.int .u8 (k : Int)] w fun e w' => e = .returned (.bool (dg3 k)) ∧ w' = w := by
  obtain ⟨b, hb⟩ : ∃ b, dg3 k = b := ⟨_, rfl⟩
  rw [hb]
  have key : (48 ≤ k ∧ k ≤ 57 ∧ b = true) ∨ (48 ≤ k ∧ ¬ k ≤ 57 ∧ b = false) ∨ (¬ 48 ≤ k ∧ b = false) := by
    rw [← hb]; unfold dg3
    by_cases h1 : 48 ≤ k <;> by_cases h2 : k ≤ 57 <;> simp [h1, h2]
  clear hb
  rcases key with ⟨h1, h2, rfl⟩ | ⟨h1, h2, rfl⟩ | ⟨h1, rfl⟩
  · have e1 : 48 ≤ (k : Int) := by omega
    have e2 : (k : Int) ≤ 57 := by omega
    clear h1 h2
    go_enter Tryd.func33, Tryd.ntmps33
    go_wp2_with fail
    go_ret
    exact ⟨rfl, rfl⟩
  · have e1 : 48 ≤ (k : Int) := by omega
    have e2 : ¬ (k : Int) ≤ 57 := by omega
    clear h1 h2
    go_enter Tryd.func33, Tryd.ntmps33
    go_wp2_with fail
    go_ret
    exact ⟨rfl, rfl⟩
  · have e1 : ¬ 48 ≤ (k : Int) := by omega
    clear h1
    go_enter Tryd.func33, Tryd.ntmps33
    go_wp2_with fail
    go_ret
    exact ⟨rfl, rfl⟩
set_option maxHeartbeats 2000000 in
theorem let3_any (k : Nat) (w : World) : Calls Tryd.prog 32 #[.int .u8 (k : Int)] w fun e w' => e = .returned (.bool (lt3 k)) ∧ w' = w := by
  obtain ⟨b, hb⟩ : ∃ b, lt3 k = b := ⟨_, rfl⟩
  rw [hb]
  have key : (97 ≤ k ∧ k ≤ 122 ∧ b = true) ∨ (65 ≤ k ∧ k ≤ 90 ∧ b = true) ∨ ((k < 97 ∨ 122 < k) ∧ (k < 65 ∨ 90 < k) ∧ b = false) := by
    rw [← hb]; unfold lt3
    by_cases h1 : 97 ≤ k ∧ k ≤ 122
    · left; exact ⟨h1.1, h1.2, by simp [h1]⟩
    · by_cases h2 : 65 ≤ k ∧ k ≤ 90
      · right; left; exact ⟨h2.1, h2.2, by simp [h2]⟩
      · right; right; exact ⟨by omega, by omega, by simp; omega⟩
  clear hb
  rcases key with ⟨h1, h2, rfl⟩ | ⟨h1, h2, rfl⟩ | ⟨h1, h2, rfl⟩
  · have e1 : 97 ≤ (k : Int) := by omega
    have e2 : (k : Int) ≤ 122 := by omega
    clear h1 h2
    go_enter Tryd.func32, Tryd.ntmps32
    go_wp2_with fail
    go_ret
    exact ⟨rfl, rfl⟩
  · have e1 : ¬ 97 ≤ (k : Int) := by omega
    have e2 : 65 ≤ (k : Int) := by omega
    have e3 : (k : Int) ≤ 90 := by omega
    clear h1 h2
    go_enter Tryd.func32, Tryd.ntmps32
    go_wp2_with fail
    go_ret
    exact ⟨rfl, rfl⟩
  · have c1 : ¬ 97 ≤ (k : Int) ∨ ¬ (k : Int) ≤ 122 := by omega
    have c2 : ¬ 65 ≤ (k : Int) ∨ ¬ (k : Int) ≤ 90 := by omega
    clear h1 h2
    rcases c1 with c1 | c1 <;> rcases c2 with c2 | c2
    all_goals
      go_enter Tryd.func32, Tryd.ntmps32
      go_wp2_with fail
      try go_ret
      try exact ⟨rfl, rfl⟩
/-- A digit of base 16, or -1. -/
def six3 (c : UInt8) : Int := if nibL c < 16 then (nibL c : Int) else -1
theorem six_d (k n : Nat) (w : World) (hd : dg3 k = true) (hn : k = n + 48) (hn9 : n ≤ 9) : Calls Tryd.prog 31 #[.int .u8 (k : Int)] w fun e w' => e = .returned (.int .i64 (n : Int)) ∧ w' = w := by
  have h1 := Lib.hid (fun w => hd ▸ dig3_any k w)
  have e1 : IntKind.u8.wrap ((k : Int) - 48) = (n : Int) := by rw [IntKind.wrap_u8]; omega
  have e2 : IntKind.i64.wrap (n : Int) = (n : Int) := IntWalk.i64_in _ (by omega)
  clear hd hn
  go_enter Tryd.func31, Tryd.ntmps31
  go_wp2_with (go_at_call 33; (with_reducible refine (h1.out _).mono ?_); rintro e w1 ⟨rfl, rfl⟩)
  go_ret
  exact ⟨rfl, rfl⟩
theorem six_l (k n : Nat) (w : World) (hd : dg3 k = false) (hn : k = n + 87) (h10 : 10 ≤ n) (hn15 : n ≤ 15) : Calls Tryd.prog 31 #[.int .u8 (k : Int)] w fun e w' => e = .returned (.int .i64 (n : Int)) ∧ w' = w := by
  have h1 := Lib.hid (fun w => hd ▸ dig3_any k w)
  obtain ⟨m, hm⟩ : ∃ m, n - 10 = m := ⟨_, rfl⟩
  have c1 : 97 ≤ (k : Int) := by omega
  have c2 : (k : Int) ≤ 102 := by omega
  have e1 : IntKind.u8.wrap ((k : Int) - 97) = (m : Int) := by rw [IntKind.wrap_u8]; omega
  have e2 : IntKind.i64.wrap (m : Int) = (m : Int) := IntWalk.i64_in _ (by omega)
  have e3 : IntKind.i64.wrap ((m : Int) + 10) = (n : Int) := by rw [IntWalk.i64_in _ (by omega)]; omega
  clear hd hn hm
  go_enter Tryd.func31, Tryd.ntmps31
  go_wp2_with (go_at_call 33; (with_reducible refine (h1.out _).mono ?_); rintro e w1 ⟨rfl, rfl⟩)
  go_ret
  exact ⟨rfl, rfl⟩
theorem six_u (k n : Nat) (w : World) (hd : dg3 k = false) (hn : k = n + 55) (h10 : 10 ≤ n) (hn15 : n ≤ 15) : Calls Tryd.prog 31 #[.int .u8 (k : Int)] w fun e w' => e = .returned (.int .i64 (n : Int)) ∧ w' = w := by
  have h1 := Lib.hid (fun w => hd ▸ dig3_any k w)
  obtain ⟨m, hm⟩ : ∃ m, n - 10 = m := ⟨_, rfl⟩
  have c0 : ¬ 97 ≤ (k : Int) := by omega
  have c1 : 65 ≤ (k : Int) := by omega
  have c2 : (k : Int) ≤ 70 := by omega
  have e1 : IntKind.u8.wrap ((k : Int) - 65) = (m : Int) := by rw [IntKind.wrap_u8]; omega
  have e2 : IntKind.i64.wrap (m : Int) = (m : Int) := IntWalk.i64_in _ (by omega)
  have e3 : IntKind.i64.wrap ((m : Int) + 10) = (n : Int) := by rw [IntWalk.i64_in _ (by omega)]; omega
  clear hd hn hm
  go_enter Tryd.func31, Tryd.ntmps31
  go_wp2_with (go_at_call 33; (with_reducible refine (h1.out _).mono ?_); rintro e w1 ⟨rfl, rfl⟩)
  go_ret
  exact ⟨rfl, rfl⟩
set_option maxHeartbeats 2000000 in
theorem six_n (k : Nat) (w : World) (hd : dg3 k = false) (h1 : k < 97 ∨ 102 < k) (h2 : k < 65 ∨ 70 < k) : Calls Tryd.prog 31 #[.int .u8 (k : Int)] w fun e w' => e = .returned (.int .i64 (-1)) ∧ w' = w := by
  have hdd := Lib.hid (fun w => hd ▸ dig3_any k w)
  have c1 : ¬ 97 ≤ (k : Int) ∨ ¬ (k : Int) ≤ 102 := by omega
  have c2 : ¬ 65 ≤ (k : Int) ∨ ¬ (k : Int) ≤ 70 := by omega
  clear hd h1 h2
  rcases c1 with c1 | c1 <;> rcases c2 with c2 | c2
  all_goals
    go_enter Tryd.func31, Tryd.ntmps31
    go_wp2_with (go_at_call 33; (with_reducible refine (hdd.out _).mono ?_); rintro e w1 ⟨rfl, rfl⟩)
    try go_ret
    try exact ⟨rfl, rfl⟩
theorem six_any (c : UInt8) (w : World) : Calls Tryd.prog 31 #[.int .u8 (c.toNat : Int)] w fun e w' => e = .returned (.int .i64 (six3 c)) ∧ w' = w := by
  by_cases h1 : 48 ≤ c.toNat ∧ c.toNat ≤ 57
  · have hn : nibL c = c.toNat - 48 := by unfold nibL; rw [if_pos h1]
    unfold six3
    rw [hn, if_pos (by omega)]
    exact six_d _ _ w (by unfold dg3; simp; omega) (by omega) (by omega)
  by_cases h2 : 97 ≤ c.toNat ∧ c.toNat ≤ 102
  · have hn : nibL c = c.toNat - 87 := by unfold nibL; rw [if_neg h1, if_pos h2]
    unfold six3
    rw [hn, if_pos (by omega)]
    exact six_l _ _ w (by unfold dg3; simp; omega) (by omega) (by omega) (by omega)
  by_cases h3 : 65 ≤ c.toNat ∧ c.toNat ≤ 70
  · have hn : nibL c = c.toNat - 55 := by unfold nibL; rw [if_neg h1, if_neg h2, if_pos h3]
    unfold six3
    rw [hn, if_pos (by omega)]
    exact six_u _ _ w (by unfold dg3; simp; omega) (by omega) (by omega) (by omega)
  · have hn : nibL c = 16 := by unfold nibL; rw [if_neg h1, if_neg h2, if_neg h3]
    unfold six3
    rw [hn, if_neg (by omega)]
    exact six_n _ w (by unfold dg3; simp; omega) (by omega) (by omega)

/-! ### What stands at a place -/

theorem run_sub3 {P : Program} (w : World) (t : TypeId) (l : List UInt8) (a b : Nat) (ht : P.underlying t = some .string) (h1 : a ≤ b) (h2 : b ≤ l.length) :
    (Instr.slice t (.string (st l)) (some (.int .i64 (a : Int))) (some (.int .i64 (b : Int))) none).run P w = .ok (.string (st ((l.drop a).take (b - a)))) w := by
  have h := run_slice_string (P := P) w t (st l) .i64 .i64 (a : Int) (b : Int) ht (by omega) (by omega) (by rw [st_size]; omega)
  rw [Int.toNat_natCast, Int.toNat_natCast, st_extract] at h
  exact h
theorem pre_take (s l : List UInt8) : pre s l = (l.take s.length == s) := by
  unfold pre
  rw [Bool.eq_iff_iff, List.isPrefixOf_iff_prefix, beq_iff_eq, List.prefix_iff_eq_take]
  exact ⟨fun h => h.symm, fun h => h.symm⟩
end Go.Proofs.YtihjmeoklbmnmabDoor

/- bolterref3: Escape. No condition but a length's bound. -/
namespace Go.Proofs.YtihjmeoklbmnmabDoor
open Go Go.RowKit

def namesL : List UInt8 := [110, 116, 114, 118, 102, 97, 98, 101, 48]
def meansL : List UInt8 := [10, 9, 13, 11, 12, 7, 8, 27, 0]
theorem letterL_at (k : Nat) (c : UInt8) (h : namesL[k]? = some c) : ∃ v, meansL[k]? = some v ∧ letterL c = some v := by
  have hk : k < 9 := (List.getElem?_eq_some_iff.1 h).1
  have e : (List.range 9).all (fun k => match namesL[k]?, meansL[k]? with | some c, some v => letterL c == some v | _, _ => false) = true := by decide
  have := List.all_eq_true.1 e k (List.mem_range.2 hk)
  rw [h] at this
  split at this
  · rename_i c' v' h1 h2
    injection h1 with h1; subst h1
    exact ⟨v', h2, eq_of_beq this⟩
  · cases this
theorem letterL_none (c : UInt8) (h : ∀ j, j < 9 → namesL[j]? ≠ some c) : letterL c = none := by
  have := all8 (fun c => (letterL c).isNone || namesL.contains c) (by decide +kernel) c
  rw [Bool.or_eq_true] at this
  rcases this with h1 | h1
  · simpa using h1
  · have hm : c ∈ namesL := by simpa using h1
    obtain ⟨j, hj⟩ := List.mem_iff_getElem?.1 hm
    exact absurd hj (h j (List.getElem?_eq_some_iff.1 hj).1)
theorem alnum_eq (c : UInt8) : alnumC c = (dg3 c.toNat || lt3 c.toNat) := by
  have := all8 (fun c => alnumC c == (dg3 c.toNat || lt3 c.toNat)) (by decide +kernel) c
  exact eq_of_beq this
/-- What Escape answers. -/
def Esc3 (t : List UInt8) (a : Nat) (w : World) (x : Option (UInt8 × List UInt8)) (e : Ending) (w' : World) : Prop :=
  Gr w w' ∧ match x with
    | some (v, r) => e = .returned (.tuple #[.int .u8 (v.toNat : Int), .int .i64 ((t.length - a - r.length : Nat) : Int)])
    | none => e = .returned (.tuple #[.int .u8 0, .int .i64 0])
theorem means_at (k : Nat) (v : UInt8) (h : meansL[k]? = some v) : ([.int .u8 10, .int .u8 9, .int .u8 13, .int .u8 11, .int .u8 12, .int .u8 7, .int .u8 8, .int .u8 27, .int .u8 0] : List Value)[k]? = some (.int .u8 (v.toNat : Int)) := by
  have e : ([.int .u8 10, .int .u8 9, .int .u8 13, .int .u8 11, .int .u8 12, .int .u8 7, .int .u8 8, .int .u8 27, .int .u8 0] : List Value) = meansL.map vB := rfl
  rw [e, List.getElem?_map, h]; rfl
theorem names_st : st namesL = { data := #[110, 116, 114, 118, 102, 97, 98, 101, 48] } := rfl

set_option maxRecDepth 100000 in
set_option maxHeartbeats 8000000 in
theorem escape3_any (t : List UInt8) (a : Nat) (w : World) (hT : (t.length : Int) ≤ 4294967280) (ha : a < t.length) :
    Calls Tryd.prog 19 #[.string (st t), .int .i64 (a : Int)] w (Esc3 t a w (escP (t.drop (a + 1)))) := by
  have hsz := st_size t
  have HT := Lib.hid hT
  have HA := Lib.hid ha
  obtain ⟨X, hX⟩ : ∃ X, escP (t.drop (a + 1)) = X := ⟨_, rfl⟩
  rw [hX]
  have hw1 : IntKind.i64.wrap ((a : Int) + 1) = ((a + 1 : Nat) : Int) := by rw [IntWalk.i64_in _ (by omega)]; omega
  have hw2 : IntKind.i64.wrap ((a : Int) + 2) = ((a + 2 : Nat) : Int) := by rw [IntWalk.i64_in _ (by omega)]; omega
  have hw3 : IntKind.i64.wrap ((a : Int) + 3) = ((a + 3 : Nat) : Int) := by rw [IntWalk.i64_in _ (by omega)]; omega
  obtain ⟨a1, ha1⟩ : ∃ x, a + 1 = x := ⟨_, rfl⟩
  obtain ⟨a2, ha2⟩ : ∃ x, a + 2 = x := ⟨_, rfl⟩
  obtain ⟨a3, ha3⟩ : ∃ x, a + 3 = x := ⟨_, rfl⟩
  rw [ha1] at hw1 hX
  rw [ha2] at hw2
  rw [ha3] at hw3
  have HAS := Lib.hid (show a + 1 = a1 ∧ a + 2 = a2 ∧ a + 3 = a3 from ⟨ha1, ha2, ha3⟩)
  clear ha1 ha2 ha3 hT ha
  cases hc : t[a1]? with
  | none =>
    have hge : t.length ≤ a1 := by
      rcases Nat.lt_or_ge a1 t.length with h | h
      · rw [List.getElem?_eq_getElem h] at hc; cases hc
      · exact h
    have hgeI : (t.length : Int) ≤ (a1 : Int) := by omega
    have HXN : Hid (X = none) := Lib.hid (by rw [← hX, List.drop_of_length_le hge]; rfl)
    clear hX hc
    go_enter Tryd.func19, Tryd.ntmps19
    go_wp2_with fail
    go_ret2
    refine ⟨Gr.refl _, ?_⟩
    rw [HXN.out]; rfl
  | some c =>
    have hlt : a1 < t.length := (List.getElem?_eq_some_iff.1 hc).1
    have hd := drop_at t a1 c hc
    have hltI : ¬ (t.length : Int) ≤ (a1 : Int) := by omega
    have hix := fun w' => run_at (P := Tryd.prog) w' 9 t a1 c .i64 Tryd.underlying9 hc
    have hc256 := c.toNat_lt
    have HX : Hid (escP (c :: t.drop a2) = X) := Lib.hid (by rw [← hX, hd]; have := HAS.out; rw [show a1 + 1 = a2 by omega])
    have HLT := Lib.hid hlt
    clear hX hd hc hlt
    go_enter Tryd.func19, Tryd.ntmps19
    go_wp2_with fail
    refine name_world (fun W hW => ?_)
    have xb : boxAt W w.heap.size [.int .u8 10, .int .u8 9, .int .u8 13, .int .u8 11, .int .u8 12, .int .u8 7, .int .u8 8, .int .u8 27, .int .u8 0] := boxAt.new _ _ hW
    have hg : Gr w W := by rw [hW]; exact Gr.alloc _ _
    clear hW
    have XB := Lib.hid xb
    go_loopw [9] (fun iv wr => ∃ k : Nat, iv = .int .i64 (k : Int) ∧ k ≤ 9 ∧ Hid (∀ j, j < k → namesL[j]? ≠ some c) ∧ wr = W) (fun iv _ => 9 - (intOf iv).toNat)
    case atStart => exact ⟨0, rfl, Nat.zero_le _, Lib.hid (fun j h => absurd h (Nat.not_lt_zero _)), rfl⟩
    case round =>
      obtain ⟨k, rfl, hk, hno, rfl⟩ := hrel
      by_cases hk9 : k < 9
      · obtain ⟨d, hd⟩ : ∃ d, namesL[k]? = some d := ⟨_, List.getElem?_eq_getElem hk9⟩
        obtain ⟨v, hv, hlv⟩ := letterL_at k d hd
        have hin := fun w' => run_at (P := Tryd.prog) w' 9 namesL k d .i64 Tryd.underlying9 hd
        rw [names_st] at hin
        have hkI : (k : Int) < 9 := by omega
        have hkw : IntKind.i64.wrap ((k : Int) + 1) = ((k + 1 : Nat) : Int) := by rw [IntWalk.i64_in _ (by omega)]; omega
        have cm : wr.cell? ⟨w.heap.size, k, none⟩ = some (.int .u8 (v.toNat : Int)) := XB.out.cell k _ (means_at k v hv)
        by_cases hcd : c.toNat = d.toNat
        · have hcc : c = d := UInt8.toNat_inj.1 hcd
          have HR : Hid (X = some (v, t.drop a2)) := Lib.hid (by rw [← HX.out, escP_cons, hcc, hlv])
          have hlen : t.length - a - (t.drop a2).length = 2 := by rw [List.length_drop]; have := HAS.out; have := HLT.out; omega
          have HLEN := Lib.hid hlen
          rw [← hcd] at hin
          clear hd hlv hcc hcd hk hk9 hlen hv
          go_wp2_with fail
          go_ret2
          refine ⟨hg, ?_⟩
          rw [HR.out]; simp only; rw [HLEN.out]; rfl
        · have hne : ((c.toNat : Int) == (d.toNat : Int)) = false := by rw [beq_eq_false_iff_ne]; omega
          have hcd2 : d ≠ c := fun h => hcd (by rw [h])
          have HD := Lib.hid (⟨hk9, hd, hcd2⟩ : k < 9 ∧ namesL[k]? = some d ∧ d ≠ c)
          clear hd hlv hcd hcd2 hk hk9 hv cm
          go_wp2_with fail
          go_roundw
          case rel =>
            refine ⟨k + 1, by go_num, by have := HD.out; omega, Lib.hid (fun j hj => ?_), trivial⟩
            rcases Nat.lt_or_ge j k with h | h
            · exact hno.out j h
            · obtain rfl : j = k := by omega
              rw [HD.out.2.1]; intro h; injection h with h; exact HD.out.2.2 h
          case measure => have := HD.out; simp [intOf]; omega
      · obtain rfl : k = 9 := by omega
        have hnone := letterL_none c hno.out
        have HX2 := HX.out
        rw [escP_cons, hnone] at HX2
        simp only at HX2
        clear hk hk9 hno
        by_cases h120 : c.toNat = 120
        · have hcc : c = 120 := (u8_eq c 120 (by omega)).2 h120
          rw [if_pos hcc] at HX2
          have e120 : ((c.toNat : Int) == 120) = true := by rw [beq_iff_eq]; omega
          by_cases hl3 : a3 < t.length
          · obtain ⟨x, hx⟩ : ∃ x, t[a2]? = some x := ⟨_, List.getElem?_eq_getElem (by have := HAS.out; omega)⟩
            obtain ⟨y, hy⟩ : ∃ y, t[a3]? = some y := ⟨_, List.getElem?_eq_getElem hl3⟩
            have hdd : t.drop a2 = x :: y :: t.drop (a3 + 1) := by
              rw [drop_at t a2 x hx, show a2 + 1 = a3 by have := HAS.out; omega, drop_at t a3 y hy]
            rw [hdd] at HX2
            simp only at HX2
            have hl3I : (a3 : Int) < (t.length : Int) := by omega
            have hix2 := fun w' => run_at (P := Tryd.prog) w' 9 t a2 x .i64 Tryd.underlying9 hx
            have hix3 := fun w' => run_at (P := Tryd.prog) w' 9 t a3 y .i64 Tryd.underlying9 hy
            by_cases hpx : nibL x < 16
            · by_cases hpy : nibL y < 16
              · rw [if_pos ⟨hpx, hpy⟩] at HX2
                have HR := Lib.hid HX2.symm
                have hs1 : ∀ w, Calls Tryd.prog 31 #[.int .u8 (x.toNat : Int)] w fun e w' => e = .returned (.int .i64 (nibL x : Int)) ∧ Gr w w' := fun w => (six_any x w).mono (by
                  rintro e w' ⟨rfl, rfl⟩; refine ⟨?_, Gr.refl _⟩; unfold six3; rw [if_pos hpx])
                have hs2 : ∀ w, Calls Tryd.prog 31 #[.int .u8 (y.toNat : Int)] w fun e w' => e = .returned (.int .i64 (nibL y : Int)) ∧ Gr w w' := fun w => (six_any y w).mono (by
                  rintro e w' ⟨rfl, rfl⟩; refine ⟨?_, Gr.refl _⟩; unfold six3; rw [if_pos hpy])
                obtain ⟨p, hp⟩ : ∃ p, nibL x = p := ⟨_, rfl⟩
                obtain ⟨q, hq⟩ : ∃ q, nibL y = q := ⟨_, rfl⟩
                rw [hp] at hs1 HR hpx
                rw [hq] at hs2 HR hpy
                have g1 : IntKind.i64.wrap (16 * (p : Int)) = 16 * (p : Int) := IntWalk.i64_in _ (by omega)
                obtain ⟨v, hv⟩ : ∃ v, 16 * p + q = v := ⟨_, rfl⟩
                have g2 : IntKind.i64.wrap (16 * (p : Int) + (q : Int)) = (v : Int) := by rw [IntWalk.i64_in _ (by omega)]; omega
                have g3 : IntKind.u8.wrap (v : Int) = (v : Int) := by rw [IntKind.wrap_u8]; omega
                have hvv : (UInt8.ofNat v).toNat = v := by simp; omega
                have hlen : t.length - a - (t.drop (a3 + 1)).length = 4 := by rw [List.length_drop]; have := HAS.out; omega
                rw [hv] at HR
                have HV := Lib.hid (⟨hvv, hlen⟩ : (UInt8.ofNat v).toNat = v ∧ t.length - a - (t.drop (a3 + 1)).length = 4)
                have h0p : (0 : Int) ≤ (p : Int) := by omega
                have h0q : (0 : Int) ≤ (q : Int) := by omega
                have hs1 := Lib.hid hs1
                have hs2 := Lib.hid hs2
                clear HX2 HX hdd hx hy hl3 hp hq hv hvv hlen hcc h120 hnone hpx hpy
                go_wp2_with first
                  | (go_at_call 31; (with_reducible refine (hs1.out _).mono ?_); rintro e wq ⟨rfl, hb⟩; replace hg := hg.trans hb; clear hb)
                  | (go_at_call 31; (with_reducible refine (hs2.out _).mono ?_); rintro e wq ⟨rfl, hb⟩; replace hg := hg.trans hb; clear hb)
                refine wp_region_G (.take 0 (.take 1 (.take 2 (.take 3 (.take 6 (.take 7 (.take 8 (.take 9 (.run 4 false (.take 5 (.run 10 false (.take 11 (.take 12 (.run 13 false (.run 14 true .nil))))))))))))))) (by kernel_rfl) (by kernel_rfl) ?_
                simp only [pickOps, nthOp]
                intro wq hG
                repeat (first | (refine wpG_skip_take ?_ ?_; (focus rfl); try simp only [Act.put, List.setIfInBounds_toArray, List.set_cons_zero, List.set_cons_succ]) | (refine wpG_skip_run ?_ ?_; (focus rfl); try simp only [Act.put, List.setIfInBounds_toArray, List.set_cons_zero, List.set_cons_succ]) | (refine wpG_take ?_ ?_; (focus rfl); apply Exists.intro; refine ⟨fun w' hw' => ?_, ?_⟩; (focus (have hc := Gr.cells hw'; go_simp; (try rfl); done)); try simp only [Act.put, List.setIfInBounds_toArray, List.set_cons_zero, List.set_cons_succ]) | (refine wpG_run ?_ (fun K hK => ?_); (focus rfl); go_simp; (first | (go_at_call 31; (with_reducible refine (hs1.out _).mono ?_); rintro e wq ⟨rfl, hb⟩) | (go_at_call 31; (with_reducible refine (hs2.out _).mono ?_); rintro e wq ⟨rfl, hb⟩) | (have hb := Gr.refl wq)); (try dsimp only); replace hG := hG.trans hb; refine hK.out _ _ hG ?_; clear hK K hb; try simp only [Act.put, List.setIfInBounds_toArray, List.set_cons_zero, List.set_cons_succ]))
                refine wpG_last ?_ (fun K hK => ?_); (focus rfl)
                have hc := hG.cells
                have hm := hG.marks
                go_simp
                refine hK.out _ _ ?_
                try simp only [Act.put, List.setIfInBounds_toArray, List.set_cons_zero, List.set_cons_succ]
                clear hK K hc hm
                refine wpG_done ?_
                go_wp2
                go_ret2
                refine ⟨hg.trans hG, ?_⟩
                rw [HR.out]; simp only; rw [HV.out.2, HV.out.1]; rfl
              · rw [if_neg (by omega)] at HX2
                have HR := Lib.hid HX2.symm
                have hs1 : ∀ w, Calls Tryd.prog 31 #[.int .u8 (x.toNat : Int)] w fun e w' => e = .returned (.int .i64 (nibL x : Int)) ∧ Gr w w' := fun w => (six_any x w).mono (by
                  rintro e w' ⟨rfl, rfl⟩; refine ⟨?_, Gr.refl _⟩; unfold six3; rw [if_pos hpx])
                have hs2 : ∀ w, Calls Tryd.prog 31 #[.int .u8 (y.toNat : Int)] w fun e w' => e = .returned (.int .i64 (-1)) ∧ Gr w w' := fun w => (six_any y w).mono (by
                  rintro e w' ⟨rfl, rfl⟩; refine ⟨?_, Gr.refl _⟩; unfold six3; rw [if_neg hpy])
                obtain ⟨p, hp⟩ : ∃ p, nibL x = p := ⟨_, rfl⟩
                rw [hp] at hs1
                have h0p : (0 : Int) ≤ (p : Int) := by omega
                have hs1 := Lib.hid hs1
                have hs2 := Lib.hid hs2
                clear HX2 HX hdd hx hy hl3 hp hcc h120 hnone hpx hpy
                go_wp2_with first
                  | (go_at_call 31; (with_reducible refine (hs1.out _).mono ?_); rintro e wq ⟨rfl, hb⟩; replace hg := hg.trans hb; clear hb)
                  | (go_at_call 31; (with_reducible refine (hs2.out _).mono ?_); rintro e wq ⟨rfl, hb⟩; replace hg := hg.trans hb; clear hb)
                go_ret2
                refine ⟨hg, ?_⟩
                rw [HR.out]; rfl
            · rw [if_neg (by omega)] at HX2
              have HR := Lib.hid HX2.symm
              have hs1 : ∀ w, Calls Tryd.prog 31 #[.int .u8 (x.toNat : Int)] w fun e w' => e = .returned (.int .i64 (-1)) ∧ Gr w w' := fun w => (six_any x w).mono (by
                rintro e w' ⟨rfl, rfl⟩; refine ⟨?_, Gr.refl _⟩; unfold six3; rw [if_neg hpx])
              have hs1 := Lib.hid hs1
              clear HX2 HX hdd hx hy hl3 hcc h120 hnone hpx
              go_wp2_with (go_at_call 31; (with_reducible refine (hs1.out _).mono ?_); rintro e wq ⟨rfl, hb⟩; replace hg := hg.trans hb; clear hb)
              go_ret2
              refine ⟨hg, ?_⟩
              rw [HR.out]; rfl
          · have hl3I : ¬ (a3 : Int) < (t.length : Int) := by omega
            have HR : Hid (X = none) := Lib.hid (by
              have hl : (t.drop a2).length < 2 := by rw [List.length_drop]; have := HAS.out; omega
              rw [← HX2]
              match h : t.drop a2, hl with
              | [], _ => rfl
              | [_], _ => rfl)
            clear HX2 HX hl3 hcc h120 hnone
            go_wp2_with fail
            go_ret2
            refine ⟨hg, ?_⟩
            rw [HR.out]; rfl
        · have hcc : ¬ c = 120 := fun h => h120 ((u8_eq c 120 (by omega)).1 h)
          rw [if_neg hcc, alnum_eq] at HX2
          have e120 : ((c.toNat : Int) == 120) = false := by rw [beq_eq_false_iff_ne]; omega
          have hlt3 : ∀ w, Calls Tryd.prog 32 #[.int .u8 (c.toNat : Int)] w fun e w' => e = .returned (.bool (lt3 c.toNat)) ∧ Gr w w' := fun w => (let3_any c.toNat w).mono (by
            rintro e w' ⟨rfl, rfl⟩; exact ⟨rfl, Gr.refl _⟩)
          have hdg3 : ∀ w, Calls Tryd.prog 33 #[.int .u8 (c.toNat : Int)] w fun e w' => e = .returned (.bool (dg3 c.toNat)) ∧ Gr w w' := fun w => (dig3_any c.toNat w).mono (by
            rintro e w' ⟨rfl, rfl⟩; exact ⟨rfl, Gr.refl _⟩)
          have hlen : t.length - a - (t.drop a2).length = 2 := by rw [List.length_drop]; have := HAS.out; have := HLT.out; omega
          have HLEN := Lib.hid hlen
          obtain ⟨bl, hbl⟩ : ∃ b, lt3 c.toNat = b := ⟨_, rfl⟩
          obtain ⟨bd, hbd⟩ : ∃ b, dg3 c.toNat = b := ⟨_, rfl⟩
          rw [hbl] at hlt3 HX2
          rw [hbd] at hdg3 HX2
          have hlt3 := Lib.hid hlt3
          have hdg3 := Lib.hid hdg3
          by_cases hr : 33 ≤ c.toNat ∧ c.toNat ≤ 126
          · have r1 : (33 : Int) ≤ (c.toNat : Int) := by omega
            have r2 : (c.toNat : Int) ≤ 126 := by omega
            cases bl with
            | true =>
              rw [if_pos (by simp)] at HX2
              have HR := Lib.hid HX2.symm
              clear HX2 HX hcc h120 hnone hlen hbl hbd hr
              go_wp2_with (go_at_call 32; (with_reducible refine (hlt3.out _).mono ?_); rintro e wq ⟨rfl, hb⟩; replace hg := hg.trans hb; clear hb)
              go_ret2
              refine ⟨hg, ?_⟩
              rw [HR.out]; rfl
            | false =>
              cases bd with
              | true =>
                rw [if_pos (by simp)] at HX2
                have HR := Lib.hid HX2.symm
                clear HX2 HX hcc h120 hnone hlen hbl hbd hr
                go_wp2_with first
                  | (go_at_call 32; (with_reducible refine (hlt3.out _).mono ?_); rintro e wq ⟨rfl, hb⟩; replace hg := hg.trans hb; clear hb)
                  | (go_at_call 33; (with_reducible refine (hdg3.out _).mono ?_); rintro e wq ⟨rfl, hb⟩; replace hg := hg.trans hb; clear hb)
                go_ret2
                refine ⟨hg, ?_⟩
                rw [HR.out]; rfl
              | false =>
                rw [if_neg (by simp; omega)] at HX2
                have HR := Lib.hid HX2.symm
                clear HX2 HX hcc h120 hnone hlen hbl hbd hr
                go_wp2_with first
                  | (go_at_call 32; (with_reducible refine (hlt3.out _).mono ?_); rintro e wq ⟨rfl, hb⟩; replace hg := hg.trans hb; clear hb)
                  | (go_at_call 33; (with_reducible refine (hdg3.out _).mono ?_); rintro e wq ⟨rfl, hb⟩; replace hg := hg.trans hb; clear hb)
                go_ret2
                refine ⟨hg, ?_⟩
                rw [HR.out]; simp only; rw [HLEN.out]; rfl
          · rw [if_pos (by omega)] at HX2
            have HR := Lib.hid HX2.symm
            have r : ¬ (33 : Int) ≤ (c.toNat : Int) ∨ ¬ (c.toNat : Int) ≤ 126 := by omega
            have r' : ¬ (33 : Int) ≤ (c.toNat : Int) ∨ ((33 : Int) ≤ (c.toNat : Int) ∧ ¬ (c.toNat : Int) ≤ 126) := by omega
            clear HX2 HX hcc h120 hnone hlen hbl hbd hr r
            rcases r' with r1 | ⟨r1, r2⟩
            all_goals
              go_wp2_with fail
              go_ret2
              refine ⟨hg, ?_⟩
              rw [HR.out]; rfl

end Go.Proofs.YtihjmeoklbmnmabDoor

/- bolterref3: the reader: refuse, ok, char. No condition but a length's bound. -/
namespace Go.Proofs.YtihjmeoklbmnmabDoor
open Go Go.RowKit

/-- The reader of the reference: where it is, how many classes are open, what has been refused. -/
def Rd3 (w : World) (p : Nat) (t : List UInt8) (k o : Nat) (f : Option (Bool × Nat)) : Prop :=
  boxAt w p [.string (st t), .int .i64 (k : Int), .int .i64 (o : Int), .int .i64 (codeO f : Int), .int .i64 0, .int .i64 0, .int .i64 (placeO f : Int), .slice none 0 0]
set_option maxRecDepth 100000 in
theorem at0_any (c a : Int) (w : World) : Calls Tryd.prog 18 #[.int .i64 c, .int .i64 a] w fun e w' => e = .returned (.agg #[.int .i64 c, .int .i64 0, .int .i64 0, .int .i64 a, .slice none 0 0]) ∧ Gr w w' := by
  go_enter Tryd.func18, Tryd.ntmps18
  go_wp2_with fail
  refine bodyPost_ret (v := .agg #[.int .i64 c, .int .i64 0, .int .i64 0, .int .i64 a, .slice none 0 0]) (by simp [results, Tryd.results18, go_sem]) rfl ⟨rfl, Gr.alloc _ _⟩
end Go.Proofs.YtihjmeoklbmnmabDoor

/- bolterref3: Unquote. No condition but a length's bound. Printed by gen_unq3.py. -/
namespace Go.Proofs.YtihjmeoklbmnmabDoor
open Go Go.RowKit

/-- What the reference's Unquote tells. -/
def UnqEnd3 (t : List UInt8) (w : World) (x : Rq) (e : Ending) (w' : World) : Prop :=
  Gr w w' ∧ match x with
    | .ok s r => e = .returned (.tuple #[.string (st s), .int .i64 ((t.length - r.length : Nat) : Int), .agg #[.int .i64 0, .int .i64 0, .int .i64 0, .int .i64 0, .slice none 0 0]])
    | .bad r => e = .returned (.tuple #[.string { data := #[] }, .int .i64 0, .agg #[.int .i64 3, .int .i64 0, .int .i64 0, .int .i64 ((t.length - r.length : Nat) : Int), .slice none 0 0]])
theorem UnqEnd3.bad {t : List UInt8} {w w' : World} {x : Rq} {j : Nat} (he : x = .bad (t.drop j)) (hj : j ≤ t.length) (hG : Gr w w') :
    UnqEnd3 t w x (.returned (.tuple #[.string { data := #[] }, .int .i64 0, .agg #[.int .i64 3, .int .i64 0, .int .i64 0, .int .i64 (j : Int), .slice none 0 0]])) w' := by
  subst he
  refine ⟨hG, ?_⟩
  show _ = _
  rw [List.length_drop, show t.length - (t.length - j) = j by omega]
theorem UnqEnd3.ok {t s : List UInt8} {w w' : World} {x : Rq} {j : Nat} (he : x = .ok s (t.drop j)) (hj : j ≤ t.length) (hG : Gr w w') :
    UnqEnd3 t w x (.returned (.tuple #[.string (st s), .int .i64 (j : Int), .agg #[.int .i64 0, .int .i64 0, .int .i64 0, .int .i64 0, .slice none 0 0]])) w' := by
  subst he
  refine ⟨hG, ?_⟩
  show _ = _
  rw [List.length_drop, show t.length - (t.length - j) = j by omega]
theorem boxAt.put5 {w : World} {b : Nat} {u0 u1 u2 u3 u4 : Value} (h : boxAt w b [u0, u1, u2, u3, u4]) (v0 v1 v2 v3 v4 : Value) :
    boxAt (((((w.setCell ⟨b, 0, none⟩ v0).setCell ⟨b, 1, none⟩ v1).setCell ⟨b, 2, none⟩ v2).setCell ⟨b, 3, none⟩ v3).setCell ⟨b, 4, none⟩ v4) b [v0, v1, v2, v3, v4] :=
  ((((h.put 0 _ (by simp)).put 1 _ (by simp)).put 2 _ (by simp)).put 3 _ (by simp)).put 4 _ (by simp)
theorem Below.put5 {B : Nat} {w w' : World} (h : Below B w w') {b : Nat} (hb : B ≤ b) (v0 v1 v2 v3 v4 : Value) :
    Below B w (((((w'.setCell ⟨b, 0, none⟩ v0).setCell ⟨b, 1, none⟩ v1).setCell ⟨b, 2, none⟩ v2).setCell ⟨b, 3, none⟩ v3).setCell ⟨b, 4, none⟩ v4) :=
  ((((h.setCell (p := ⟨b, 0, none⟩) hb v0).setCell (p := ⟨b, 1, none⟩) hb v1).setCell (p := ⟨b, 2, none⟩) hb v2).setCell (p := ⟨b, 3, none⟩) hb v3).setCell (p := ⟨b, 4, none⟩) hb v4

set_option maxRecDepth 100000 in
set_option maxHeartbeats 16000000 in
theorem unquote3_any (t : List UInt8) (a : Int) (w : World) (hT : (t.length : Int) ≤ 4294967280) :
    Calls Tryd.prog 7 #[.string (st t), .int .i64 a] w (UnqEnd3 t w (unquoteP t a)) := by
  obtain ⟨i0, hi, hz0, hz1, hz2⟩ := info_parts info_u8
  obtain ⟨X, hX⟩ : ∃ X, unquoteP t a = X := ⟨_, rfl⟩
  rw [hX]
  have hsz := st_size t
  have HT := Lib.hid hT
  by_cases ha : a < 0 ∨ (t.length : Int) ≤ a
  · have hX2 : X = .bad (t.drop t.length) := by
      rw [← hX]; unfold unquoteP
      have : (if a < 0 ∨ (t.length : Int) < a then t.length else a.toNat) = t.length := by split <;> omega
      simp only [this]
      rw [List.drop_length, if_neg (by decide)]
    have HX := Lib.hid hX2
    clear hX hX2
    have hq : a < 0 ∨ ¬ a < 0 ∧ (t.length : Int) ≤ a := by omega
    clear ha
    rcases hq with ha | ⟨ha, ha2⟩
    all_goals
      go_enter Tryd.func7, Tryd.ntmps7
      go_wp2_with fail
      go_at_call 18
      refine name_calls (fun W hW => ?_)
      have xf : boxAt W w.heap.size [.int .i64 0, .int .i64 0, .int .i64 0, .int .i64 0, .slice none 0 0] := boxAt.new _ _ hW
      have hg : Gr w W := Gr.of_alloc hW
      clear hW
      refine (at0_any _ _ _).mono ?_; rintro e w7 ⟨rfl, hb⟩
      replace xf := xf.later hb
      replace hg := hg.trans hb
      clear hb
      have c_f0 := xf.cell 0 _ rfl
      have c_f1 := xf.cell 1 _ rfl
      have c_f2 := xf.cell 2 _ rfl
      have c_f3 := xf.cell 3 _ rfl
      have c_f4 := xf.cell 4 _ rfl
      have m_f0 := xf.mark 0 _ rfl
      have m_f1 := xf.mark 1 _ rfl
      have m_f2 := xf.mark 2 _ rfl
      have m_f3 := xf.mark 3 _ rfl
      have m_f4 := xf.mark 4 _ rfl
      have l_f := xf.lt (Nat.succ_pos _)
      go_wp2_with fail
      refine name_end (fun W9 hW => ?_)
      have y9 : boxAt W9 w.heap.size [.int .i64 3, .int .i64 0, .int .i64 0, .int .i64 (t.length : Int), .slice none 0 0] := by rw [hW]; exact xf.put5 _ _ _ _ _
      have hg9 : Gr w W9 := by rw [hW]; exact Below.put5 hg (Nat.le_refl _) _ _ _ _ _
      clear hW
      clear c_f0 c_f1 c_f2 c_f3 c_f4 m_f0 m_f1 m_f2 m_f3 m_f4 l_f
      have c_y0 := y9.cell 0 _ rfl
      have c_y1 := y9.cell 1 _ rfl
      have c_y2 := y9.cell 2 _ rfl
      have c_y3 := y9.cell 3 _ rfl
      have c_y4 := y9.cell 4 _ rfl
      have m_y0 := y9.mark 0 _ rfl
      have m_y1 := y9.mark 1 _ rfl
      have m_y2 := y9.mark 2 _ rfl
      have m_y3 := y9.mark 3 _ rfl
      have m_y4 := y9.mark 4 _ rfl
      have l_y := y9.lt (Nat.succ_pos _)
      refine bodyPost_ret (v := .tuple #[.string { data := #[] }, .int .i64 0, .agg #[.int .i64 3, .int .i64 0, .int .i64 0, .int .i64 (t.length : Int), .slice none 0 0]]) (by simp [results, Tryd.results7, go_sem, c_y0, c_y1, c_y2, c_y3, c_y4]) rfl ?_
      exact UnqEnd3.bad HX.out (Nat.le_refl _) hg9
  obtain ⟨n, rfl⟩ : ∃ n : Nat, a = (n : Int) := ⟨a.toNat, by omega⟩
  have hn : n < t.length := by omega
  have hnI : (n : Int) < (t.length : Int) := by omega
  have hn0 : ¬ (n : Int) < 0 := by omega
  have hnJ : ¬ (t.length : Int) ≤ (n : Int) := by omega
  have e0 : (if (n : Int) < 0 ∨ (t.length : Int) < (n : Int) then t.length else (n : Int).toNat) = n := by rw [if_neg (by omega)]; exact Int.toNat_natCast n
  unfold unquoteP at hX
  simp only [e0] at hX
  obtain ⟨c, hc⟩ : ∃ c, t[n]? = some c := ⟨_, List.getElem?_eq_getElem hn⟩
  have hix := fun w' => run_at (P := Tryd.prog) w' 9 t n c .i64 Tryd.underlying9 hc
  have hd := drop_at t n c hc
  have hc256 := c.toNat_lt
  clear ha e0
  by_cases h34 : c.toNat = 34
  rotate_left
  · have HX : Hid (X = .bad (t.drop n)) := by
      unfold Hid
      rw [← hX, hd, if_neg]
      rw [pre_no (fun h => h34 (by rw [h]; rfl))]; decide
    have e34 : ((c.toNat : Int) != 34) = true := by rw [bne_iff_ne]; omega
    have HN := Lib.hid hn
    clear hX hc hd hc256 h34 hn
    go_enter Tryd.func7, Tryd.ntmps7
    go_wp2_with fail
    go_at_call 18
    refine name_calls (fun W hW => ?_)
    have xf : boxAt W w.heap.size [.int .i64 0, .int .i64 0, .int .i64 0, .int .i64 0, .slice none 0 0] := boxAt.new _ _ hW
    have hg : Gr w W := Gr.of_alloc hW
    clear hW
    refine (at0_any _ _ _).mono ?_; rintro e w7 ⟨rfl, hb⟩
    replace xf := xf.later hb
    replace hg := hg.trans hb
    clear hb
    have c_f0 := xf.cell 0 _ rfl
    have c_f1 := xf.cell 1 _ rfl
    have c_f2 := xf.cell 2 _ rfl
    have c_f3 := xf.cell 3 _ rfl
    have c_f4 := xf.cell 4 _ rfl
    have m_f0 := xf.mark 0 _ rfl
    have m_f1 := xf.mark 1 _ rfl
    have m_f2 := xf.mark 2 _ rfl
    have m_f3 := xf.mark 3 _ rfl
    have m_f4 := xf.mark 4 _ rfl
    have l_f := xf.lt (Nat.succ_pos _)
    go_wp2_with fail
    refine name_end (fun W9 hW => ?_)
    have y9 : boxAt W9 w.heap.size [.int .i64 3, .int .i64 0, .int .i64 0, .int .i64 (n : Int), .slice none 0 0] := by rw [hW]; exact xf.put5 _ _ _ _ _
    have hg9 : Gr w W9 := by rw [hW]; exact Below.put5 hg (Nat.le_refl _) _ _ _ _ _
    clear hW
    clear c_f0 c_f1 c_f2 c_f3 c_f4 m_f0 m_f1 m_f2 m_f3 m_f4 l_f
    have c_y0 := y9.cell 0 _ rfl
    have c_y1 := y9.cell 1 _ rfl
    have c_y2 := y9.cell 2 _ rfl
    have c_y3 := y9.cell 3 _ rfl
    have c_y4 := y9.cell 4 _ rfl
    have m_y0 := y9.mark 0 _ rfl
    have m_y1 := y9.mark 1 _ rfl
    have m_y2 := y9.mark 2 _ rfl
    have m_y3 := y9.mark 3 _ rfl
    have m_y4 := y9.mark 4 _ rfl
    have l_y := y9.lt (Nat.succ_pos _)
    refine bodyPost_ret (v := .tuple #[.string { data := #[] }, .int .i64 0, .agg #[.int .i64 3, .int .i64 0, .int .i64 0, .int .i64 (n : Int), .slice none 0 0]]) (by simp [results, Tryd.results7, go_sem, c_y0, c_y1, c_y2, c_y3, c_y4]) rfl ?_
    exact UnqEnd3.bad HX.out (Nat.le_of_lt HN.out) hg9
  have hc34 : c = 34 := (u8_eq c 34 (by omega)).2 h34
  subst hc34
  obtain ⟨n1, hn1⟩ : ∃ x, n + 1 = x := ⟨_, rfl⟩
  rw [hd, if_pos (by rfl), hn1] at hX
  have hX0 : quotedF (t.drop n1) [] = X := by
    rw [← hX]; unfold quotedF
    exact quotedP_fuel _ _ _ _ (by omega) (by rw [List.length_drop]; omega)
  have HX0 := Lib.hid hX0
  have hw1 : IntKind.i64.wrap ((n : Int) + 1) = (n1 : Int) := by rw [IntWalk.i64_in _ (by omega)]; omega
  have hn1l : n1 ≤ t.length := by omega
  have HIX := Lib.hid hix
  clear hX hX0 hc hd hc256 h34 hn1 hn
  go_enter Tryd.func7, Tryd.ntmps7
  have hix2 : ∀ w' : World, _ = _ := HIX.out
  simp only [show ((34 : UInt8).toNat : Int) = 34 from rfl] at hix2
  clear hix
  go_upto_block 0 with fail
  refine name_world (fun W hW => ?_)
  have xf : boxAt W w.heap.size [.int .i64 0, .int .i64 0, .int .i64 0, .int .i64 0, .slice none 0 0] := boxAt.new _ _ hW
  have hg : Gr w W := Gr.of_alloc hW
  have hlW : w.heap.size < W.heap.size := xf.lt (by simp)
  clear hW hix2 hw1 HIX
  go_wp2_with fail
  go_loopw [7, 8] (fun b iv wr => ∃ (acc : List UInt8) (j : Nat), iv = .int .i64 (j : Int) ∧ n1 ≤ j ∧ j ≤ t.length ∧ acc.length ≤ t.length ∧ acc.length + n1 ≤ j ∧ Hid (quotedF (t.drop j) acc = X) ∧ wr.ownsRow W.heap.size 5 1 b acc.length (acc.map vB) ∧ boxAt wr w.heap.size [.int .i64 0, .int .i64 0, .int .i64 0, .int .i64 0, .slice none 0 0] ∧ Gr w wr ∧ W.heap.size ≤ wr.heap.size) (fun _ iv _ => t.length - (intOf iv).toNat)
  case atStart => exact ⟨[], n1, rfl, by omega, hn1l, by simp, by simp, HX0.out, World.ownsRow_nil _ _ _ _, xf, hg, Nat.le_refl _⟩
  case round =>
    clear xf hg
    obtain ⟨acc, j, rfl, hnj, hj, hal, haj, hY, hown, xf, hg, hs1⟩ := hrel
    have HB := Lib.hid (show n1 ≤ j ∧ acc.length + n1 ≤ j from ⟨hnj, haj⟩)
    have HO := Lib.hid hown
    obtain ⟨ao, cb, rfl⟩ := (Sl.of_owns hown).len
    clear hown hnj haj
    cases hc : t[j]? with
    | none =>
      have hl : j = t.length := by
        rcases Nat.lt_or_ge j t.length with h | h
        · rw [List.getElem?_eq_getElem h] at hc; cases hc
        · omega
      subst hl
      have HX : Hid (X = .bad (t.drop t.length)) := by unfold Hid; rw [← hY.out, List.drop_length]; rfl
      clear hc hj
      go_wp2_with fail
      go_at_call 18
      refine (at0_any _ _ _).mono ?_; rintro e w7 ⟨rfl, hb⟩
      replace xf := xf.later hb
      replace hg := hg.trans hb
      clear hb
      have c_f0 := xf.cell 0 _ rfl
      have c_f1 := xf.cell 1 _ rfl
      have c_f2 := xf.cell 2 _ rfl
      have c_f3 := xf.cell 3 _ rfl
      have c_f4 := xf.cell 4 _ rfl
      have m_f0 := xf.mark 0 _ rfl
      have m_f1 := xf.mark 1 _ rfl
      have m_f2 := xf.mark 2 _ rfl
      have m_f3 := xf.mark 3 _ rfl
      have m_f4 := xf.mark 4 _ rfl
      have l_f := xf.lt (Nat.succ_pos _)
      go_wp2_with fail
      refine name_end (fun W9 hW => ?_)
      have y9 : boxAt W9 w.heap.size [.int .i64 3, .int .i64 0, .int .i64 0, .int .i64 (t.length : Int), .slice none 0 0] := by rw [hW]; exact xf.put5 _ _ _ _ _
      have hg9 : Gr w W9 := by rw [hW]; exact Below.put5 hg (Nat.le_refl _) _ _ _ _ _
      clear hW
      clear c_f0 c_f1 c_f2 c_f3 c_f4 m_f0 m_f1 m_f2 m_f3 m_f4 l_f
      have c_y0 := y9.cell 0 _ rfl
      have c_y1 := y9.cell 1 _ rfl
      have c_y2 := y9.cell 2 _ rfl
      have c_y3 := y9.cell 3 _ rfl
      have c_y4 := y9.cell 4 _ rfl
      have m_y0 := y9.mark 0 _ rfl
      have m_y1 := y9.mark 1 _ rfl
      have m_y2 := y9.mark 2 _ rfl
      have m_y3 := y9.mark 3 _ rfl
      have m_y4 := y9.mark 4 _ rfl
      have l_y := y9.lt (Nat.succ_pos _)
      refine bodyPost_ret (v := .tuple #[.string { data := #[] }, .int .i64 0, .agg #[.int .i64 3, .int .i64 0, .int .i64 0, .int .i64 (t.length : Int), .slice none 0 0]]) (by simp [results, Tryd.results7, go_sem, c_y0, c_y1, c_y2, c_y3, c_y4]) rfl ?_
      exact UnqEnd3.bad HX.out (Nat.le_refl _) hg9
    | some c =>
      have hjl : j < t.length := (List.getElem?_eq_some_iff.1 hc).1
      have hjI : (j : Int) < (t.length : Int) := by omega
      have hjJ : ¬ (t.length : Int) ≤ (j : Int) := by omega
      have hjx := fun w' => run_at (P := Tryd.prog) w' 9 t j c .i64 Tryd.underlying9 hc
      have HD := Lib.hid (drop_at t j c hc)
      have hc256 := c.toNat_lt
      have eq : ∀ k, k < 256 → ¬ c.toNat = k → ¬ c = UInt8.ofNat k := fun k hk h e => h ((u8_eq c k hk).1 e)
      obtain ⟨j1, hj1⟩ : ∃ x, j + 1 = x := ⟨_, rfl⟩
      have hwj : IntKind.i64.wrap ((j : Int) + 1) = (j1 : Int) := by rw [IntWalk.i64_in _ (by omega)]; omega
      have HJ1 := Lib.hid (show j + 1 = j1 ∧ j1 ≤ t.length ∧ j < t.length from ⟨hj1, by omega, hjl⟩)
      clear hc
      by_cases h34 : c.toNat = 34
      · have HX : Hid (X = .ok acc (t.drop j1)) := by
          unfold Hid
          rw [← hY.out, HD.out, show c = 34 from (u8_eq c 34 (by omega)).2 h34, quotedF_end, hj1]
        rw [h34] at hjx
        simp only [Int.cast_ofNat_Int] at hjx
        have hcv := fun W' (h : ∀ a : Addr, W'.cell? a = wr.cell? a) => conv_owned W' 49 9 5 HO.out Tryd.underlying49 Tryd.underlying5 Tryd.underlying9 h
        have hcv1 := hcv wr (fun _ => rfl)
        have hcv2 := hcv wr.drew (fun _ => rfl)
        clear hcv h34 eq hc256 hj1 hjl hj
        have c_f0 := xf.cell 0 _ rfl
        have c_f1 := xf.cell 1 _ rfl
        have c_f2 := xf.cell 2 _ rfl
        have c_f3 := xf.cell 3 _ rfl
        have c_f4 := xf.cell 4 _ rfl
        have m_f0 := xf.mark 0 _ rfl
        have m_f1 := xf.mark 1 _ rfl
        have m_f2 := xf.mark 2 _ rfl
        have m_f3 := xf.mark 3 _ rfl
        have m_f4 := xf.mark 4 _ rfl
        have l_f := xf.lt (Nat.succ_pos _)
        go_wp2_with fail
        refine name_end (fun W9 hW => ?_)
        have y9 : boxAt W9 w.heap.size [.int .i64 0, .int .i64 0, .int .i64 0, .int .i64 0, .slice none 0 0] := by rw [hW]; exact xf.put5 _ _ _ _ _
        have hg9 : Gr w W9 := by rw [hW]; exact Below.put5 hg (Nat.le_refl _) _ _ _ _ _
        clear hW
        clear c_f0 c_f1 c_f2 c_f3 c_f4 m_f0 m_f1 m_f2 m_f3 m_f4 l_f
        have c_y0 := y9.cell 0 _ rfl
        have c_y1 := y9.cell 1 _ rfl
        have c_y2 := y9.cell 2 _ rfl
        have c_y3 := y9.cell 3 _ rfl
        have c_y4 := y9.cell 4 _ rfl
        have m_y0 := y9.mark 0 _ rfl
        have m_y1 := y9.mark 1 _ rfl
        have m_y2 := y9.mark 2 _ rfl
        have m_y3 := y9.mark 3 _ rfl
        have m_y4 := y9.mark 4 _ rfl
        have l_y := y9.lt (Nat.succ_pos _)
        refine bodyPost_ret (v := .tuple #[.string (st acc), .int .i64 (j1 : Int), .agg #[.int .i64 0, .int .i64 0, .int .i64 0, .int .i64 0, .slice none 0 0]]) (by simp [results, Tryd.results7, go_sem, c_y0, c_y1, c_y2, c_y3, c_y4]) rfl ?_
        exact UnqEnd3.ok HX.out HJ1.out.2.1 hg9
      have e34 : ((c.toNat : Int) != 34) = true := by rw [bne_iff_ne]; omega
      by_cases h10 : c.toNat = 10
      · have HX : Hid (X = .bad (t.drop j)) := by
          unfold Hid
          rw [← hY.out, HD.out, show c = 10 from (u8_eq c 10 (by omega)).2 h10]; rfl
        rw [h10] at hjx
        simp only [Int.cast_ofNat_Int] at hjx
        clear h34 e34 h10 eq hc256 hj1 hjl hj
        go_wp2_with fail
        go_at_call 18
        refine (at0_any _ _ _).mono ?_; rintro e w7 ⟨rfl, hb⟩
        replace xf := xf.later hb
        replace hg := hg.trans hb
        clear hb
        have c_f0 := xf.cell 0 _ rfl
        have c_f1 := xf.cell 1 _ rfl
        have c_f2 := xf.cell 2 _ rfl
        have c_f3 := xf.cell 3 _ rfl
        have c_f4 := xf.cell 4 _ rfl
        have m_f0 := xf.mark 0 _ rfl
        have m_f1 := xf.mark 1 _ rfl
        have m_f2 := xf.mark 2 _ rfl
        have m_f3 := xf.mark 3 _ rfl
        have m_f4 := xf.mark 4 _ rfl
        have l_f := xf.lt (Nat.succ_pos _)
        go_wp2_with fail
        refine name_end (fun W9 hW => ?_)
        have y9 : boxAt W9 w.heap.size [.int .i64 3, .int .i64 0, .int .i64 0, .int .i64 (j : Int), .slice none 0 0] := by rw [hW]; exact xf.put5 _ _ _ _ _
        have hg9 : Gr w W9 := by rw [hW]; exact Below.put5 hg (Nat.le_refl _) _ _ _ _ _
        clear hW
        clear c_f0 c_f1 c_f2 c_f3 c_f4 m_f0 m_f1 m_f2 m_f3 m_f4 l_f
        have c_y0 := y9.cell 0 _ rfl
        have c_y1 := y9.cell 1 _ rfl
        have c_y2 := y9.cell 2 _ rfl
        have c_y3 := y9.cell 3 _ rfl
        have c_y4 := y9.cell 4 _ rfl
        have m_y0 := y9.mark 0 _ rfl
        have m_y1 := y9.mark 1 _ rfl
        have m_y2 := y9.mark 2 _ rfl
        have m_y3 := y9.mark 3 _ rfl
        have m_y4 := y9.mark 4 _ rfl
        have l_y := y9.lt (Nat.succ_pos _)
        refine bodyPost_ret (v := .tuple #[.string { data := #[] }, .int .i64 0, .agg #[.int .i64 3, .int .i64 0, .int .i64 0, .int .i64 (j : Int), .slice none 0 0]]) (by simp [results, Tryd.results7, go_sem, c_y0, c_y1, c_y2, c_y3, c_y4]) rfl ?_
        exact UnqEnd3.bad HX.out (Nat.le_of_lt HJ1.out.2.2) hg9
      have e10 : ((c.toNat : Int) == 10) = false := by rw [beq_eq_false_iff_ne]; omega
      by_cases h92 : c.toNat = 92
      · have hc92 : c = 92 := (u8_eq c 92 (by omega)).2 h92
        rw [h92] at hjx
        simp only [Int.cast_ofNat_Int] at hjx
        rw [hj1, hc92] at HD
        have hesc := fun (W : World) => escape3_any t j W hT hjl
        cases hep : escP (t.drop (j + 1)) with
        | none =>
          have hE : Hid (∀ W, Calls Tryd.prog 19 #[.string (st t), .int .i64 (j : Int)] W fun e w' => e = .returned (.tuple #[.int .u8 0, .int .i64 0]) ∧ Gr W w') := fun W => by
            have := hesc W
            rw [hep] at this
            exact this.mono (by rintro e w' ⟨hg, rfl⟩; exact ⟨rfl, hg⟩)
          have HX : Hid (X = .bad (t.drop j)) := by
            unfold Hid
            rw [← hY.out, HD.out, quotedF_bad _ _ (by rw [← HJ1.out.1]; exact hep)]
          clear hesc hep h92 h34 e34 h10 e10 eq hc256 hj1 hc92 hjl hj
          go_wp2_with fail
          go_at_call 19
          refine (hE.out _).mono ?_; rintro e w2 ⟨rfl, hg2⟩
          replace xf := xf.later hg2
          replace hg := hg.trans hg2
          clear hg2
          go_wp2_with fail
          go_at_call 18
          refine (at0_any _ _ _).mono ?_; rintro e w7 ⟨rfl, hb⟩
          replace xf := xf.later hb
          replace hg := hg.trans hb
          clear hb
          have c_f0 := xf.cell 0 _ rfl
          have c_f1 := xf.cell 1 _ rfl
          have c_f2 := xf.cell 2 _ rfl
          have c_f3 := xf.cell 3 _ rfl
          have c_f4 := xf.cell 4 _ rfl
          have m_f0 := xf.mark 0 _ rfl
          have m_f1 := xf.mark 1 _ rfl
          have m_f2 := xf.mark 2 _ rfl
          have m_f3 := xf.mark 3 _ rfl
          have m_f4 := xf.mark 4 _ rfl
          have l_f := xf.lt (Nat.succ_pos _)
          go_wp2_with fail
          refine name_end (fun W9 hW => ?_)
          have y9 : boxAt W9 w.heap.size [.int .i64 3, .int .i64 0, .int .i64 0, .int .i64 (j : Int), .slice none 0 0] := by rw [hW]; exact xf.put5 _ _ _ _ _
          have hg9 : Gr w W9 := by rw [hW]; exact Below.put5 hg (Nat.le_refl _) _ _ _ _ _
          clear hW
          clear c_f0 c_f1 c_f2 c_f3 c_f4 m_f0 m_f1 m_f2 m_f3 m_f4 l_f
          have c_y0 := y9.cell 0 _ rfl
          have c_y1 := y9.cell 1 _ rfl
          have c_y2 := y9.cell 2 _ rfl
          have c_y3 := y9.cell 3 _ rfl
          have c_y4 := y9.cell 4 _ rfl
          have m_y0 := y9.mark 0 _ rfl
          have m_y1 := y9.mark 1 _ rfl
          have m_y2 := y9.mark 2 _ rfl
          have m_y3 := y9.mark 3 _ rfl
          have m_y4 := y9.mark 4 _ rfl
          have l_y := y9.lt (Nat.succ_pos _)
          refine bodyPost_ret (v := .tuple #[.string { data := #[] }, .int .i64 0, .agg #[.int .i64 3, .int .i64 0, .int .i64 0, .int .i64 (j : Int), .slice none 0 0]]) (by simp [results, Tryd.results7, go_sem, c_y0, c_y1, c_y2, c_y3, c_y4]) rfl ?_
          exact UnqEnd3.bad HX.out (Nat.le_of_lt HJ1.out.2.2) hg9
        | some x =>
          obtain ⟨v, r⟩ := x
          obtain ⟨q, hq1, hq2, rfl⟩ := escP_len hep
          rw [List.length_drop] at hq2
          obtain ⟨m, hm⟩ : ∃ m, q + 1 = m := ⟨_, rfl⟩
          obtain ⟨j2, hj2⟩ : ∃ x, j + m = x := ⟨_, rfl⟩
          have hE : Hid (∀ W, Calls Tryd.prog 19 #[.string (st t), .int .i64 (j : Int)] W fun e w' => e = .returned (.tuple #[.int .u8 (v.toNat : Int), .int .i64 (m : Int)]) ∧ Gr W w') := fun W => by
            have := hesc W
            rw [hep] at this
            refine this.mono ?_
            rintro e w' ⟨hg, rfl⟩
            refine ⟨?_, hg⟩
            rw [List.drop_drop, List.length_drop, show t.length - j - (t.length - (j + 1 + q)) = m by omega]
          have HY2 : Hid (quotedF (t.drop j2) (acc ++ [v]) = X) := by
            unfold Hid
            rw [← hY.out, HD.out, quotedF_esc _ (t.drop j2) _ v (by rw [← HJ1.out.1, hep, List.drop_drop]; congr 3; omega)]
          have hm0 : ((m : Int) == 0) = false := by rw [beq_eq_false_iff_ne]; omega
          have hwm : IntKind.i64.wrap ((j : Int) + (m : Int)) = (j2 : Int) := by rw [IntWalk.i64_in _ (by omega)]; omega
          have HJ := Lib.hid (show j < j2 ∧ j2 ≤ t.length from by omega)
          clear hesc hep h92 h34 e34 h10 e10 eq hc256 hj1 hc92 hq1 hq2 hm hj2 hjl
          go_wp2_with fail
          go_at_call 19
          refine (hE.out _).mono ?_; rintro e w4 ⟨rfl, hg2⟩
          replace xf := xf.later hg2
          replace hg := hg.trans hg2
          replace hs1 : W.heap.size ≤ w4.heap.size := by have := hg2.size; omega
          have HO5 := Lib.hid (owns_later HO.out hg2)
          clear hg2
          have HXF := Lib.hid xf
          go_wp2_with (at_builtin; refine wpList_append_own _ rfl (.tmp 67) (.tmp 69) 49 rfl W.heap.size 5 i0 (.int .u8 0) 1 1 Tryd.underlying49 hi hz0 hz1 hz2 rfl (by decide) _ _ _ rfl (HO5.out.alloc _) ⟨w4.heap.size, 0, none⟩ 1 1 [.int .u8 (v.toNat : Int)] rfl rfl ?c1 ?c2 ?c3 ?c4 ?c5 ?_)
          try case c1 => exact new1_cell _ _ _
          case c2 => first | exact one_one _ | rfl
          case c3 => unfold maxLen; omega
          case c4 => omega
          case c5 => first | (simp; omega) | omega
          intro v6 w6 hown6 hgrow _
          have hown' : w6.ownsRow W.heap.size 5 1 v6 (acc ++ [v]).length ((acc ++ [v]).map vB) := by
            rw [List.length_append, List.map_append]; exact hown6
          have hg6 : Gr w w6 := Gr.grown (hg.trans (Gr.alloc _ _)) hgrow (fun g hgb => by have := (World.ownsRow.lt HO5.out g hgb).1; omega)
          have xf6 : boxAt w6 w.heap.size [.int .i64 0, .int .i64 0, .int .i64 0, .int .i64 0, .slice none 0 0] := boxAt.grown (boxAt.later HXF.out (Gr.alloc _ _)) hgrow (by simp) (fun e => by have := (World.ownsRow.lt HO5.out _ e).1; omega)
          have HO6 := Lib.hid hown'
          have hs6 : W.heap.size ≤ w6.heap.size := by have := hgrow.size; simp at this; omega
          clear hown' hown6 hgrow
          go_wp2_with fail
          go_roundw
          case rel => exact ⟨acc ++ [v], j2, rfl, by have := HJ.out; have := HB.out; omega, by have := HJ.out; omega, by rw [List.length_append]; simp; have := HJ.out; have := HB.out; omega, by rw [List.length_append]; simp; have := HJ.out; have := HB.out; omega, HY2.out, HO6.out, xf6, hg6, hs6⟩
          case measure => have := HJ.out; simp [intOf]; omega
      have hc92 : ¬ c = 92 := eq 92 (by omega) h92
      have e92 : ((c.toNat : Int) == 92) = false := by rw [beq_eq_false_iff_ne]; omega
      obtain ⟨j2, hj2⟩ : ∃ x, j1 = x := ⟨_, rfl⟩
      have HY2 : Hid (quotedF (t.drop j2) (acc ++ [c]) = X) := by
        unfold Hid
        rw [← hY.out, HD.out, quotedF_byte c _ _ (eq 10 (by omega) h10) (eq 34 (by omega) h34) hc92, hj1, hj2]
      subst hj2
      have HJ := Lib.hid (show j < j1 ∧ j1 ≤ t.length from by omega)
      obtain ⟨w4, hw4⟩ : ∃ w4, wr = w4 := ⟨_, rfl⟩
      subst hw4
      have HO5 := HO
      have HXF := Lib.hid xf
      clear hc92 h92 h34 h10 eq hc256 hj1 hjl
      go_wp2_with (at_builtin; refine wpList_append_own _ rfl (.tmp 43) (.tmp 47) 49 rfl W.heap.size 5 i0 (.int .u8 0) 1 1 Tryd.underlying49 hi hz0 hz1 hz2 rfl (by decide) _ _ _ rfl (HO5.out.alloc _) ⟨wr.heap.size, 0, none⟩ 1 1 [.int .u8 (c.toNat : Int)] rfl rfl ?c1 ?c2 ?c3 ?c4 ?c5 ?_)
      try case c1 => exact new1_cell _ _ _
      case c2 => first | exact one_one _ | rfl
      case c3 => unfold maxLen; omega
      case c4 => omega
      case c5 => first | (simp; omega) | omega
      intro v6 w6 hown6 hgrow _
      have hown' : w6.ownsRow W.heap.size 5 1 v6 (acc ++ [c]).length ((acc ++ [c]).map vB) := by
        rw [List.length_append, List.map_append]; exact hown6
      have hg6 : Gr w w6 := Gr.grown (hg.trans (Gr.alloc _ _)) hgrow (fun g hgb => by have := (World.ownsRow.lt HO5.out g hgb).1; omega)
      have xf6 : boxAt w6 w.heap.size [.int .i64 0, .int .i64 0, .int .i64 0, .int .i64 0, .slice none 0 0] := boxAt.grown (boxAt.later HXF.out (Gr.alloc _ _)) hgrow (by simp) (fun e => by have := (World.ownsRow.lt HO5.out _ e).1; omega)
      have HO6 := Lib.hid hown'
      have hs6 : W.heap.size ≤ w6.heap.size := by have := hgrow.size; simp at this; omega
      clear hown' hown6 hgrow
      go_wp2_with fail
      go_roundw
      case rel => exact ⟨acc ++ [c], j1, rfl, by have := HJ.out; have := HB.out; omega, by have := HJ.out; omega, by rw [List.length_append]; simp; have := HJ.out; have := HB.out; omega, by rw [List.length_append]; simp; have := HJ.out; have := HB.out; omega, HY2.out, HO6.out, xf6, hg6, hs6⟩
      case measure => have := HJ.out; simp [intOf]; omega

end Go.Proofs.YtihjmeoklbmnmabDoor
