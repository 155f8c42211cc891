/- Texts of mine, put together: R3a, R3b, R3c, R3n, R3d, R3e, R3f, R3g, R3h, R3i, R3j. No condition but what each says. -/
import Derived.Test.YtihjmeoklbmnmaaGreatDoorPLexP
import Derived.Test.YtihjmeoklbmnmaaGreatDoorPCode
import Derived.Deep.CutBlock
import Derived.Test.YtihjmeoklbmnmaaGreatDoorPGb

/- bolterref3: kinds of bytes, digits of base 16, what stands at a place. No condition but lengths' bounds. -/
namespace Go.Proofs.YtihjmeoklbmnmaaGreatDoor
open Go Go.RowKit

def dg3 (n : Nat) : Bool := decide (48 ≤ n) && decide (n ≤ 57)
def lt3 (n : Nat) : Bool := (decide (97 ≤ n) && decide (n ≤ 122)) || (decide (65 ≤ n) && decide (n ≤ 90))
theorem dig3_any (k : Nat) (w : World) : Calls Tryz.prog 78 #[.int .u8 (k : Int)] w fun e w' => e = .returned (.bool (dg3 k)) ∧ w' = w := by
  obtain ⟨b, hb⟩ : ∃ b, dg3 k = b := ⟨_, rfl⟩
  rw [hb]
  have key : (48 ≤ k ∧ k ≤ 57 ∧ b = true) ∨ (48 ≤ k ∧ ¬ k ≤ 57 ∧ b = false) ∨ (¬ 48 ≤ k ∧ b = false) := by
    rw [← hb]; unfold dg3
    by_cases h1 : 48 ≤ k <;> by_cases h2 : k ≤ 57 <;> simp [h1, h2]
  clear hb
  rcases key with ⟨h1, h2, rfl⟩ | ⟨h1, h2, rfl⟩ | ⟨h1, rfl⟩
  · have e1 : 48 ≤ (k : Int) := by omega
    have e2 : (k : Int) ≤ 57 := by omega
    clear h1 h2
    go_enter Tryz.func78, Tryz.ntmps78
    go_wp2_with fail
    go_ret
    exact ⟨rfl, rfl⟩
  · have e1 : 48 ≤ (k : Int) := by omega
    have e2 : ¬ (k : Int) ≤ 57 := by omega
    clear h1 h2
    go_enter Tryz.func78, Tryz.ntmps78
    go_wp2_with fail
    go_ret
    exact ⟨rfl, rfl⟩
  · have e1 : ¬ 48 ≤ (k : Int) := by omega
    clear h1
    go_enter Tryz.func78, Tryz.ntmps78
    go_wp2_with fail
    go_ret
    exact ⟨rfl, rfl⟩
set_option maxHeartbeats 2000000 in
theorem let3_any (k : Nat) (w : World) : Calls Tryz.prog 77 #[.int .u8 (k : Int)] w fun e w' => e = .returned (.bool (lt3 k)) ∧ w' = w := by
  obtain ⟨b, hb⟩ : ∃ b, lt3 k = b := ⟨_, rfl⟩
  rw [hb]
  have key : (97 ≤ k ∧ k ≤ 122 ∧ b = true) ∨ (65 ≤ k ∧ k ≤ 90 ∧ b = true) ∨ ((k < 97 ∨ 122 < k) ∧ (k < 65 ∨ 90 < k) ∧ b = false) := by
    rw [← hb]; unfold lt3
    by_cases h1 : 97 ≤ k ∧ k ≤ 122
    · left; exact ⟨h1.1, h1.2, by simp [h1]⟩
    · by_cases h2 : 65 ≤ k ∧ k ≤ 90
      · right; left; exact ⟨h2.1, h2.2, by simp [h2]⟩
      · right; right; exact ⟨by omega, by omega, by simp; omega⟩
  clear hb
  rcases key with ⟨h1, h2, rfl⟩ | ⟨h1, h2, rfl⟩ | ⟨h1, h2, rfl⟩
  · have e1 : 97 ≤ (k : Int) := by omega
    have e2 : (k : Int) ≤ 122 := by omega
    clear h1 h2
    go_enter Tryz.func77, Tryz.ntmps77
    go_wp2_with fail
    go_ret
    exact ⟨rfl, rfl⟩
  · have e1 : ¬ 97 ≤ (k : Int) := by omega
    have e2 : 65 ≤ (k : Int) := by omega
    have e3 : (k : Int) ≤ 90 := by omega
    clear h1 h2
    go_enter Tryz.func77, Tryz.ntmps77
    go_wp2_with fail
    go_ret
    exact ⟨rfl, rfl⟩
  · have c1 : ¬ 97 ≤ (k : Int) ∨ ¬ (k : Int) ≤ 122 := by omega
    have c2 : ¬ 65 ≤ (k : Int) ∨ ¬ (k : Int) ≤ 90 := by omega
    clear h1 h2
    rcases c1 with c1 | c1 <;> rcases c2 with c2 | c2
    all_goals
      go_enter Tryz.func77, Tryz.ntmps77
      go_wp2_with fail
      try go_ret
      try exact ⟨rfl, rfl⟩
/-- A digit of base 16, or -1. -/
def six3 (c : UInt8) : Int := if nibL c < 16 then (nibL c : Int) else -1
theorem six_d (k n : Nat) (w : World) (hd : dg3 k = true) (hn : k = n + 48) (hn9 : n ≤ 9) : Calls Tryz.prog 76 #[.int .u8 (k : Int)] w fun e w' => e = .returned (.int .i64 (n : Int)) ∧ w' = w := by
  have h1 := Lib.hid (fun w => hd ▸ dig3_any k w)
  have e1 : IntKind.u8.wrap ((k : Int) - 48) = (n : Int) := by rw [IntKind.wrap_u8]; omega
  have e2 : IntKind.i64.wrap (n : Int) = (n : Int) := IntWalk.i64_in _ (by omega)
  clear hd hn
  go_enter Tryz.func76, Tryz.ntmps76
  go_wp2_with (go_at_call 78; (with_reducible refine (h1.out _).mono ?_); rintro e w1 ⟨rfl, rfl⟩)
  go_ret
  exact ⟨rfl, rfl⟩
theorem six_l (k n : Nat) (w : World) (hd : dg3 k = false) (hn : k = n + 87) (h10 : 10 ≤ n) (hn15 : n ≤ 15) : Calls Tryz.prog 76 #[.int .u8 (k : Int)] w fun e w' => e = .returned (.int .i64 (n : Int)) ∧ w' = w := by
  have h1 := Lib.hid (fun w => hd ▸ dig3_any k w)
  obtain ⟨m, hm⟩ : ∃ m, n - 10 = m := ⟨_, rfl⟩
  have c1 : 97 ≤ (k : Int) := by omega
  have c2 : (k : Int) ≤ 102 := by omega
  have e1 : IntKind.u8.wrap ((k : Int) - 97) = (m : Int) := by rw [IntKind.wrap_u8]; omega
  have e2 : IntKind.i64.wrap (m : Int) = (m : Int) := IntWalk.i64_in _ (by omega)
  have e3 : IntKind.i64.wrap ((m : Int) + 10) = (n : Int) := by rw [IntWalk.i64_in _ (by omega)]; omega
  clear hd hn hm
  go_enter Tryz.func76, Tryz.ntmps76
  go_wp2_with (go_at_call 78; (with_reducible refine (h1.out _).mono ?_); rintro e w1 ⟨rfl, rfl⟩)
  go_ret
  exact ⟨rfl, rfl⟩
theorem six_u (k n : Nat) (w : World) (hd : dg3 k = false) (hn : k = n + 55) (h10 : 10 ≤ n) (hn15 : n ≤ 15) : Calls Tryz.prog 76 #[.int .u8 (k : Int)] w fun e w' => e = .returned (.int .i64 (n : Int)) ∧ w' = w := by
  have h1 := Lib.hid (fun w => hd ▸ dig3_any k w)
  obtain ⟨m, hm⟩ : ∃ m, n - 10 = m := ⟨_, rfl⟩
  have c0 : ¬ 97 ≤ (k : Int) := by omega
  have c1 : 65 ≤ (k : Int) := by omega
  have c2 : (k : Int) ≤ 70 := by omega
  have e1 : IntKind.u8.wrap ((k : Int) - 65) = (m : Int) := by rw [IntKind.wrap_u8]; omega
  have e2 : IntKind.i64.wrap (m : Int) = (m : Int) := IntWalk.i64_in _ (by omega)
  have e3 : IntKind.i64.wrap ((m : Int) + 10) = (n : Int) := by rw [IntWalk.i64_in _ (by omega)]; omega
  clear hd hn hm
  go_enter Tryz.func76, Tryz.ntmps76
  go_wp2_with (go_at_call 78; (with_reducible refine (h1.out _).mono ?_); rintro e w1 ⟨rfl, rfl⟩)
  go_ret
  exact ⟨rfl, rfl⟩
set_option maxHeartbeats 2000000 in
theorem six_n (k : Nat) (w : World) (hd : dg3 k = false) (h1 : k < 97 ∨ 102 < k) (h2 : k < 65 ∨ 70 < k) : Calls Tryz.prog 76 #[.int .u8 (k : Int)] w fun e w' => e = .returned (.int .i64 (-1)) ∧ w' = w := by
  have hdd := Lib.hid (fun w => hd ▸ dig3_any k w)
  have c1 : ¬ 97 ≤ (k : Int) ∨ ¬ (k : Int) ≤ 102 := by omega
  have c2 : ¬ 65 ≤ (k : Int) ∨ ¬ (k : Int) ≤ 70 := by omega
  clear hd h1 h2
  rcases c1 with c1 | c1 <;> rcases c2 with c2 | c2
  all_goals
    go_enter Tryz.func76, Tryz.ntmps76
    go_wp2_with (go_at_call 78; (with_reducible refine (hdd.out _).mono ?_); rintro e w1 ⟨rfl, rfl⟩)
    try go_ret
    try exact ⟨rfl, rfl⟩
theorem six_any (c : UInt8) (w : World) : Calls Tryz.prog 76 #[.int .u8 (c.toNat : Int)] w fun e w' => e = .returned (.int .i64 (six3 c)) ∧ w' = w := by
  by_cases h1 : 48 ≤ c.toNat ∧ c.toNat ≤ 57
  · have hn : nibL c = c.toNat - 48 := by unfold nibL; rw [if_pos h1]
    unfold six3
    rw [hn, if_pos (by omega)]
    exact six_d _ _ w (by unfold dg3; simp; omega) (by omega) (by omega)
  by_cases h2 : 97 ≤ c.toNat ∧ c.toNat ≤ 102
  · have hn : nibL c = c.toNat - 87 := by unfold nibL; rw [if_neg h1, if_pos h2]
    unfold six3
    rw [hn, if_pos (by omega)]
    exact six_l _ _ w (by unfold dg3; simp; omega) (by omega) (by omega) (by omega)
  by_cases h3 : 65 ≤ c.toNat ∧ c.toNat ≤ 70
  · have hn : nibL c = c.toNat - 55 := by unfold nibL; rw [if_neg h1, if_neg h2, if_pos h3]
    unfold six3
    rw [hn, if_pos (by omega)]
    exact six_u _ _ w (by unfold dg3; simp; omega) (by omega) (by omega) (by omega)
  · have hn : nibL c = 16 := by unfold nibL; rw [if_neg h1, if_neg h2, if_neg h3]
    unfold six3
    rw [hn, if_neg (by omega)]
    exact six_n _ w (by unfold dg3; simp; omega) (by omega) (by omega)

/-! ### What stands at a place -/

theorem run_sub3 {P : Program} (w : World) (t : TypeId) (l : List UInt8) (a b : Nat) (ht : P.underlying t = some .string) (h1 : a ≤ b) (h2 : b ≤ l.length) :
    (Instr.slice t (.string (st l)) (some (.int .i64 (a : Int))) (some (.int .i64 (b : Int))) none).run P w = .ok (.string (st ((l.drop a).take (b - a)))) w := by
  have h := run_slice_string (P := P) w t (st l) .i64 .i64 (a : Int) (b : Int) ht (by omega) (by omega) (by rw [st_size]; omega)
  rw [Int.toNat_natCast, Int.toNat_natCast, st_extract] at h
  exact h
theorem pre_take (s l : List UInt8) : pre s l = (l.take s.length == s) := by
  unfold pre
  rw [Bool.eq_iff_iff, List.isPrefixOf_iff_prefix, beq_iff_eq, List.prefix_iff_eq_take]
  exact ⟨fun h => h.symm, fun h => h.symm⟩
set_option maxHeartbeats 1000000 in
theorem has3_any (t s : List UInt8) (a : Nat) (w : World) (ha : (a : Int) ≤ 4294967296) (hs0 : 0 < s.length) (hs : (s.length : Int) ≤ 100) (hT : (t.length : Int) ≤ 4294967296) :
    Calls Tryz.prog 25 #[.string (st t), .int .i64 (a : Int), .string (st s)] w fun e w' => e = .returned (.bool (pre s (t.drop a))) ∧ w' = w := by
  have hsz := st_size t
  have hss := st_size s
  obtain ⟨e, he⟩ : ∃ e, a + s.length = e := ⟨_, rfl⟩
  have hw : IntKind.i64.wrap ((a : Int) + (s.length : Int)) = (e : Int) := by rw [IntWalk.i64_in _ (by omega)]; omega
  by_cases hle : e ≤ t.length
  · have hsl := fun w' => run_sub3 (P := Tryz.prog) w' 9 t a e Tryz.underlying9 (by omega) hle
    obtain ⟨q, hq⟩ : ∃ q, (t.drop a).take (e - a) = q := ⟨_, rfl⟩
    obtain ⟨b, hb⟩ : ∃ b, (q == s) = b := ⟨_, rfl⟩
    rw [hq] at hsl
    have hp : pre s (t.drop a) = b := by rw [pre_take, ← hb, ← hq, show e - a = s.length by omega]
    rw [hp]
    have hleI : (e : Int) ≤ (t.length : Int) := by omega
    have hbs : ((st q).toList == (st s).toList) = b := by rw [st_beq]; exact hb
    clear hq hb hp he
    go_enter Tryz.func25, Tryz.ntmps25
    go_wp2_with fail
    go_ret
    exact ⟨rfl, rfl⟩
  · have hp : pre s (t.drop a) = false := by
      cases h : pre s (t.drop a) with
      | false => rfl
      | true =>
        have := pre_len h
        rw [List.length_drop] at this
        omega
    rw [hp]
    have hleI : ¬ (e : Int) ≤ (t.length : Int) := by omega
    clear hp he
    go_enter Tryz.func25, Tryz.ntmps25
    go_wp2_with fail
    go_ret
    exact ⟨rfl, rfl⟩

end Go.Proofs.YtihjmeoklbmnmaaGreatDoor

/- bolterref3: Escape. No condition but a length's bound. -/
namespace Go.Proofs.YtihjmeoklbmnmaaGreatDoor
open Go Go.RowKit

def namesL : List UInt8 := [110, 116, 114, 118, 102, 97, 98, 101, 48]
def meansL : List UInt8 := [10, 9, 13, 11, 12, 7, 8, 27, 0]
theorem letterL_at (k : Nat) (c : UInt8) (h : namesL[k]? = some c) : ∃ v, meansL[k]? = some v ∧ letterL c = some v := by
  have hk : k < 9 := (List.getElem?_eq_some_iff.1 h).1
  have e : (List.range 9).all (fun k => match namesL[k]?, meansL[k]? with | some c, some v => letterL c == some v | _, _ => false) = true := by decide
  have := List.all_eq_true.1 e k (List.mem_range.2 hk)
  rw [h] at this
  split at this
  · rename_i c' v' h1 h2
    injection h1 with h1; subst h1
    exact ⟨v', h2, eq_of_beq this⟩
  · cases this
theorem letterL_none (c : UInt8) (h : ∀ j, j < 9 → namesL[j]? ≠ some c) : letterL c = none := by
  have := all8 (fun c => (letterL c).isNone || namesL.contains c) (by decide +kernel) c
  rw [Bool.or_eq_true] at this
  rcases this with h1 | h1
  · simpa using h1
  · have hm : c ∈ namesL := by simpa using h1
    obtain ⟨j, hj⟩ := List.mem_iff_getElem?.1 hm
    exact absurd hj (h j (List.getElem?_eq_some_iff.1 hj).1)
theorem alnum_eq (c : UInt8) : alnumC c = (dg3 c.toNat || lt3 c.toNat) := by
  have := all8 (fun c => alnumC c == (dg3 c.toNat || lt3 c.toNat)) (by decide +kernel) c
  exact eq_of_beq this
/-- What Escape answers. -/
def Esc3 (t : List UInt8) (a : Nat) (w : World) (x : Option (UInt8 × List UInt8)) (e : Ending) (w' : World) : Prop :=
  Gr w w' ∧ match x with
    | some (v, r) => e = .returned (.tuple #[.int .u8 (v.toNat : Int), .int .i64 ((t.length - a - r.length : Nat) : Int)])
    | none => e = .returned (.tuple #[.int .u8 0, .int .i64 0])
theorem means_at (k : Nat) (v : UInt8) (h : meansL[k]? = some v) : ([.int .u8 10, .int .u8 9, .int .u8 13, .int .u8 11, .int .u8 12, .int .u8 7, .int .u8 8, .int .u8 27, .int .u8 0] : List Value)[k]? = some (.int .u8 (v.toNat : Int)) := by
  have e : ([.int .u8 10, .int .u8 9, .int .u8 13, .int .u8 11, .int .u8 12, .int .u8 7, .int .u8 8, .int .u8 27, .int .u8 0] : List Value) = meansL.map vB := rfl
  rw [e, List.getElem?_map, h]; rfl
theorem names_st : st namesL = { data := #[110, 116, 114, 118, 102, 97, 98, 101, 48] } := rfl

set_option maxRecDepth 100000 in
set_option maxHeartbeats 8000000 in
theorem escape3_any (t : List UInt8) (a : Nat) (w : World) (hT : (t.length : Int) ≤ 4294967280) (ha : a < t.length) :
    Calls Tryz.prog 65 #[.string (st t), .int .i64 (a : Int)] w (Esc3 t a w (escP (t.drop (a + 1)))) := by
  have hsz := st_size t
  have HT := Lib.hid hT
  have HA := Lib.hid ha
  obtain ⟨X, hX⟩ : ∃ X, escP (t.drop (a + 1)) = X := ⟨_, rfl⟩
  rw [hX]
  have hw1 : IntKind.i64.wrap ((a : Int) + 1) = ((a + 1 : Nat) : Int) := by rw [IntWalk.i64_in _ (by omega)]; omega
  have hw2 : IntKind.i64.wrap ((a : Int) + 2) = ((a + 2 : Nat) : Int) := by rw [IntWalk.i64_in _ (by omega)]; omega
  have hw3 : IntKind.i64.wrap ((a : Int) + 3) = ((a + 3 : Nat) : Int) := by rw [IntWalk.i64_in _ (by omega)]; omega
  obtain ⟨a1, ha1⟩ : ∃ x, a + 1 = x := ⟨_, rfl⟩
  obtain ⟨a2, ha2⟩ : ∃ x, a + 2 = x := ⟨_, rfl⟩
  obtain ⟨a3, ha3⟩ : ∃ x, a + 3 = x := ⟨_, rfl⟩
  rw [ha1] at hw1 hX
  rw [ha2] at hw2
  rw [ha3] at hw3
  have HAS := Lib.hid (show a + 1 = a1 ∧ a + 2 = a2 ∧ a + 3 = a3 from ⟨ha1, ha2, ha3⟩)
  clear ha1 ha2 ha3 hT ha
  cases hc : t[a1]? with
  | none =>
    have hge : t.length ≤ a1 := by
      rcases Nat.lt_or_ge a1 t.length with h | h
      · rw [List.getElem?_eq_getElem h] at hc; cases hc
      · exact h
    have hgeI : (t.length : Int) ≤ (a1 : Int) := by omega
    have HXN : Hid (X = none) := Lib.hid (by rw [← hX, List.drop_of_length_le hge]; rfl)
    clear hX hc
    go_enter Tryz.func65, Tryz.ntmps65
    go_wp2_with fail
    go_ret2
    refine ⟨Gr.refl _, ?_⟩
    rw [HXN.out]; rfl
  | some c =>
    have hlt : a1 < t.length := (List.getElem?_eq_some_iff.1 hc).1
    have hd := drop_at t a1 c hc
    have hltI : ¬ (t.length : Int) ≤ (a1 : Int) := by omega
    have hix := fun w' => run_at (P := Tryz.prog) w' 9 t a1 c .i64 Tryz.underlying9 hc
    have hc256 := c.toNat_lt
    have HX : Hid (escP (c :: t.drop a2) = X) := Lib.hid (by rw [← hX, hd]; have := HAS.out; rw [show a1 + 1 = a2 by omega])
    have HLT := Lib.hid hlt
    clear hX hd hc hlt
    go_enter Tryz.func65, Tryz.ntmps65
    go_wp2_with fail
    refine name_world (fun W hW => ?_)
    have xb : boxAt W w.heap.size [.int .u8 10, .int .u8 9, .int .u8 13, .int .u8 11, .int .u8 12, .int .u8 7, .int .u8 8, .int .u8 27, .int .u8 0] := boxAt.new _ _ hW
    have hg : Gr w W := by rw [hW]; exact Gr.alloc _ _
    clear hW
    have XB := Lib.hid xb
    go_loopw [9] (fun iv wr => ∃ k : Nat, iv = .int .i64 (k : Int) ∧ k ≤ 9 ∧ Hid (∀ j, j < k → namesL[j]? ≠ some c) ∧ wr = W) (fun iv _ => 9 - (intOf iv).toNat)
    case atStart => exact ⟨0, rfl, Nat.zero_le _, Lib.hid (fun j h => absurd h (Nat.not_lt_zero _)), rfl⟩
    case round =>
      obtain ⟨k, rfl, hk, hno, rfl⟩ := hrel
      by_cases hk9 : k < 9
      · obtain ⟨d, hd⟩ : ∃ d, namesL[k]? = some d := ⟨_, List.getElem?_eq_getElem hk9⟩
        obtain ⟨v, hv, hlv⟩ := letterL_at k d hd
        have hin := fun w' => run_at (P := Tryz.prog) w' 9 namesL k d .i64 Tryz.underlying9 hd
        rw [names_st] at hin
        have hkI : (k : Int) < 9 := by omega
        have hkw : IntKind.i64.wrap ((k : Int) + 1) = ((k + 1 : Nat) : Int) := by rw [IntWalk.i64_in _ (by omega)]; omega
        have cm : wr.cell? ⟨w.heap.size, k, none⟩ = some (.int .u8 (v.toNat : Int)) := XB.out.cell k _ (means_at k v hv)
        by_cases hcd : c.toNat = d.toNat
        · have hcc : c = d := UInt8.toNat_inj.1 hcd
          have HR : Hid (X = some (v, t.drop a2)) := Lib.hid (by rw [← HX.out, escP_cons, hcc, hlv])
          have hlen : t.length - a - (t.drop a2).length = 2 := by rw [List.length_drop]; have := HAS.out; have := HLT.out; omega
          have HLEN := Lib.hid hlen
          rw [← hcd] at hin
          clear hd hlv hcc hcd hk hk9 hlen hv
          go_wp2_with fail
          go_ret2
          refine ⟨hg, ?_⟩
          rw [HR.out]; simp only; rw [HLEN.out]; rfl
        · have hne : ((c.toNat : Int) == (d.toNat : Int)) = false := by rw [beq_eq_false_iff_ne]; omega
          have hcd2 : d ≠ c := fun h => hcd (by rw [h])
          have HD := Lib.hid (⟨hk9, hd, hcd2⟩ : k < 9 ∧ namesL[k]? = some d ∧ d ≠ c)
          clear hd hlv hcd hcd2 hk hk9 hv cm
          go_wp2_with fail
          go_roundw
          case rel =>
            refine ⟨k + 1, by go_num, by have := HD.out; omega, Lib.hid (fun j hj => ?_), trivial⟩
            rcases Nat.lt_or_ge j k with h | h
            · exact hno.out j h
            · obtain rfl : j = k := by omega
              rw [HD.out.2.1]; intro h; injection h with h; exact HD.out.2.2 h
          case measure => have := HD.out; simp [intOf]; omega
      · obtain rfl : k = 9 := by omega
        have hnone := letterL_none c hno.out
        have HX2 := HX.out
        rw [escP_cons, hnone] at HX2
        simp only at HX2
        clear hk hk9 hno
        by_cases h120 : c.toNat = 120
        · have hcc : c = 120 := (u8_eq c 120 (by omega)).2 h120
          rw [if_pos hcc] at HX2
          have e120 : ((c.toNat : Int) == 120) = true := by rw [beq_iff_eq]; omega
          by_cases hl3 : a3 < t.length
          · obtain ⟨x, hx⟩ : ∃ x, t[a2]? = some x := ⟨_, List.getElem?_eq_getElem (by have := HAS.out; omega)⟩
            obtain ⟨y, hy⟩ : ∃ y, t[a3]? = some y := ⟨_, List.getElem?_eq_getElem hl3⟩
            have hdd : t.drop a2 = x :: y :: t.drop (a3 + 1) := by
              rw [drop_at t a2 x hx, show a2 + 1 = a3 by have := HAS.out; omega, drop_at t a3 y hy]
            rw [hdd] at HX2
            simp only at HX2
            have hl3I : (a3 : Int) < (t.length : Int) := by omega
            have hix2 := fun w' => run_at (P := Tryz.prog) w' 9 t a2 x .i64 Tryz.underlying9 hx
            have hix3 := fun w' => run_at (P := Tryz.prog) w' 9 t a3 y .i64 Tryz.underlying9 hy
            by_cases hpx : nibL x < 16
            · by_cases hpy : nibL y < 16
              · rw [if_pos ⟨hpx, hpy⟩] at HX2
                have HR := Lib.hid HX2.symm
                have hs1 : ∀ w, Calls Tryz.prog 76 #[.int .u8 (x.toNat : Int)] w fun e w' => e = .returned (.int .i64 (nibL x : Int)) ∧ Gr w w' := fun w => (six_any x w).mono (by
                  rintro e w' ⟨rfl, rfl⟩; refine ⟨?_, Gr.refl _⟩; unfold six3; rw [if_pos hpx])
                have hs2 : ∀ w, Calls Tryz.prog 76 #[.int .u8 (y.toNat : Int)] w fun e w' => e = .returned (.int .i64 (nibL y : Int)) ∧ Gr w w' := fun w => (six_any y w).mono (by
                  rintro e w' ⟨rfl, rfl⟩; refine ⟨?_, Gr.refl _⟩; unfold six3; rw [if_pos hpy])
                obtain ⟨p, hp⟩ : ∃ p, nibL x = p := ⟨_, rfl⟩
                obtain ⟨q, hq⟩ : ∃ q, nibL y = q := ⟨_, rfl⟩
                rw [hp] at hs1 HR hpx
                rw [hq] at hs2 HR hpy
                have g1 : IntKind.i64.wrap (16 * (p : Int)) = 16 * (p : Int) := IntWalk.i64_in _ (by omega)
                obtain ⟨v, hv⟩ : ∃ v, 16 * p + q = v := ⟨_, rfl⟩
                have g2 : IntKind.i64.wrap (16 * (p : Int) + (q : Int)) = (v : Int) := by rw [IntWalk.i64_in _ (by omega)]; omega
                have g3 : IntKind.u8.wrap (v : Int) = (v : Int) := by rw [IntKind.wrap_u8]; omega
                have hvv : (UInt8.ofNat v).toNat = v := by simp; omega
                have hlen : t.length - a - (t.drop (a3 + 1)).length = 4 := by rw [List.length_drop]; have := HAS.out; omega
                rw [hv] at HR
                have HV := Lib.hid (⟨hvv, hlen⟩ : (UInt8.ofNat v).toNat = v ∧ t.length - a - (t.drop (a3 + 1)).length = 4)
                have h0p : (0 : Int) ≤ (p : Int) := by omega
                have h0q : (0 : Int) ≤ (q : Int) := by omega
                have hs1 := Lib.hid hs1
                have hs2 := Lib.hid hs2
                clear HX2 HX hdd hx hy hl3 hp hq hv hvv hlen hcc h120 hnone hpx hpy
                go_wp2_with first
                  | (go_at_call 76; (with_reducible refine (hs1.out _).mono ?_); rintro e wq ⟨rfl, hb⟩; replace hg := hg.trans hb; clear hb)
                  | (go_at_call 76; (with_reducible refine (hs2.out _).mono ?_); rintro e wq ⟨rfl, hb⟩; replace hg := hg.trans hb; clear hb)
                refine wp_region_G (.take 0 (.take 1 (.take 2 (.take 3 (.take 6 (.take 7 (.take 8 (.take 9 (.run 4 false (.take 5 (.run 10 false (.take 11 (.take 12 (.run 13 false (.run 14 true .nil))))))))))))))) (by kernel_rfl) (by kernel_rfl) ?_
                simp only [pickOps, nthOp]
                intro wq hG
                repeat (first | (refine wpG_skip_take ?_ ?_; (focus rfl); try simp only [Act.put, List.setIfInBounds_toArray, List.set_cons_zero, List.set_cons_succ]) | (refine wpG_skip_run ?_ ?_; (focus rfl); try simp only [Act.put, List.setIfInBounds_toArray, List.set_cons_zero, List.set_cons_succ]) | (refine wpG_take ?_ ?_; (focus rfl); apply Exists.intro; refine ⟨fun w' hw' => ?_, ?_⟩; (focus (have hc := Gr.cells hw'; go_simp; (try rfl); done)); try simp only [Act.put, List.setIfInBounds_toArray, List.set_cons_zero, List.set_cons_succ]) | (refine wpG_run ?_ (fun K hK => ?_); (focus rfl); go_simp; (first | (go_at_call 76; (with_reducible refine (hs1.out _).mono ?_); rintro e wq ⟨rfl, hb⟩) | (go_at_call 76; (with_reducible refine (hs2.out _).mono ?_); rintro e wq ⟨rfl, hb⟩) | (have hb := Gr.refl wq)); (try dsimp only); replace hG := hG.trans hb; refine hK.out _ _ hG ?_; clear hK K hb; try simp only [Act.put, List.setIfInBounds_toArray, List.set_cons_zero, List.set_cons_succ]))
                refine wpG_last ?_ (fun K hK => ?_); (focus rfl)
                have hc := hG.cells
                have hm := hG.marks
                go_simp
                refine hK.out _ _ ?_
                try simp only [Act.put, List.setIfInBounds_toArray, List.set_cons_zero, List.set_cons_succ]
                clear hK K hc hm
                refine wpG_done ?_
                go_wp2
                go_ret2
                refine ⟨hg.trans hG, ?_⟩
                rw [HR.out]; simp only; rw [HV.out.2, HV.out.1]; rfl
              · rw [if_neg (by omega)] at HX2
                have HR := Lib.hid HX2.symm
                have hs1 : ∀ w, Calls Tryz.prog 76 #[.int .u8 (x.toNat : Int)] w fun e w' => e = .returned (.int .i64 (nibL x : Int)) ∧ Gr w w' := fun w => (six_any x w).mono (by
                  rintro e w' ⟨rfl, rfl⟩; refine ⟨?_, Gr.refl _⟩; unfold six3; rw [if_pos hpx])
                have hs2 : ∀ w, Calls Tryz.prog 76 #[.int .u8 (y.toNat : Int)] w fun e w' => e = .returned (.int .i64 (-1)) ∧ Gr w w' := fun w => (six_any y w).mono (by
                  rintro e w' ⟨rfl, rfl⟩; refine ⟨?_, Gr.refl _⟩; unfold six3; rw [if_neg hpy])
                obtain ⟨p, hp⟩ : ∃ p, nibL x = p := ⟨_, rfl⟩
                rw [hp] at hs1
                have h0p : (0 : Int) ≤ (p : Int) := by omega
                have hs1 := Lib.hid hs1
                have hs2 := Lib.hid hs2
                clear HX2 HX hdd hx hy hl3 hp hcc h120 hnone hpx hpy
                go_wp2_with first
                  | (go_at_call 76; (with_reducible refine (hs1.out _).mono ?_); rintro e wq ⟨rfl, hb⟩; replace hg := hg.trans hb; clear hb)
                  | (go_at_call 76; (with_reducible refine (hs2.out _).mono ?_); rintro e wq ⟨rfl, hb⟩; replace hg := hg.trans hb; clear hb)
                go_ret2
                refine ⟨hg, ?_⟩
                rw [HR.out]; rfl
            · rw [if_neg (by omega)] at HX2
              have HR := Lib.hid HX2.symm
              have hs1 : ∀ w, Calls Tryz.prog 76 #[.int .u8 (x.toNat : Int)] w fun e w' => e = .returned (.int .i64 (-1)) ∧ Gr w w' := fun w => (six_any x w).mono (by
                rintro e w' ⟨rfl, rfl⟩; refine ⟨?_, Gr.refl _⟩; unfold six3; rw [if_neg hpx])
              have hs1 := Lib.hid hs1
              clear HX2 HX hdd hx hy hl3 hcc h120 hnone hpx
              go_wp2_with (go_at_call 76; (with_reducible refine (hs1.out _).mono ?_); rintro e wq ⟨rfl, hb⟩; replace hg := hg.trans hb; clear hb)
              go_ret2
              refine ⟨hg, ?_⟩
              rw [HR.out]; rfl
          · have hl3I : ¬ (a3 : Int) < (t.length : Int) := by omega
            have HR : Hid (X = none) := Lib.hid (by
              have hl : (t.drop a2).length < 2 := by rw [List.length_drop]; have := HAS.out; omega
              rw [← HX2]
              match h : t.drop a2, hl with
              | [], _ => rfl
              | [_], _ => rfl)
            clear HX2 HX hl3 hcc h120 hnone
            go_wp2_with fail
            go_ret2
            refine ⟨hg, ?_⟩
            rw [HR.out]; rfl
        · have hcc : ¬ c = 120 := fun h => h120 ((u8_eq c 120 (by omega)).1 h)
          rw [if_neg hcc, alnum_eq] at HX2
          have e120 : ((c.toNat : Int) == 120) = false := by rw [beq_eq_false_iff_ne]; omega
          have hlt3 : ∀ w, Calls Tryz.prog 77 #[.int .u8 (c.toNat : Int)] w fun e w' => e = .returned (.bool (lt3 c.toNat)) ∧ Gr w w' := fun w => (let3_any c.toNat w).mono (by
            rintro e w' ⟨rfl, rfl⟩; exact ⟨rfl, Gr.refl _⟩)
          have hdg3 : ∀ w, Calls Tryz.prog 78 #[.int .u8 (c.toNat : Int)] w fun e w' => e = .returned (.bool (dg3 c.toNat)) ∧ Gr w w' := fun w => (dig3_any c.toNat w).mono (by
            rintro e w' ⟨rfl, rfl⟩; exact ⟨rfl, Gr.refl _⟩)
          have hlen : t.length - a - (t.drop a2).length = 2 := by rw [List.length_drop]; have := HAS.out; have := HLT.out; omega
          have HLEN := Lib.hid hlen
          obtain ⟨bl, hbl⟩ : ∃ b, lt3 c.toNat = b := ⟨_, rfl⟩
          obtain ⟨bd, hbd⟩ : ∃ b, dg3 c.toNat = b := ⟨_, rfl⟩
          rw [hbl] at hlt3 HX2
          rw [hbd] at hdg3 HX2
          have hlt3 := Lib.hid hlt3
          have hdg3 := Lib.hid hdg3
          by_cases hr : 33 ≤ c.toNat ∧ c.toNat ≤ 126
          · have r1 : (33 : Int) ≤ (c.toNat : Int) := by omega
            have r2 : (c.toNat : Int) ≤ 126 := by omega
            cases bl with
            | true =>
              rw [if_pos (by simp)] at HX2
              have HR := Lib.hid HX2.symm
              clear HX2 HX hcc h120 hnone hlen hbl hbd hr
              go_wp2_with (go_at_call 77; (with_reducible refine (hlt3.out _).mono ?_); rintro e wq ⟨rfl, hb⟩; replace hg := hg.trans hb; clear hb)
              go_ret2
              refine ⟨hg, ?_⟩
              rw [HR.out]; rfl
            | false =>
              cases bd with
              | true =>
                rw [if_pos (by simp)] at HX2
                have HR := Lib.hid HX2.symm
                clear HX2 HX hcc h120 hnone hlen hbl hbd hr
                go_wp2_with first
                  | (go_at_call 77; (with_reducible refine (hlt3.out _).mono ?_); rintro e wq ⟨rfl, hb⟩; replace hg := hg.trans hb; clear hb)
                  | (go_at_call 78; (with_reducible refine (hdg3.out _).mono ?_); rintro e wq ⟨rfl, hb⟩; replace hg := hg.trans hb; clear hb)
                go_ret2
                refine ⟨hg, ?_⟩
                rw [HR.out]; rfl
              | false =>
                rw [if_neg (by simp; omega)] at HX2
                have HR := Lib.hid HX2.symm
                clear HX2 HX hcc h120 hnone hlen hbl hbd hr
                go_wp2_with first
                  | (go_at_call 77; (with_reducible refine (hlt3.out _).mono ?_); rintro e wq ⟨rfl, hb⟩; replace hg := hg.trans hb; clear hb)
                  | (go_at_call 78; (with_reducible refine (hdg3.out _).mono ?_); rintro e wq ⟨rfl, hb⟩; replace hg := hg.trans hb; clear hb)
                go_ret2
                refine ⟨hg, ?_⟩
                rw [HR.out]; simp only; rw [HLEN.out]; rfl
          · rw [if_pos (by omega)] at HX2
            have HR := Lib.hid HX2.symm
            have r : ¬ (33 : Int) ≤ (c.toNat : Int) ∨ ¬ (c.toNat : Int) ≤ 126 := by omega
            have r' : ¬ (33 : Int) ≤ (c.toNat : Int) ∨ ((33 : Int) ≤ (c.toNat : Int) ∧ ¬ (c.toNat : Int) ≤ 126) := by omega
            clear HX2 HX hcc h120 hnone hlen hbl hbd hr r
            rcases r' with r1 | ⟨r1, r2⟩
            all_goals
              go_wp2_with fail
              go_ret2
              refine ⟨hg, ?_⟩
              rw [HR.out]; rfl

end Go.Proofs.YtihjmeoklbmnmaaGreatDoor

/- bolterref3: the reader: refuse, ok, char. No condition but a length's bound. -/
namespace Go.Proofs.YtihjmeoklbmnmaaGreatDoor
open Go Go.RowKit

/-- The reader of the reference: where it is, how many classes are open, what has been refused. -/
def Rd3 (w : World) (p : Nat) (t : List UInt8) (k o : Nat) (f : Option (Bool × Nat)) : Prop :=
  boxAt w p [.string (st t), .int .i64 (k : Int), .int .i64 (o : Int), .int .i64 (codeO f : Int), .int .i64 0, .int .i64 0, .int .i64 (placeO f : Int), .slice none 0 0]
set_option maxRecDepth 100000 in
theorem at0_any (c a : Int) (w : World) : Calls Tryz.prog 10 #[.int .i64 c, .int .i64 a] w fun e w' => e = .returned (.agg #[.int .i64 c, .int .i64 0, .int .i64 0, .int .i64 a, .slice none 0 0]) ∧ Gr w w' := by
  go_enter Tryz.func10, Tryz.ntmps10
  go_wp2_with fail
  refine bodyPost_ret (v := .agg #[.int .i64 c, .int .i64 0, .int .i64 0, .int .i64 a, .slice none 0 0]) (by simp [results, Tryz.results10, go_sem]) rfl ⟨rfl, Gr.alloc _ _⟩
set_option maxRecDepth 100000 in
theorem ok3_any (p k o : Nat) (t : List UInt8) (f : Option (Bool × Nat)) (w : World) (h : Rd3 w p t k o f) : Calls Tryz.prog 12 #[.pointer (some ⟨p, 0, none⟩)] w fun e w' => e = .returned (.bool f.isNone) ∧ Gr w w' := by
  have c3 := h.cell 3 _ rfl
  cases f with
  | none =>
    have c3' : w.cell? ⟨p, 3, none⟩ = some (.int .i64 0) := c3
    clear c3 h
    go_enter Tryz.func12, Tryz.ntmps12
    go_wp2_with fail
    go_ret
    exact ⟨rfl, Gr.refl _⟩
  | some x =>
    obtain ⟨d, a⟩ := x
    have c3' : w.cell? ⟨p, 3, none⟩ = some (.int .i64 (codeB d : Int)) := c3
    obtain ⟨c, hc⟩ : ∃ c, codeB d = c := ⟨_, rfl⟩
    have h2 := (codeB_is d).1
    rw [hc] at c3' h2
    have e0 : ((c : Int) == 0) = false := by rw [beq_eq_false_iff_ne]; omega
    clear c3 h hc h2
    go_enter Tryz.func12, Tryz.ntmps12
    go_wp2_with fail
    go_ret
    exact ⟨rfl, Gr.refl _⟩
set_option maxRecDepth 100000 in
set_option maxHeartbeats 2000000 in
theorem refuse3_any (p k o a : Nat) (d : Bool) (t : List UInt8) (f : Option (Bool × Nat)) (w : World) (h : Rd3 w p t k o f) :
    Calls Tryz.prog 26 #[.pointer (some ⟨p, 0, none⟩), .int .i64 (codeB d : Int), .int .i64 (a : Int)] w fun e w' => e = .returned (.tuple #[]) ∧ Kp p w w' ∧ Rd3 w' p t k o (f.or (some (d, a))) := by
  cases f with
  | none =>
    have hh := Lib.hid h
    have lp := boxAt.lt h (Nat.succ_pos _)
    have c3 : w.cell? ⟨p, 3, none⟩ = some (.int .i64 0) := h.cell 3 _ rfl
    obtain ⟨c, hc⟩ : ∃ c, codeB d = c := ⟨_, rfl⟩
    have hcd : codeO (some (d, a)) = c := hc
    rw [hc]
    have HC := Lib.hid hcd
    clear h hc hcd
    go_enter Tryz.func26, Tryz.ntmps26
    go_wp2_with fail
    go_at_call 10
    refine (at0_any _ _ _).mono ?_; rintro e w1 ⟨rfl, hg⟩
    have xb := boxAt.later hh.out hg
    have c_x0 := xb.cell 0 _ rfl
    have c_x1 := xb.cell 1 _ rfl
    have c_x2 := xb.cell 2 _ rfl
    have c_x3 := xb.cell 3 _ rfl
    have c_x4 := xb.cell 4 _ rfl
    have c_x5 := xb.cell 5 _ rfl
    have c_x6 := xb.cell 6 _ rfl
    have c_x7 := xb.cell 7 _ rfl
    have m_x0 := xb.mark 0 _ rfl
    have m_x1 := xb.mark 1 _ rfl
    have m_x2 := xb.mark 2 _ rfl
    have m_x3 := xb.mark 3 _ rfl
    have m_x4 := xb.mark 4 _ rfl
    have m_x5 := xb.mark 5 _ rfl
    have m_x6 := xb.mark 6 _ rfl
    have m_x7 := xb.mark 7 _ rfl
    have l_x := xb.lt (Nat.succ_pos _)
    go_wp2_with fail
    go_end0
    refine ⟨rfl, ((((((Kp.gr hg).at_p 3 _).at_p 4 _).at_p 5 _).at_p 6 _).at_p 7 _), ?_⟩
    show boxAt _ p [.string (st t), .int .i64 (k : Int), .int .i64 (o : Int), .int .i64 (codeO (some (d, a)) : Int), .int .i64 0, .int .i64 0, .int .i64 (a : Int), .slice none 0 0]
    rw [HC.out]
    exact ((((xb.put 3 _ (by simp)).put 4 _ (by simp)).put 5 _ (by simp)).put 6 _ (by simp)).put 7 _ (by simp)
  | some x =>
    obtain ⟨d', a'⟩ := x
    have hh := Lib.hid h
    have c3 : w.cell? ⟨p, 3, none⟩ = some (.int .i64 (codeB d' : Int)) := h.cell 3 _ rfl
    obtain ⟨c, hc⟩ : ∃ c, codeB d' = c := ⟨_, rfl⟩
    have h2 := (codeB_is d').1
    rw [hc] at c3 h2
    have e0 : ((c : Int) == 0) = false := by rw [beq_eq_false_iff_ne]; omega
    clear h hc h2
    go_enter Tryz.func26, Tryz.ntmps26
    go_wp2_with fail
    go_end0
    exact ⟨rfl, Kp.refl _ _, hh.out⟩

end Go.Proofs.YtihjmeoklbmnmaaGreatDoor

/- bolterref3: Unquote. No condition but a length's bound. Printed by gen_unq3.py. -/
namespace Go.Proofs.YtihjmeoklbmnmaaGreatDoor
open Go Go.RowKit

/-- What the reference's Unquote tells. -/
def UnqEnd3 (t : List UInt8) (w : World) (x : Rq) (e : Ending) (w' : World) : Prop :=
  Gr w w' ∧ match x with
    | .ok s r => e = .returned (.tuple #[.string (st s), .int .i64 ((t.length - r.length : Nat) : Int), .agg #[.int .i64 0, .int .i64 0, .int .i64 0, .int .i64 0, .slice none 0 0]])
    | .bad r => e = .returned (.tuple #[.string { data := #[] }, .int .i64 0, .agg #[.int .i64 3, .int .i64 0, .int .i64 0, .int .i64 ((t.length - r.length : Nat) : Int), .slice none 0 0]])
theorem UnqEnd3.bad {t : List UInt8} {w w' : World} {x : Rq} {j : Nat} (he : x = .bad (t.drop j)) (hj : j ≤ t.length) (hG : Gr w w') :
    UnqEnd3 t w x (.returned (.tuple #[.string { data := #[] }, .int .i64 0, .agg #[.int .i64 3, .int .i64 0, .int .i64 0, .int .i64 (j : Int), .slice none 0 0]])) w' := by
  subst he
  refine ⟨hG, ?_⟩
  show _ = _
  rw [List.length_drop, show t.length - (t.length - j) = j by omega]
theorem UnqEnd3.ok {t s : List UInt8} {w w' : World} {x : Rq} {j : Nat} (he : x = .ok s (t.drop j)) (hj : j ≤ t.length) (hG : Gr w w') :
    UnqEnd3 t w x (.returned (.tuple #[.string (st s), .int .i64 (j : Int), .agg #[.int .i64 0, .int .i64 0, .int .i64 0, .int .i64 0, .slice none 0 0]])) w' := by
  subst he
  refine ⟨hG, ?_⟩
  show _ = _
  rw [List.length_drop, show t.length - (t.length - j) = j by omega]
theorem boxAt.put5 {w : World} {b : Nat} {u0 u1 u2 u3 u4 : Value} (h : boxAt w b [u0, u1, u2, u3, u4]) (v0 v1 v2 v3 v4 : Value) :
    boxAt (((((w.setCell ⟨b, 0, none⟩ v0).setCell ⟨b, 1, none⟩ v1).setCell ⟨b, 2, none⟩ v2).setCell ⟨b, 3, none⟩ v3).setCell ⟨b, 4, none⟩ v4) b [v0, v1, v2, v3, v4] :=
  ((((h.put 0 _ (by simp)).put 1 _ (by simp)).put 2 _ (by simp)).put 3 _ (by simp)).put 4 _ (by simp)
theorem Below.put5 {B : Nat} {w w' : World} (h : Below B w w') {b : Nat} (hb : B ≤ b) (v0 v1 v2 v3 v4 : Value) :
    Below B w (((((w'.setCell ⟨b, 0, none⟩ v0).setCell ⟨b, 1, none⟩ v1).setCell ⟨b, 2, none⟩ v2).setCell ⟨b, 3, none⟩ v3).setCell ⟨b, 4, none⟩ v4) :=
  ((((h.setCell (p := ⟨b, 0, none⟩) hb v0).setCell (p := ⟨b, 1, none⟩) hb v1).setCell (p := ⟨b, 2, none⟩) hb v2).setCell (p := ⟨b, 3, none⟩) hb v3).setCell (p := ⟨b, 4, none⟩) hb v4

end Go.Proofs.YtihjmeoklbmnmaaGreatDoor

/- bolterref3: char. No condition but a length's bound. -/
namespace Go.Proofs.YtihjmeoklbmnmaaGreatDoor
open Go Go.RowKit

def CharEnd3 (p k o : Nat) (t : List UInt8) (w : World) (e : Ending) (w' : World) : Prop :=
  Kp p w w' ∧ match charP (t.drop k) with
    | some (v, r) => e = .returned (.int .u8 (v.toNat : Int)) ∧ Rd3 w' p t (t.length - r.length) o none
    | none => e = .returned (.int .u8 0) ∧ Rd3 w' p t k o (some (false, k))
theorem CharEnd3.ok {p k o j : Nat} {t : List UInt8} {w w' : World} {v : UInt8} (he : charP (t.drop k) = some (v, t.drop j)) (hj : j ≤ t.length) (hK : Kp p w w') (hR : Rd3 w' p t j o none) :
    CharEnd3 p k o t w (.returned (.int .u8 (v.toNat : Int))) w' := by
  refine ⟨hK, ?_⟩
  rw [he]
  refine ⟨rfl, ?_⟩
  rw [List.length_drop, show t.length - (t.length - j) = j by omega]; exact hR
theorem CharEnd3.bad {p k o : Nat} {t : List UInt8} {w w' : World} (he : charP (t.drop k) = none) (hK : Kp p w w') (hR : Rd3 w' p t k o (some (false, k))) :
    CharEnd3 p k o t w (.returned (.int .u8 0)) w' := by
  refine ⟨hK, ?_⟩
  rw [he]
  exact ⟨rfl, hR⟩

set_option maxRecDepth 100000 in
set_option maxHeartbeats 8000000 in
theorem char3_any (p k o : Nat) (t : List UInt8) (w : World) (h : Rd3 w p t k o none) (hT : (t.length : Int) ≤ 4294967280) (hk : k ≤ t.length) :
    Calls Tryz.prog 48 #[.pointer (some ⟨p, 0, none⟩)] w (CharEnd3 p k o t w) := by
  have hsz := st_size t
  have H0 := Lib.hid h
  have hw0 : IntKind.i64.wrap (k : Int) = (k : Int) := IntWalk.i64_in _ (by omega)
  have hw1 : IntKind.i64.wrap ((k : Int) + 1) = ((k + 1 : Nat) : Int) := by rw [IntWalk.i64_in _ (by omega)]; omega
  have HT := Lib.hid hT
  cases hc : t[k]? with
  | none =>
    have hl : k = t.length := by
      rcases Nat.lt_or_ge k t.length with h | h
      · rw [List.getElem?_eq_getElem h] at hc; cases hc
      · omega
    have HX : Hid (charP (t.drop k) = none) := Lib.hid (by rw [hl, List.drop_length]; rfl)
    subst hl
    have c_x0 := h.cell 0 _ rfl
    have c_x1 := h.cell 1 _ rfl
    have c_x2 := h.cell 2 _ rfl
    have c_x3 := h.cell 3 _ rfl
    have c_x4 := h.cell 4 _ rfl
    have c_x5 := h.cell 5 _ rfl
    have c_x6 := h.cell 6 _ rfl
    have c_x7 := h.cell 7 _ rfl
    have m_x0 := h.mark 0 _ rfl
    have m_x1 := h.mark 1 _ rfl
    have m_x2 := h.mark 2 _ rfl
    have m_x3 := h.mark 3 _ rfl
    have m_x4 := h.mark 4 _ rfl
    have m_x5 := h.mark 5 _ rfl
    have m_x6 := h.mark 6 _ rfl
    have m_x7 := h.mark 7 _ rfl
    have l_x := h.lt (Nat.succ_pos _)
    clear h hc hk hT
    go_enter Tryz.func48, Tryz.ntmps48
    go_wp2_with fail
    refine wp_region_G (.take 0 (.take 1 (.take 2 (.take 3 (.take 4 (.take 5 (.take 6 (.take 7 (.take 8 (.take 9 .nil)))))))))) (by kernel_rfl) (by kernel_rfl) ?_
    simp only [pickOps, nthOp]
    intro wq hG
    repeat (first | (refine wpG_skip_take ?_ ?_; (focus rfl); try simp only [Act.put, List.setIfInBounds_toArray, List.set_cons_zero, List.set_cons_succ]) | (refine wpG_skip_run ?_ ?_; (focus rfl); try simp only [Act.put, List.setIfInBounds_toArray, List.set_cons_zero, List.set_cons_succ]) | (refine wpG_take ?_ ?_; (focus rfl); apply Exists.intro; refine ⟨fun w' hw' => ?_, ?_⟩; (focus (have hc := Gr.cells hw'; go_simp; (try rfl); done)); try simp only [Act.put, List.setIfInBounds_toArray, List.set_cons_zero, List.set_cons_succ]))
    refine wpG_done ?_
    clear c_x0 c_x1 c_x2 c_x3 c_x4 c_x5 c_x6 c_x7 m_x0 m_x1 m_x2 m_x3 m_x4 m_x5 m_x6 m_x7 l_x
    have h1 := boxAt.later H0.out hG
    have c_x0 := h1.cell 0 _ rfl
    have c_x1 := h1.cell 1 _ rfl
    have c_x2 := h1.cell 2 _ rfl
    have c_x3 := h1.cell 3 _ rfl
    have c_x4 := h1.cell 4 _ rfl
    have c_x5 := h1.cell 5 _ rfl
    have c_x6 := h1.cell 6 _ rfl
    have c_x7 := h1.cell 7 _ rfl
    have m_x0 := h1.mark 0 _ rfl
    have m_x1 := h1.mark 1 _ rfl
    have m_x2 := h1.mark 2 _ rfl
    have m_x3 := h1.mark 3 _ rfl
    have m_x4 := h1.mark 4 _ rfl
    have m_x5 := h1.mark 5 _ rfl
    have m_x6 := h1.mark 6 _ rfl
    have m_x7 := h1.mark 7 _ rfl
    have l_x := h1.lt (Nat.succ_pos _)
    go_wp2_with fail
    go_at_call 26
    refine (refuse3_any p _ o _ false t none wq h1).mono ?_; rintro e w2 ⟨rfl, hK, hR⟩
    go_wp2
    go_ret
    exact CharEnd3.bad HX.out ((Kp.gr hG).trans hK) hR
  | some c =>
    have hlt : k < t.length := (List.getElem?_eq_some_iff.1 hc).1
    have hltI : ¬ (t.length : Int) ≤ (k : Int) := by omega
    have hltJ : (k : Int) < (t.length : Int) := by omega
    have hix := fun w' => run_at (P := Tryz.prog) w' 9 t k c .i64 Tryz.underlying9 hc
    have hc256 := c.toNat_lt
    have hd := drop_at t k c hc
    have HD := Lib.hid hd
    have HLT := Lib.hid hlt
    have c_x0 := h.cell 0 _ rfl
    have c_x1 := h.cell 1 _ rfl
    have c_x2 := h.cell 2 _ rfl
    have c_x3 := h.cell 3 _ rfl
    have c_x4 := h.cell 4 _ rfl
    have c_x5 := h.cell 5 _ rfl
    have c_x6 := h.cell 6 _ rfl
    have c_x7 := h.cell 7 _ rfl
    have m_x0 := h.mark 0 _ rfl
    have m_x1 := h.mark 1 _ rfl
    have m_x2 := h.mark 2 _ rfl
    have m_x3 := h.mark 3 _ rfl
    have m_x4 := h.mark 4 _ rfl
    have m_x5 := h.mark 5 _ rfl
    have m_x6 := h.mark 6 _ rfl
    have m_x7 := h.mark 7 _ rfl
    have l_x := h.lt (Nat.succ_pos _)
    clear h hc hk hT hd
    by_cases h92 : c.toNat = 92
    · have hc92 : c = 92 := (u8_eq c 92 (by omega)).2 h92
      have hCP : charP (t.drop k) = escP (t.drop (k + 1)) := by rw [HD.out, hc92, charP_cons, if_neg (by decide), if_pos rfl]
      have hesc := fun (W : World) => escape3_any t k W HT.out hlt
      rw [h92] at hix
      simp only [Int.cast_ofNat_Int] at hix
      cases hX : escP (t.drop (k + 1)) with
      | none =>
        have HX : Hid (charP (t.drop k) = none) := Lib.hid (by rw [hCP, hX])
        have hE : ∀ W, Calls Tryz.prog 65 #[.string (st t), .int .i64 (k : Int)] W fun e w' => e = .returned (.tuple #[.int .u8 0, .int .i64 0]) ∧ Gr W w' := fun W => by
          have := hesc W
          rw [hX] at this
          exact this.mono (by rintro e w' ⟨hg, rfl⟩; exact ⟨rfl, hg⟩)
        have HE := Lib.hid hE
        clear hesc hE hX hCP hc92 h92 hc256 hlt
        go_enter Tryz.func48, Tryz.ntmps48
        go_wp2_with fail
        refine wp_region_G (.take 0 (.take 1 (.take 2 (.take 3 (.take 4 (.take 5 (.take 6 (.take 7 (.take 8 (.take 9 .nil)))))))))) (by kernel_rfl) (by kernel_rfl) ?_
        simp only [pickOps, nthOp]
        intro wq hG
        repeat (first | (refine wpG_skip_take ?_ ?_; (focus rfl); try simp only [Act.put, List.setIfInBounds_toArray, List.set_cons_zero, List.set_cons_succ]) | (refine wpG_skip_run ?_ ?_; (focus rfl); try simp only [Act.put, List.setIfInBounds_toArray, List.set_cons_zero, List.set_cons_succ]) | (refine wpG_take ?_ ?_; (focus rfl); apply Exists.intro; refine ⟨fun w' hw' => ?_, ?_⟩; (focus (have hc := Gr.cells hw'; go_simp; (try rfl); done)); try simp only [Act.put, List.setIfInBounds_toArray, List.set_cons_zero, List.set_cons_succ]))
        refine wpG_done ?_
        go_wp2_with fail
        refine wp_region_B hG (.take 0 (.take 1 (.take 2 (.take 3 (.take 4 (.take 5 (.take 6 (.take 7 (.take 8 (.run 9 true .nil)))))))))) (by kernel_rfl) (by kernel_rfl) ?_
        simp only [pickOps, nthOp]
        clear hG; intro wq hG
        repeat (first | (refine wpG_skip_take ?_ ?_; (focus rfl); try simp only [Act.put, List.setIfInBounds_toArray, List.set_cons_zero, List.set_cons_succ]) | (refine wpG_skip_run ?_ ?_; (focus rfl); try simp only [Act.put, List.setIfInBounds_toArray, List.set_cons_zero, List.set_cons_succ]) | (refine wpG_take ?_ ?_; (focus rfl); apply Exists.intro; refine ⟨fun w' hw' => ?_, ?_⟩; (focus (have hc := Gr.cells hw'; go_simp; (try rfl); done)); try simp only [Act.put, List.setIfInBounds_toArray, List.set_cons_zero, List.set_cons_succ]))
        refine wpG_last ?_ (fun K hK => ?_); (focus rfl)
        have hc := hG.cells
        have hm := hG.marks
        go_simp
        refine hK.out _ _ ?_
        try simp only [Act.put, List.setIfInBounds_toArray, List.set_cons_zero, List.set_cons_succ]
        clear hK K hc hm
        refine wpG_done ?_
        go_wp2_with fail
        refine wp_region_B hG (.take 0 (.take 1 (.take 2 (.take 3 (.take 4 (.take 5 (.take 6 (.take 7 (.run 8 false (.take 9 (.take 10 (.take 11 (.run 12 false (.run 13 true .nil)))))))))))))) (by kernel_rfl) (by kernel_rfl) ?_
        simp only [pickOps, nthOp]
        clear hG; intro wq hG
        repeat (first | (refine wpG_skip_take ?_ ?_; (focus rfl); try simp only [Act.put, List.setIfInBounds_toArray, List.set_cons_zero, List.set_cons_succ]) | (refine wpG_skip_run ?_ ?_; (focus rfl); try simp only [Act.put, List.setIfInBounds_toArray, List.set_cons_zero, List.set_cons_succ]) | (refine wpG_take ?_ ?_; (focus rfl); apply Exists.intro; refine ⟨fun w' hw' => ?_, ?_⟩; (focus (have hc := Gr.cells hw'; go_simp; (try rfl); done)); try simp only [Act.put, List.setIfInBounds_toArray, List.set_cons_zero, List.set_cons_succ]) | (refine wpG_run ?_ (fun K hK => ?_); (focus rfl); go_simp; (first | (go_at_call 65; (with_reducible refine (HE.out _).mono ?_); rintro e wq ⟨rfl, hb⟩) | (have hb := Gr.refl wq)); (try dsimp only); replace hG := hG.trans hb; refine hK.out _ _ hG ?_; clear hK K hb; try simp only [Act.put, List.setIfInBounds_toArray, List.set_cons_zero, List.set_cons_succ]))
        refine wpG_last ?_ (fun K hK => ?_); (focus rfl)
        have hc := hG.cells
        have hm := hG.marks
        go_simp
        refine hK.out _ _ ?_
        try simp only [Act.put, List.setIfInBounds_toArray, List.set_cons_zero, List.set_cons_succ]
        clear hK K hc hm
        refine wpG_done ?_
        clear c_x0 c_x1 c_x2 c_x3 c_x4 c_x5 c_x6 c_x7 m_x0 m_x1 m_x2 m_x3 m_x4 m_x5 m_x6 m_x7 l_x
        have h1 := boxAt.later H0.out hG
        have c_x0 := h1.cell 0 _ rfl
        have c_x1 := h1.cell 1 _ rfl
        have c_x2 := h1.cell 2 _ rfl
        have c_x3 := h1.cell 3 _ rfl
        have c_x4 := h1.cell 4 _ rfl
        have c_x5 := h1.cell 5 _ rfl
        have c_x6 := h1.cell 6 _ rfl
        have c_x7 := h1.cell 7 _ rfl
        have m_x0 := h1.mark 0 _ rfl
        have m_x1 := h1.mark 1 _ rfl
        have m_x2 := h1.mark 2 _ rfl
        have m_x3 := h1.mark 3 _ rfl
        have m_x4 := h1.mark 4 _ rfl
        have m_x5 := h1.mark 5 _ rfl
        have m_x6 := h1.mark 6 _ rfl
        have m_x7 := h1.mark 7 _ rfl
        have l_x := h1.lt (Nat.succ_pos _)
        go_wp2_with fail
        go_at_call 26
        refine (refuse3_any p k o k false t none wq h1).mono ?_; rintro e w2 ⟨rfl, hK, hR⟩
        clear c_x0 c_x1 c_x2 c_x3 c_x4 c_x5 c_x6 c_x7 m_x0 m_x1 m_x2 m_x3 m_x4 m_x5 m_x6 m_x7 l_x
        have h2 : boxAt w2 p _ := hR
        have c_x0 := h2.cell 0 _ rfl
        have c_x1 := h2.cell 1 _ rfl
        have c_x2 := h2.cell 2 _ rfl
        have c_x3 := h2.cell 3 _ rfl
        have c_x4 := h2.cell 4 _ rfl
        have c_x5 := h2.cell 5 _ rfl
        have c_x6 := h2.cell 6 _ rfl
        have c_x7 := h2.cell 7 _ rfl
        have m_x0 := h2.mark 0 _ rfl
        have m_x1 := h2.mark 1 _ rfl
        have m_x2 := h2.mark 2 _ rfl
        have m_x3 := h2.mark 3 _ rfl
        have m_x4 := h2.mark 4 _ rfl
        have m_x5 := h2.mark 5 _ rfl
        have m_x6 := h2.mark 6 _ rfl
        have m_x7 := h2.mark 7 _ rfl
        have l_x := h2.lt (Nat.succ_pos _)
        go_wp2_with fail
        go_ret
        exact CharEnd3.bad HX.out (((Kp.gr hG).trans hK).at_p 1 _) (h2.put 1 _ (by simp))
      | some vr =>
        obtain ⟨v, r⟩ := vr
        obtain ⟨m, hm1, hm2, hr⟩ := escP_len hX
        rw [List.length_drop] at hm2
        rw [List.drop_drop] at hr
        have hn : t.length - k - r.length = m + 1 := by rw [hr, List.length_drop]; omega
        have HX : Hid (charP (t.drop k) = some (v, t.drop (k + (m + 1)))) := Lib.hid (by rw [hCP, hX, hr, show k + 1 + m = k + (m + 1) by omega])
        have hE : ∀ W, Calls Tryz.prog 65 #[.string (st t), .int .i64 (k : Int)] W fun e w' => e = .returned (.tuple #[.int .u8 (v.toNat : Int), .int .i64 ((m + 1 : Nat) : Int)]) ∧ Gr W w' := fun W => by
          have := hesc W
          rw [hX] at this
          exact this.mono (by rintro e w' ⟨hg, rfl⟩; rw [hn]; exact ⟨rfl, hg⟩)
        obtain ⟨n, hnn⟩ : ∃ n, m + 1 = n := ⟨_, rfl⟩
        rw [hnn] at hE HX
        have e0 : ((n : Int) == 0) = false := by rw [beq_eq_false_iff_ne]; omega
        have hwn : IntKind.i64.wrap ((k : Int) + (n : Int)) = ((k + n : Nat) : Int) := by rw [IntWalk.i64_in _ (by have := HT.out; omega)]; omega
        obtain ⟨k1, hk1⟩ : ∃ x, k + n = x := ⟨_, rfl⟩
        rw [hk1] at hwn HX
        have HK1 := Lib.hid (show k1 ≤ t.length from by omega)
        have HE := Lib.hid hE
        clear hesc hE hX hCP hc92 h92 hc256 hlt hm1 hm2 hr hn hnn hk1
        go_enter Tryz.func48, Tryz.ntmps48
        go_wp2_with fail
        refine wp_region_G (.take 0 (.take 1 (.take 2 (.take 3 (.take 4 (.take 5 (.take 6 (.take 7 (.take 8 (.take 9 .nil)))))))))) (by kernel_rfl) (by kernel_rfl) ?_
        simp only [pickOps, nthOp]
        intro wq hG
        repeat (first | (refine wpG_skip_take ?_ ?_; (focus rfl); try simp only [Act.put, List.setIfInBounds_toArray, List.set_cons_zero, List.set_cons_succ]) | (refine wpG_skip_run ?_ ?_; (focus rfl); try simp only [Act.put, List.setIfInBounds_toArray, List.set_cons_zero, List.set_cons_succ]) | (refine wpG_take ?_ ?_; (focus rfl); apply Exists.intro; refine ⟨fun w' hw' => ?_, ?_⟩; (focus (have hc := Gr.cells hw'; go_simp; (try rfl); done)); try simp only [Act.put, List.setIfInBounds_toArray, List.set_cons_zero, List.set_cons_succ]))
        refine wpG_done ?_
        go_wp2_with fail
        refine wp_region_B hG (.take 0 (.take 1 (.take 2 (.take 3 (.take 4 (.take 5 (.take 6 (.take 7 (.take 8 (.run 9 true .nil)))))))))) (by kernel_rfl) (by kernel_rfl) ?_
        simp only [pickOps, nthOp]
        clear hG; intro wq hG
        repeat (first | (refine wpG_skip_take ?_ ?_; (focus rfl); try simp only [Act.put, List.setIfInBounds_toArray, List.set_cons_zero, List.set_cons_succ]) | (refine wpG_skip_run ?_ ?_; (focus rfl); try simp only [Act.put, List.setIfInBounds_toArray, List.set_cons_zero, List.set_cons_succ]) | (refine wpG_take ?_ ?_; (focus rfl); apply Exists.intro; refine ⟨fun w' hw' => ?_, ?_⟩; (focus (have hc := Gr.cells hw'; go_simp; (try rfl); done)); try simp only [Act.put, List.setIfInBounds_toArray, List.set_cons_zero, List.set_cons_succ]))
        refine wpG_last ?_ (fun K hK => ?_); (focus rfl)
        have hc := hG.cells
        have hm := hG.marks
        go_simp
        refine hK.out _ _ ?_
        try simp only [Act.put, List.setIfInBounds_toArray, List.set_cons_zero, List.set_cons_succ]
        clear hK K hc hm
        refine wpG_done ?_
        go_wp2_with fail
        refine wp_region_B hG (.take 0 (.take 1 (.take 2 (.take 3 (.take 4 (.take 5 (.take 6 (.take 7 (.run 8 false (.take 9 (.take 10 (.take 11 (.run 12 false (.run 13 true .nil)))))))))))))) (by kernel_rfl) (by kernel_rfl) ?_
        simp only [pickOps, nthOp]
        clear hG; intro wq hG
        repeat (first | (refine wpG_skip_take ?_ ?_; (focus rfl); try simp only [Act.put, List.setIfInBounds_toArray, List.set_cons_zero, List.set_cons_succ]) | (refine wpG_skip_run ?_ ?_; (focus rfl); try simp only [Act.put, List.setIfInBounds_toArray, List.set_cons_zero, List.set_cons_succ]) | (refine wpG_take ?_ ?_; (focus rfl); apply Exists.intro; refine ⟨fun w' hw' => ?_, ?_⟩; (focus (have hc := Gr.cells hw'; go_simp; (try rfl); done)); try simp only [Act.put, List.setIfInBounds_toArray, List.set_cons_zero, List.set_cons_succ]) | (refine wpG_run ?_ (fun K hK => ?_); (focus rfl); go_simp; (first | (go_at_call 65; (with_reducible refine (HE.out _).mono ?_); rintro e wq ⟨rfl, hb⟩) | (have hb := Gr.refl wq)); (try dsimp only); replace hG := hG.trans hb; refine hK.out _ _ hG ?_; clear hK K hb; try simp only [Act.put, List.setIfInBounds_toArray, List.set_cons_zero, List.set_cons_succ]))
        refine wpG_last ?_ (fun K hK => ?_); (focus rfl)
        have hc := hG.cells
        have hm := hG.marks
        go_simp
        refine hK.out _ _ ?_
        try simp only [Act.put, List.setIfInBounds_toArray, List.set_cons_zero, List.set_cons_succ]
        clear hK K hc hm
        refine wpG_done ?_
        clear c_x0 c_x1 c_x2 c_x3 c_x4 c_x5 c_x6 c_x7 m_x0 m_x1 m_x2 m_x3 m_x4 m_x5 m_x6 m_x7 l_x
        have h1 := boxAt.later H0.out hG
        have c_x0 := h1.cell 0 _ rfl
        have c_x1 := h1.cell 1 _ rfl
        have c_x2 := h1.cell 2 _ rfl
        have c_x3 := h1.cell 3 _ rfl
        have c_x4 := h1.cell 4 _ rfl
        have c_x5 := h1.cell 5 _ rfl
        have c_x6 := h1.cell 6 _ rfl
        have c_x7 := h1.cell 7 _ rfl
        have m_x0 := h1.mark 0 _ rfl
        have m_x1 := h1.mark 1 _ rfl
        have m_x2 := h1.mark 2 _ rfl
        have m_x3 := h1.mark 3 _ rfl
        have m_x4 := h1.mark 4 _ rfl
        have m_x5 := h1.mark 5 _ rfl
        have m_x6 := h1.mark 6 _ rfl
        have m_x7 := h1.mark 7 _ rfl
        have l_x := h1.lt (Nat.succ_pos _)
        go_wp2_with fail
        go_ret
        exact CharEnd3.ok HX.out HK1.out ((Kp.gr hG).at_p 1 _) (h1.put 1 _ (by simp))
    · by_cases hbad : c.toNat = 91 ∨ c.toNat = 93 ∨ c.toNat = 45 ∨ c.toNat = 10
      · have HX : Hid (charP (t.drop k) = none) := Lib.hid (by
          rw [HD.out, charP_cons, if_pos]
          rcases hbad with h | h | h | h
          · exact .inl ((u8_eq c 91 (by omega)).2 h)
          · exact .inr (.inl ((u8_eq c 93 (by omega)).2 h))
          · exact .inr (.inr (.inl ((u8_eq c 45 (by omega)).2 h)))
          · exact .inr (.inr (.inr ((u8_eq c 10 (by omega)).2 h))))
        rcases hbad with h | h | h | h
        all_goals
          rw [h] at hix
          simp only [Int.cast_ofNat_Int] at hix
          clear h h92 hc256 hlt
          go_enter Tryz.func48, Tryz.ntmps48
          go_wp2_with fail
          refine wp_region_G (.take 0 (.take 1 (.take 2 (.take 3 (.take 4 (.take 5 (.take 6 (.take 7 (.take 8 (.take 9 .nil)))))))))) (by kernel_rfl) (by kernel_rfl) ?_
          simp only [pickOps, nthOp]
          intro wq hG
          repeat (first | (refine wpG_skip_take ?_ ?_; (focus rfl); try simp only [Act.put, List.setIfInBounds_toArray, List.set_cons_zero, List.set_cons_succ]) | (refine wpG_skip_run ?_ ?_; (focus rfl); try simp only [Act.put, List.setIfInBounds_toArray, List.set_cons_zero, List.set_cons_succ]) | (refine wpG_take ?_ ?_; (focus rfl); apply Exists.intro; refine ⟨fun w' hw' => ?_, ?_⟩; (focus (have hc := Gr.cells hw'; go_simp; (try rfl); done)); try simp only [Act.put, List.setIfInBounds_toArray, List.set_cons_zero, List.set_cons_succ]))
          refine wpG_done ?_
          go_wp2_with fail
          refine wp_region_B hG (.take 0 (.take 1 (.take 2 (.take 3 (.take 4 (.take 5 (.take 6 (.take 7 (.take 8 (.run 9 true .nil)))))))))) (by kernel_rfl) (by kernel_rfl) ?_
          simp only [pickOps, nthOp]
          clear hG; intro wq hG
          repeat (first | (refine wpG_skip_take ?_ ?_; (focus rfl); try simp only [Act.put, List.setIfInBounds_toArray, List.set_cons_zero, List.set_cons_succ]) | (refine wpG_skip_run ?_ ?_; (focus rfl); try simp only [Act.put, List.setIfInBounds_toArray, List.set_cons_zero, List.set_cons_succ]) | (refine wpG_take ?_ ?_; (focus rfl); apply Exists.intro; refine ⟨fun w' hw' => ?_, ?_⟩; (focus (have hc := Gr.cells hw'; go_simp; (try rfl); done)); try simp only [Act.put, List.setIfInBounds_toArray, List.set_cons_zero, List.set_cons_succ]))
          refine wpG_last ?_ (fun K hK => ?_); (focus rfl)
          have hc := hG.cells
          have hm := hG.marks
          go_simp
          refine hK.out _ _ ?_
          try simp only [Act.put, List.setIfInBounds_toArray, List.set_cons_zero, List.set_cons_succ]
          clear hK K hc hm
          refine wpG_done ?_
          clear c_x0 c_x1 c_x2 c_x3 c_x4 c_x5 c_x6 c_x7 m_x0 m_x1 m_x2 m_x3 m_x4 m_x5 m_x6 m_x7 l_x
          have h1 := boxAt.later H0.out hG
          have c_x0 := h1.cell 0 _ rfl
          have c_x1 := h1.cell 1 _ rfl
          have c_x2 := h1.cell 2 _ rfl
          have c_x3 := h1.cell 3 _ rfl
          have c_x4 := h1.cell 4 _ rfl
          have c_x5 := h1.cell 5 _ rfl
          have c_x6 := h1.cell 6 _ rfl
          have c_x7 := h1.cell 7 _ rfl
          have m_x0 := h1.mark 0 _ rfl
          have m_x1 := h1.mark 1 _ rfl
          have m_x2 := h1.mark 2 _ rfl
          have m_x3 := h1.mark 3 _ rfl
          have m_x4 := h1.mark 4 _ rfl
          have m_x5 := h1.mark 5 _ rfl
          have m_x6 := h1.mark 6 _ rfl
          have m_x7 := h1.mark 7 _ rfl
          have l_x := h1.lt (Nat.succ_pos _)
          go_wp2_with fail
          go_at_call 26
          refine (refuse3_any p k o k false t none wq h1).mono ?_; rintro e w2 ⟨rfl, hK, hR⟩
          go_wp2
          go_ret
          exact CharEnd3.bad HX.out ((Kp.gr hG).trans hK) hR
      · have e92 : ((c.toNat : Int) == 92) = false := by rw [beq_eq_false_iff_ne]; omega
        have e91 : ((c.toNat : Int) == 91) = false := by rw [beq_eq_false_iff_ne]; omega
        have e93 : ((c.toNat : Int) == 93) = false := by rw [beq_eq_false_iff_ne]; omega
        have e45 : ((c.toNat : Int) == 45) = false := by rw [beq_eq_false_iff_ne]; omega
        have e10 : ((c.toNat : Int) == 10) = false := by rw [beq_eq_false_iff_ne]; omega
        have HX : Hid (charP (t.drop k) = some (c, t.drop (k + 1))) := Lib.hid (by
          rw [HD.out, charP_cons, if_neg, if_neg]
          · intro h; exact h92 (by rw [h]; rfl)
          · intro h
            apply hbad
            rcases h with h | h | h | h
            · exact .inl (by rw [h]; rfl)
            · exact .inr (.inl (by rw [h]; rfl))
            · exact .inr (.inr (.inl (by rw [h]; rfl)))
            · exact .inr (.inr (.inr (by rw [h]; rfl))))
        obtain ⟨k1, hk1⟩ : ∃ x, k + 1 = x := ⟨_, rfl⟩
        rw [hk1] at HX hw1
        have HK1 := Lib.hid hk1
        clear h92 hbad hc256 hlt hk1
        go_enter Tryz.func48, Tryz.ntmps48
        go_wp2_with fail
        refine wp_region_G (.take 0 (.take 1 (.take 2 (.take 3 (.take 4 (.take 5 (.take 6 (.take 7 (.take 8 (.take 9 .nil)))))))))) (by kernel_rfl) (by kernel_rfl) ?_
        simp only [pickOps, nthOp]
        intro wq hG
        repeat (first | (refine wpG_skip_take ?_ ?_; (focus rfl); try simp only [Act.put, List.setIfInBounds_toArray, List.set_cons_zero, List.set_cons_succ]) | (refine wpG_skip_run ?_ ?_; (focus rfl); try simp only [Act.put, List.setIfInBounds_toArray, List.set_cons_zero, List.set_cons_succ]) | (refine wpG_take ?_ ?_; (focus rfl); apply Exists.intro; refine ⟨fun w' hw' => ?_, ?_⟩; (focus (have hc := Gr.cells hw'; go_simp; (try rfl); done)); try simp only [Act.put, List.setIfInBounds_toArray, List.set_cons_zero, List.set_cons_succ]))
        refine wpG_done ?_
        go_wp2_with fail
        refine wp_region_B hG (.take 0 (.take 1 (.take 2 (.take 3 (.take 4 (.take 5 (.take 6 (.take 7 (.take 8 (.run 9 true .nil)))))))))) (by kernel_rfl) (by kernel_rfl) ?_
        simp only [pickOps, nthOp]
        clear hG; intro wq hG
        repeat (first | (refine wpG_skip_take ?_ ?_; (focus rfl); try simp only [Act.put, List.setIfInBounds_toArray, List.set_cons_zero, List.set_cons_succ]) | (refine wpG_skip_run ?_ ?_; (focus rfl); try simp only [Act.put, List.setIfInBounds_toArray, List.set_cons_zero, List.set_cons_succ]) | (refine wpG_take ?_ ?_; (focus rfl); apply Exists.intro; refine ⟨fun w' hw' => ?_, ?_⟩; (focus (have hc := Gr.cells hw'; go_simp; (try rfl); done)); try simp only [Act.put, List.setIfInBounds_toArray, List.set_cons_zero, List.set_cons_succ]))
        refine wpG_last ?_ (fun K hK => ?_); (focus rfl)
        have hc := hG.cells
        have hm := hG.marks
        go_simp
        refine hK.out _ _ ?_
        try simp only [Act.put, List.setIfInBounds_toArray, List.set_cons_zero, List.set_cons_succ]
        clear hK K hc hm
        refine wpG_done ?_
        clear c_x0 c_x1 c_x2 c_x3 c_x4 c_x5 c_x6 c_x7 m_x0 m_x1 m_x2 m_x3 m_x4 m_x5 m_x6 m_x7 l_x
        have h1 := boxAt.later H0.out hG
        have c_x0 := h1.cell 0 _ rfl
        have c_x1 := h1.cell 1 _ rfl
        have c_x2 := h1.cell 2 _ rfl
        have c_x3 := h1.cell 3 _ rfl
        have c_x4 := h1.cell 4 _ rfl
        have c_x5 := h1.cell 5 _ rfl
        have c_x6 := h1.cell 6 _ rfl
        have c_x7 := h1.cell 7 _ rfl
        have m_x0 := h1.mark 0 _ rfl
        have m_x1 := h1.mark 1 _ rfl
        have m_x2 := h1.mark 2 _ rfl
        have m_x3 := h1.mark 3 _ rfl
        have m_x4 := h1.mark 4 _ rfl
        have m_x5 := h1.mark 5 _ rfl
        have m_x6 := h1.mark 6 _ rfl
        have m_x7 := h1.mark 7 _ rfl
        have l_x := h1.lt (Nat.succ_pos _)
        go_wp2_with fail
        go_ret
        exact CharEnd3.ok HX.out (by have := HK1.out; have := HLT.out; omega) ((Kp.gr hG).at_p 1 _) (h1.put 1 _ (by simp))

end Go.Proofs.YtihjmeoklbmnmaaGreatDoor

/- bolterref3: Named. No condition. Printed by gen_r3named.py. -/
namespace Go.Proofs.YtihjmeoklbmnmaaGreatDoor
open Go Go.RowKit

theorem rngI (lo hi : Nat) (a b : Int) (w : World) (ha : a = (lo : Int)) (hb : b = (hi : Int)) (hlo : lo < 256) (hhi : hi < 256) :
    Calls Tryz.prog 49 #[.int .i64 a, .int .i64 b] w fun e w' => e = .returned (.agg #[.int .u64 (wd ((rangeSet lo hi)) 0), .int .u64 (wd ((rangeSet lo hi)) 1), .int .u64 (wd ((rangeSet lo hi)) 2), .int .u64 (wd ((rangeSet lo hi)) 3)]) ∧ Gr w w' := by
  subst ha hb; exact r1range lo hi w hlo hhi
theorem withI (s t : BitVec 256) (k : Nat) (a : Int) (w : World) (ha : a = (k : Int)) (hk : k < 256) (ht : s ||| bit k = t) :
    Calls Tryz.prog 46 #[.agg #[.int .u64 (wd s 0), .int .u64 (wd s 1), .int .u64 (wd s 2), .int .u64 (wd s 3)], .int .i64 a] w fun e w' => e = .returned (.agg #[.int .u64 (wd t 0), .int .u64 (wd t 1), .int .u64 (wd t 2), .int .u64 (wd t 3)]) ∧ Gr w w' := by
  subst ha ht; exact r1with s k w hk
theorem unionI (s t u : BitVec 256) (w : World) (hu : s ||| t = u) :
    Calls Tryz.prog 27 #[.agg #[.int .u64 (wd s 0), .int .u64 (wd s 1), .int .u64 (wd s 2), .int .u64 (wd s 3)], .agg #[.int .u64 (wd t 0), .int .u64 (wd t 1), .int .u64 (wd t 2), .int .u64 (wd t 3)]] w fun e w' => e = .returned (.agg #[.int .u64 (wd u 0), .int .u64 (wd u 1), .int .u64 (wd u 2), .int .u64 (wd u 3)]) ∧ Gr w w' := by
  subst hu; exact r1union s t w
theorem minusI (s t u : BitVec 256) (w : World) (hu : s &&& ~~~t = u) :
    Calls Tryz.prog 30 #[.agg #[.int .u64 (wd s 0), .int .u64 (wd s 1), .int .u64 (wd s 2), .int .u64 (wd s 3)], .agg #[.int .u64 (wd t 0), .int .u64 (wd t 1), .int .u64 (wd t 2), .int .u64 (wd t 3)]] w fun e w' => e = .returned (.agg #[.int .u64 (wd u 0), .int .u64 (wd u 1), .int .u64 (wd u 2), .int .u64 (wd u 3)]) ∧ Gr w w' := by
  subst hu; exact r1minus s t w
theorem alnum_is : (lowerS ||| upperS) ||| digitS = alnumS := by unfold alnumS; rw [BitVec.or_comm]
theorem word_is : alnumS ||| bit 95 = alnumS ||| ofList [95] := by decide +kernel
theorem xdigit_is : digitS ||| (rangeSet 97 102 ||| rangeSet 65 70) = ofSpans [(48, 57), (97, 102), (65, 70)] := by decide +kernel
theorem space_is : rangeSet 9 13 ||| bit 32 = rangeSet 9 13 ||| ofList [32] := by decide +kernel
theorem cntrl_is : rangeSet 0 31 ||| bit 127 = rangeSet 0 31 ||| ofList [127] := by decide +kernel
/-- What Named answers. -/
def Named3 (w : World) (b : List UInt8) (e : Ending) (w' : World) : Prop :=
  Gr w w' ∧ match namedS b with
    | some s => e = .returned (.tuple #[.agg #[.int .u64 (wd s 0), .int .u64 (wd s 1), .int .u64 (wd s 2), .int .u64 (wd s 3)], .bool true])
    | none => e = .returned (.tuple #[.agg #[.int .u64 (wd emptyS 0), .int .u64 (wd emptyS 1), .int .u64 (wd emptyS 2), .int .u64 (wd emptyS 3)], .bool false])
theorem Sl.lit2 (a b : UInt8) (w W : World) (hW : W = w.alloc (.cells #[.int .u8 (a.toNat : Int), .int .u8 (b.toNat : Int)] 5)) : Sl W (.slice (some ⟨w.heap.size, 0, none⟩) 2 2) 1 ([a, b] : List UInt8).length (([a, b] : List UInt8).map vB) :=
  ⟨rfl, by unfold maxLen; simp, .inr ⟨_, _, _, rfl, fun _ => by subst hW; simp, fun j u hj => by
    have := (boxAt.new (w := w) (W := W) [vB a, vB b] 5 hW).cell j u hj
    rw [Nat.zero_add]; exact this⟩⟩
theorem name_endN {P : Program} {f : Func} {R : Ending → World → Prop} {x : Exit} {a : Act} {w0 : World} (h : ∀ W, W = w0 → bodyPost P f R x a W) : bodyPost P f R x a w0 := h _ rfl

set_option maxRecDepth 100000 in
set_option maxHeartbeats 8000000 in
theorem named3_any (b : List UInt8) (w : World) : Calls Tryz.prog 47 #[.string (st b)] w (Named3 w b) := by
  have hst := st_list b
  go_enter Tryz.func47, Tryz.ntmps47
  go_wp2_with fail
  go_at_call 49
  refine name_calls (fun W0 hW => ?_)
  have x2 : boxAt W0 w.heap.size [.int .u64 0, .int .u64 0, .int .u64 0, .int .u64 0] := boxAt.new _ _ hW
  have hg : Gr w W0 := Gr.of_alloc hW
  clear hW
  refine (rngI 97 122 97 122 W0 rfl rfl (by decide) (by decide)).mono ?_; rintro e w1 ⟨rfl, hb⟩
  rw [show rangeSet 97 122 = lowerS from rfl]
  replace x2 := x2.later hb
  replace hg := hg.trans hb
  clear hb
  go_wp2_with fail
  go_at_call 49
  refine name_calls (fun W1 hW => ?_)
  have x4 : boxAt W1 w1.heap.size [.int .u64 (wd lowerS 0), .int .u64 (wd lowerS 1), .int .u64 (wd lowerS 2), .int .u64 (wd lowerS 3)] := boxAt.new _ _ hW
  have hb := Gr.of_alloc hW
  replace x2 := x2.later hb
  replace hg := hg.trans hb
  clear hW hb
  refine (rngI 65 90 65 90 W1 rfl rfl (by decide) (by decide)).mono ?_; rintro e w2 ⟨rfl, hb⟩
  rw [show rangeSet 65 90 = upperS from rfl]
  replace x2 := x2.later hb
  replace x4 := x4.later hb
  replace hg := hg.trans hb
  clear hb
  go_wp2_with fail
  go_at_call 49
  refine name_calls (fun W2 hW => ?_)
  have x5 : boxAt W2 w2.heap.size [.int .u64 (wd upperS 0), .int .u64 (wd upperS 1), .int .u64 (wd upperS 2), .int .u64 (wd upperS 3)] := boxAt.new _ _ hW
  have hb := Gr.of_alloc hW
  replace x2 := x2.later hb
  replace x4 := x4.later hb
  replace hg := hg.trans hb
  clear hW hb
  refine (rngI 48 57 48 57 W2 rfl rfl (by decide) (by decide)).mono ?_; rintro e w3 ⟨rfl, hb⟩
  rw [show rangeSet 48 57 = digitS from rfl]
  replace x2 := x2.later hb
  replace x4 := x4.later hb
  replace x5 := x5.later hb
  replace hg := hg.trans hb
  clear hb
  have c_d0 := x4.cell 0 _ rfl
  have c_d1 := x4.cell 1 _ rfl
  have c_d2 := x4.cell 2 _ rfl
  have c_d3 := x4.cell 3 _ rfl
  have m_d0 := x4.mark 0 _ rfl
  have m_d1 := x4.mark 1 _ rfl
  have m_d2 := x4.mark 2 _ rfl
  have m_d3 := x4.mark 3 _ rfl
  have l_d := x4.lt (Nat.succ_pos _)
  have c_u0 := x5.cell 0 _ rfl
  have c_u1 := x5.cell 1 _ rfl
  have c_u2 := x5.cell 2 _ rfl
  have c_u3 := x5.cell 3 _ rfl
  have m_u0 := x5.mark 0 _ rfl
  have m_u1 := x5.mark 1 _ rfl
  have m_u2 := x5.mark 2 _ rfl
  have m_u3 := x5.mark 3 _ rfl
  have l_u := x5.lt (Nat.succ_pos _)
  go_wp2_with fail
  go_at_call 27
  refine name_calls (fun W3 hW => ?_)
  have HNE : Hid (w.heap.size ≠ w3.heap.size) := Lib.hid (by have := x2.lt (Nat.succ_pos _); omega)
  have x6 : boxAt W3 w3.heap.size [.int .u64 (wd digitS 0), .int .u64 (wd digitS 1), .int .u64 (wd digitS 2), .int .u64 (wd digitS 3)] := boxAt.new _ _ hW
  have hb := Gr.of_alloc hW
  clear c_d0 c_d1 c_d2 c_d3 m_d0 m_d1 m_d2 m_d3 l_d
  clear c_u0 c_u1 c_u2 c_u3 m_u0 m_u1 m_u2 m_u3 l_u
  replace x2 := x2.later hb
  replace x4 := x4.later hb
  replace x5 := x5.later hb
  replace hg := hg.trans hb
  clear hW hb
  refine (r1union lowerS upperS W3).mono ?_; rintro e w4 ⟨rfl, hb⟩
  replace x2 := x2.later hb
  replace x4 := x4.later hb
  replace x5 := x5.later hb
  replace x6 := x6.later hb
  replace hg := hg.trans hb
  clear hb
  obtain ⟨al, hal⟩ : ∃ al, lowerS ||| upperS = al := ⟨_, rfl⟩
  rw [hal]
  have c_d0 := x6.cell 0 _ rfl
  have c_d1 := x6.cell 1 _ rfl
  have c_d2 := x6.cell 2 _ rfl
  have c_d3 := x6.cell 3 _ rfl
  have m_d0 := x6.mark 0 _ rfl
  have m_d1 := x6.mark 1 _ rfl
  have m_d2 := x6.mark 2 _ rfl
  have m_d3 := x6.mark 3 _ rfl
  have l_d := x6.lt (Nat.succ_pos _)
  go_wp2_with fail
  go_at_call 27
  refine name_calls (fun W4 hW => ?_)
  have x7 : boxAt W4 w4.heap.size [.int .u64 (wd al 0), .int .u64 (wd al 1), .int .u64 (wd al 2), .int .u64 (wd al 3)] := boxAt.new _ _ hW
  have hb := Gr.of_alloc hW
  clear c_d0 c_d1 c_d2 c_d3 m_d0 m_d1 m_d2 m_d3 l_d
  replace x2 := x2.later hb
  replace x4 := x4.later hb
  replace x5 := x5.later hb
  replace x6 := x6.later hb
  replace hg := hg.trans hb
  clear hW hb
  refine (unionI al digitS alnumS W4 (by rw [← hal]; exact alnum_is)).mono ?_; rintro e w6 ⟨rfl, hb⟩
  replace x2 := x2.later hb
  replace x4 := x4.later hb
  replace x5 := x5.later hb
  replace x6 := x6.later hb
  replace x7 := x7.later hb
  replace hg := hg.trans hb
  clear hb
  subst hal
  have hne6 : w.heap.size ≠ w3.heap.size := HNE.out
  have key : b = [100, 105, 103, 105, 116] ∨ b = [108, 111, 119, 101, 114] ∨ b = [117, 112, 112, 101, 114] ∨ b = [97, 108, 112, 104, 97] ∨ b = [97, 108, 110, 117, 109] ∨ b = [119, 111, 114, 100] ∨ b = [120, 100, 105, 103, 105, 116] ∨ b = [98, 108, 97, 110, 107] ∨ b = [115, 112, 97, 99, 101] ∨ b = [112, 117, 110, 99, 116] ∨ b = [112, 114, 105, 110, 116] ∨ b = [99, 110, 116, 114, 108] ∨ b = [97, 110, 121] ∨ (¬ b = [100, 105, 103, 105, 116] ∧ ¬ b = [108, 111, 119, 101, 114] ∧ ¬ b = [117, 112, 112, 101, 114] ∧ ¬ b = [97, 108, 112, 104, 97] ∧ ¬ b = [97, 108, 110, 117, 109] ∧ ¬ b = [119, 111, 114, 100] ∧ ¬ b = [120, 100, 105, 103, 105, 116] ∧ ¬ b = [98, 108, 97, 110, 107] ∧ ¬ b = [115, 112, 97, 99, 101] ∧ ¬ b = [112, 117, 110, 99, 116] ∧ ¬ b = [112, 114, 105, 110, 116] ∧ ¬ b = [99, 110, 116, 114, 108] ∧ ¬ b = [97, 110, 121]) := by
    by_cases h0 : b = [100, 105, 103, 105, 116]
    · simp [h0]
    by_cases h1 : b = [108, 111, 119, 101, 114]
    · simp [h1]
    by_cases h2 : b = [117, 112, 112, 101, 114]
    · simp [h2]
    by_cases h3 : b = [97, 108, 112, 104, 97]
    · simp [h3]
    by_cases h4 : b = [97, 108, 110, 117, 109]
    · simp [h4]
    by_cases h5 : b = [119, 111, 114, 100]
    · simp [h5]
    by_cases h6 : b = [120, 100, 105, 103, 105, 116]
    · simp [h6]
    by_cases h7 : b = [98, 108, 97, 110, 107]
    · simp [h7]
    by_cases h8 : b = [115, 112, 97, 99, 101]
    · simp [h8]
    by_cases h9 : b = [112, 117, 110, 99, 116]
    · simp [h9]
    by_cases h10 : b = [112, 114, 105, 110, 116]
    · simp [h10]
    by_cases h11 : b = [99, 110, 116, 114, 108]
    · simp [h11]
    by_cases h12 : b = [97, 110, 121]
    · simp [h12]
    · exact .inr (.inr (.inr (.inr (.inr (.inr (.inr (.inr (.inr (.inr (.inr (.inr (.inr (⟨h0, h1, h2, h3, h4, h5, h6, h7, h8, h9, h10, h11, h12⟩)))))))))))))
  rcases key with rfl | rfl | rfl | rfl | rfl | rfl | rfl | rfl | rfl | rfl | rfl | rfl | rfl | ⟨n0, n1, n2, n3, n4, n5, n6, n7, n8, n9, n10, n11, n12⟩
  · have c_2b0 := x2.cell 0 _ rfl
    have c_2b1 := x2.cell 1 _ rfl
    have c_2b2 := x2.cell 2 _ rfl
    have c_2b3 := x2.cell 3 _ rfl
    have m_2b0 := x2.mark 0 _ rfl
    have m_2b1 := x2.mark 1 _ rfl
    have m_2b2 := x2.mark 2 _ rfl
    have m_2b3 := x2.mark 3 _ rfl
    have l_2b := x2.lt (Nat.succ_pos _)
    have c_6b0 := x6.cell 0 _ rfl
    have c_6b1 := x6.cell 1 _ rfl
    have c_6b2 := x6.cell 2 _ rfl
    have c_6b3 := x6.cell 3 _ rfl
    have m_6b0 := x6.mark 0 _ rfl
    have m_6b1 := x6.mark 1 _ rfl
    have m_6b2 := x6.mark 2 _ rfl
    have m_6b3 := x6.mark 3 _ rfl
    have l_6b := x6.lt (Nat.succ_pos _)
    go_wp2_with fail
    refine name_end (fun W9 hW => ?_)
    have yb : boxAt W9 w.heap.size [.int .u64 (wd (digitS) 0), .int .u64 (wd (digitS) 1), .int .u64 (wd (digitS) 2), .int .u64 (wd (digitS) 3)] := by rw [hW]; exact (x2.put4 _ _ _ _).later (Gr.alloc _ _)
    have hG9 : Gr w W9 := by rw [hW]; exact Gr.trans (Below.put4 hg (Nat.le_refl _) _ _ _ _) (Gr.alloc _ _)
    clear hW
    have c_q0 := yb.cell 0 _ rfl
    have c_q1 := yb.cell 1 _ rfl
    have c_q2 := yb.cell 2 _ rfl
    have c_q3 := yb.cell 3 _ rfl
    have m_q0 := yb.mark 0 _ rfl
    have m_q1 := yb.mark 1 _ rfl
    have m_q2 := yb.mark 2 _ rfl
    have m_q3 := yb.mark 3 _ rfl
    have l_q := yb.lt (Nat.succ_pos _)
    refine bodyPost_ret (v := .tuple #[.agg #[.int .u64 (wd digitS 0), .int .u64 (wd digitS 1), .int .u64 (wd digitS 2), .int .u64 (wd digitS 3)], .bool true]) (by simp [results, Tryz.results47, go_sem, c_q0, c_q1, c_q2, c_q3]) rfl ⟨hG9, ?_⟩
    rfl
  · have c_2b0 := x2.cell 0 _ rfl
    have c_2b1 := x2.cell 1 _ rfl
    have c_2b2 := x2.cell 2 _ rfl
    have c_2b3 := x2.cell 3 _ rfl
    have m_2b0 := x2.mark 0 _ rfl
    have m_2b1 := x2.mark 1 _ rfl
    have m_2b2 := x2.mark 2 _ rfl
    have m_2b3 := x2.mark 3 _ rfl
    have l_2b := x2.lt (Nat.succ_pos _)
    have c_4b0 := x4.cell 0 _ rfl
    have c_4b1 := x4.cell 1 _ rfl
    have c_4b2 := x4.cell 2 _ rfl
    have c_4b3 := x4.cell 3 _ rfl
    have m_4b0 := x4.mark 0 _ rfl
    have m_4b1 := x4.mark 1 _ rfl
    have m_4b2 := x4.mark 2 _ rfl
    have m_4b3 := x4.mark 3 _ rfl
    have l_4b := x4.lt (Nat.succ_pos _)
    go_wp2_with fail
    refine name_end (fun W9 hW => ?_)
    have yb : boxAt W9 w.heap.size [.int .u64 (wd (lowerS) 0), .int .u64 (wd (lowerS) 1), .int .u64 (wd (lowerS) 2), .int .u64 (wd (lowerS) 3)] := by rw [hW]; exact (x2.put4 _ _ _ _).later (Gr.alloc _ _)
    have hG9 : Gr w W9 := by rw [hW]; exact Gr.trans (Below.put4 hg (Nat.le_refl _) _ _ _ _) (Gr.alloc _ _)
    clear hW
    have c_q0 := yb.cell 0 _ rfl
    have c_q1 := yb.cell 1 _ rfl
    have c_q2 := yb.cell 2 _ rfl
    have c_q3 := yb.cell 3 _ rfl
    have m_q0 := yb.mark 0 _ rfl
    have m_q1 := yb.mark 1 _ rfl
    have m_q2 := yb.mark 2 _ rfl
    have m_q3 := yb.mark 3 _ rfl
    have l_q := yb.lt (Nat.succ_pos _)
    refine bodyPost_ret (v := .tuple #[.agg #[.int .u64 (wd lowerS 0), .int .u64 (wd lowerS 1), .int .u64 (wd lowerS 2), .int .u64 (wd lowerS 3)], .bool true]) (by simp [results, Tryz.results47, go_sem, c_q0, c_q1, c_q2, c_q3]) rfl ⟨hG9, ?_⟩
    rfl
  · have c_2b0 := x2.cell 0 _ rfl
    have c_2b1 := x2.cell 1 _ rfl
    have c_2b2 := x2.cell 2 _ rfl
    have c_2b3 := x2.cell 3 _ rfl
    have m_2b0 := x2.mark 0 _ rfl
    have m_2b1 := x2.mark 1 _ rfl
    have m_2b2 := x2.mark 2 _ rfl
    have m_2b3 := x2.mark 3 _ rfl
    have l_2b := x2.lt (Nat.succ_pos _)
    have c_5b0 := x5.cell 0 _ rfl
    have c_5b1 := x5.cell 1 _ rfl
    have c_5b2 := x5.cell 2 _ rfl
    have c_5b3 := x5.cell 3 _ rfl
    have m_5b0 := x5.mark 0 _ rfl
    have m_5b1 := x5.mark 1 _ rfl
    have m_5b2 := x5.mark 2 _ rfl
    have m_5b3 := x5.mark 3 _ rfl
    have l_5b := x5.lt (Nat.succ_pos _)
    go_wp2_with fail
    refine name_end (fun W9 hW => ?_)
    have yb : boxAt W9 w.heap.size [.int .u64 (wd (upperS) 0), .int .u64 (wd (upperS) 1), .int .u64 (wd (upperS) 2), .int .u64 (wd (upperS) 3)] := by rw [hW]; exact (x2.put4 _ _ _ _).later (Gr.alloc _ _)
    have hG9 : Gr w W9 := by rw [hW]; exact Gr.trans (Below.put4 hg (Nat.le_refl _) _ _ _ _) (Gr.alloc _ _)
    clear hW
    have c_q0 := yb.cell 0 _ rfl
    have c_q1 := yb.cell 1 _ rfl
    have c_q2 := yb.cell 2 _ rfl
    have c_q3 := yb.cell 3 _ rfl
    have m_q0 := yb.mark 0 _ rfl
    have m_q1 := yb.mark 1 _ rfl
    have m_q2 := yb.mark 2 _ rfl
    have m_q3 := yb.mark 3 _ rfl
    have l_q := yb.lt (Nat.succ_pos _)
    refine bodyPost_ret (v := .tuple #[.agg #[.int .u64 (wd upperS 0), .int .u64 (wd upperS 1), .int .u64 (wd upperS 2), .int .u64 (wd upperS 3)], .bool true]) (by simp [results, Tryz.results47, go_sem, c_q0, c_q1, c_q2, c_q3]) rfl ⟨hG9, ?_⟩
    rfl
  · have c_2b0 := x2.cell 0 _ rfl
    have c_2b1 := x2.cell 1 _ rfl
    have c_2b2 := x2.cell 2 _ rfl
    have c_2b3 := x2.cell 3 _ rfl
    have m_2b0 := x2.mark 0 _ rfl
    have m_2b1 := x2.mark 1 _ rfl
    have m_2b2 := x2.mark 2 _ rfl
    have m_2b3 := x2.mark 3 _ rfl
    have l_2b := x2.lt (Nat.succ_pos _)
    have c_7b0 := x7.cell 0 _ rfl
    have c_7b1 := x7.cell 1 _ rfl
    have c_7b2 := x7.cell 2 _ rfl
    have c_7b3 := x7.cell 3 _ rfl
    have m_7b0 := x7.mark 0 _ rfl
    have m_7b1 := x7.mark 1 _ rfl
    have m_7b2 := x7.mark 2 _ rfl
    have m_7b3 := x7.mark 3 _ rfl
    have l_7b := x7.lt (Nat.succ_pos _)
    go_wp2_with fail
    refine name_end (fun W9 hW => ?_)
    have yb : boxAt W9 w.heap.size [.int .u64 (wd (lowerS ||| upperS) 0), .int .u64 (wd (lowerS ||| upperS) 1), .int .u64 (wd (lowerS ||| upperS) 2), .int .u64 (wd (lowerS ||| upperS) 3)] := by rw [hW]; exact (x2.put4 _ _ _ _).later (Gr.alloc _ _)
    have hG9 : Gr w W9 := by rw [hW]; exact Gr.trans (Below.put4 hg (Nat.le_refl _) _ _ _ _) (Gr.alloc _ _)
    clear hW
    have c_q0 := yb.cell 0 _ rfl
    have c_q1 := yb.cell 1 _ rfl
    have c_q2 := yb.cell 2 _ rfl
    have c_q3 := yb.cell 3 _ rfl
    have m_q0 := yb.mark 0 _ rfl
    have m_q1 := yb.mark 1 _ rfl
    have m_q2 := yb.mark 2 _ rfl
    have m_q3 := yb.mark 3 _ rfl
    have l_q := yb.lt (Nat.succ_pos _)
    refine bodyPost_ret (v := .tuple #[.agg #[.int .u64 (wd (lowerS ||| upperS) 0), .int .u64 (wd (lowerS ||| upperS) 1), .int .u64 (wd (lowerS ||| upperS) 2), .int .u64 (wd (lowerS ||| upperS) 3)], .bool true]) (by simp [results, Tryz.results47, go_sem, c_q0, c_q1, c_q2, c_q3]) rfl ⟨hG9, ?_⟩
    rfl
  · have c_2b0 := x2.cell 0 _ rfl
    have c_2b1 := x2.cell 1 _ rfl
    have c_2b2 := x2.cell 2 _ rfl
    have c_2b3 := x2.cell 3 _ rfl
    have m_2b0 := x2.mark 0 _ rfl
    have m_2b1 := x2.mark 1 _ rfl
    have m_2b2 := x2.mark 2 _ rfl
    have m_2b3 := x2.mark 3 _ rfl
    have l_2b := x2.lt (Nat.succ_pos _)
    go_wp2_with fail
    refine name_end (fun W9 hW => ?_)
    have yb : boxAt W9 w.heap.size [.int .u64 (wd (alnumS) 0), .int .u64 (wd (alnumS) 1), .int .u64 (wd (alnumS) 2), .int .u64 (wd (alnumS) 3)] := by rw [hW]; exact (x2.put4 _ _ _ _).later (Gr.alloc _ _)
    have hG9 : Gr w W9 := by rw [hW]; exact Gr.trans (Below.put4 hg (Nat.le_refl _) _ _ _ _) (Gr.alloc _ _)
    clear hW
    have c_q0 := yb.cell 0 _ rfl
    have c_q1 := yb.cell 1 _ rfl
    have c_q2 := yb.cell 2 _ rfl
    have c_q3 := yb.cell 3 _ rfl
    have m_q0 := yb.mark 0 _ rfl
    have m_q1 := yb.mark 1 _ rfl
    have m_q2 := yb.mark 2 _ rfl
    have m_q3 := yb.mark 3 _ rfl
    have l_q := yb.lt (Nat.succ_pos _)
    refine bodyPost_ret (v := .tuple #[.agg #[.int .u64 (wd alnumS 0), .int .u64 (wd alnumS 1), .int .u64 (wd alnumS 2), .int .u64 (wd alnumS 3)], .bool true]) (by simp [results, Tryz.results47, go_sem, c_q0, c_q1, c_q2, c_q3]) rfl ⟨hG9, ?_⟩
    rfl
  · go_wp2_with fail
    go_at_call 46
    refine name_calls (fun WA hWA => ?_)
    have hA : Gr w6 WA := by rw [hWA]; exact Gr.alloc _ _
    clear hWA
    refine (withI alnumS _ 95 95 WA rfl (by decide) word_is).mono ?_; rintro e wa ⟨rfl, hb⟩
    have hA := hA.trans hb
    clear hb
    have xr := x2.later hA
    have c_r0 := xr.cell 0 _ rfl
    have c_r1 := xr.cell 1 _ rfl
    have c_r2 := xr.cell 2 _ rfl
    have c_r3 := xr.cell 3 _ rfl
    have m_r0 := xr.mark 0 _ rfl
    have m_r1 := xr.mark 1 _ rfl
    have m_r2 := xr.mark 2 _ rfl
    have m_r3 := xr.mark 3 _ rfl
    have l_r := xr.lt (Nat.succ_pos _)
    go_wp2_with fail
    refine name_end (fun W9 hW => ?_)
    have yb : boxAt W9 w.heap.size [.int .u64 (wd (alnumS ||| ofList [95]) 0), .int .u64 (wd (alnumS ||| ofList [95]) 1), .int .u64 (wd (alnumS ||| ofList [95]) 2), .int .u64 (wd (alnumS ||| ofList [95]) 3)] := by rw [hW]; exact (xr).put4 _ _ _ _
    have hG9 : Gr w W9 := by rw [hW]; exact Below.put4 (hg.trans hA) (Nat.le_refl _) _ _ _ _
    clear hW
    have c_q0 := yb.cell 0 _ rfl
    have c_q1 := yb.cell 1 _ rfl
    have c_q2 := yb.cell 2 _ rfl
    have c_q3 := yb.cell 3 _ rfl
    have m_q0 := yb.mark 0 _ rfl
    have m_q1 := yb.mark 1 _ rfl
    have m_q2 := yb.mark 2 _ rfl
    have m_q3 := yb.mark 3 _ rfl
    have l_q := yb.lt (Nat.succ_pos _)
    refine bodyPost_ret (v := .tuple #[.agg #[.int .u64 (wd (alnumS ||| ofList [95]) 0), .int .u64 (wd (alnumS ||| ofList [95]) 1), .int .u64 (wd (alnumS ||| ofList [95]) 2), .int .u64 (wd (alnumS ||| ofList [95]) 3)], .bool true]) (by simp [results, Tryz.results47, go_sem, c_q0, c_q1, c_q2, c_q3]) rfl ⟨hG9, ?_⟩
    rfl
  · go_wp2_with fail
    refine name_world (fun WA hWA => ?_)
    have hA : Gr w6 WA := by rw [hWA]; exact Gr.alloc _ _
    have xz : boxAt WA w3.heap.size [.int .u64 (wd digitS 0), .int .u64 (wd digitS 1), .int .u64 (wd digitS 2), .int .u64 (wd digitS 3)] := x6.later hA
    have hne : w.heap.size ≠ w3.heap.size := by have := x2.lt (Nat.succ_pos _); exact hne6
    clear hWA
    have xr := x2.later hA
    have hgw := hg.trans hA
    refine wp_region_S (fun w' => Gr w w' ∧ (∃ vs : List Value, vs.length = 4 ∧ boxAt w' w.heap.size vs) ∧ boxAt w' w3.heap.size [.int .u64 (wd digitS 0), .int .u64 (wd digitS 1), .int .u64 (wd digitS 2), .int .u64 (wd digitS 3)]) (.take 0 (.run 1 false (.run 2 false (.run 3 false (.run 4 false (.run 5 false (.run 6 true .nil))))))) ⟨hgw.trans (Gr.drew _), ⟨_, rfl, xr.later (Gr.drew _)⟩, xz.later (Gr.drew _)⟩ (by kernel_rfl) (by kernel_rfl) ?_
    simp only [pickOps, nthOp]
    intro wq hN hS
    repeat (first | (refine wpG_skip_take ?_ ?_; (focus rfl); try simp only [Act.put, List.setIfInBounds_toArray, List.set_cons_zero, List.set_cons_succ]) | (refine wpG_skip_run ?_ ?_; (focus rfl); try simp only [Act.put, List.setIfInBounds_toArray, List.set_cons_zero, List.set_cons_succ]) | (refine wpG_take ?_ ?_; (focus rfl); apply Exists.intro; refine ⟨fun w' hw' => ?_, ?_⟩; (focus (have qd0 := hw'.2.2.cell 0 _ rfl; have qd1 := hw'.2.2.cell 1 _ rfl; have qd2 := hw'.2.2.cell 2 _ rfl; have qd3 := hw'.2.2.cell 3 _ rfl; go_simp; (try rfl); done)); try simp only [Act.put, List.setIfInBounds_toArray, List.set_cons_zero, List.set_cons_succ]))
    refine wpG_run ?_ (fun K hK => ?_); (focus rfl)
    go_simp
    go_at_call 49
    refine (rngI 97 102 97 102 wq rfl rfl (by decide) (by decide)).mono ?_; rintro e wq ⟨rfl, hb⟩
    have hS : Gr w wq ∧ (∃ vs : List Value, vs.length = 4 ∧ boxAt wq w.heap.size vs) ∧ boxAt wq w3.heap.size [.int .u64 (wd digitS 0), .int .u64 (wd digitS 1), .int .u64 (wd digitS 2), .int .u64 (wd digitS 3)] := ⟨hS.1.trans hb, by obtain ⟨vs, h1, h2⟩ := hS.2.1; exact ⟨vs, h1, h2.later hb⟩, hS.2.2.later hb⟩
    refine hK.out _ _ hS ?_
    clear hK K hb
    try simp only [Act.put, List.setIfInBounds_toArray, List.set_cons_zero, List.set_cons_succ]
    refine wpG_run ?_ (fun K hK => ?_); (focus rfl)
    go_simp
    go_at_call 49
    refine (rngI 65 70 65 70 wq rfl rfl (by decide) (by decide)).mono ?_; rintro e wq ⟨rfl, hb⟩
    have hS : Gr w wq ∧ (∃ vs : List Value, vs.length = 4 ∧ boxAt wq w.heap.size vs) ∧ boxAt wq w3.heap.size [.int .u64 (wd digitS 0), .int .u64 (wd digitS 1), .int .u64 (wd digitS 2), .int .u64 (wd digitS 3)] := ⟨hS.1.trans hb, by obtain ⟨vs, h1, h2⟩ := hS.2.1; exact ⟨vs, h1, h2.later hb⟩, hS.2.2.later hb⟩
    refine hK.out _ _ hS ?_
    clear hK K hb
    try simp only [Act.put, List.setIfInBounds_toArray, List.set_cons_zero, List.set_cons_succ]
    refine wpG_run ?_ (fun K hK => ?_); (focus rfl)
    go_simp
    go_at_call 27
    refine (r1union (rangeSet 97 102) (rangeSet 65 70) wq).mono ?_; rintro e wq ⟨rfl, hb⟩
    have hS : Gr w wq ∧ (∃ vs : List Value, vs.length = 4 ∧ boxAt wq w.heap.size vs) ∧ boxAt wq w3.heap.size [.int .u64 (wd digitS 0), .int .u64 (wd digitS 1), .int .u64 (wd digitS 2), .int .u64 (wd digitS 3)] := ⟨hS.1.trans hb, by obtain ⟨vs, h1, h2⟩ := hS.2.1; exact ⟨vs, h1, h2.later hb⟩, hS.2.2.later hb⟩
    refine hK.out _ _ hS ?_
    clear hK K hb
    try simp only [Act.put, List.setIfInBounds_toArray, List.set_cons_zero, List.set_cons_succ]
    refine wpG_run ?_ (fun K hK => ?_); (focus rfl)
    go_simp
    go_at_call 27
    refine (unionI digitS (rangeSet 97 102 ||| rangeSet 65 70) _ wq xdigit_is).mono ?_; rintro e wq ⟨rfl, hb⟩
    have hS : Gr w wq ∧ (∃ vs : List Value, vs.length = 4 ∧ boxAt wq w.heap.size vs) ∧ boxAt wq w3.heap.size [.int .u64 (wd digitS 0), .int .u64 (wd digitS 1), .int .u64 (wd digitS 2), .int .u64 (wd digitS 3)] := ⟨hS.1.trans hb, by obtain ⟨vs, h1, h2⟩ := hS.2.1; exact ⟨vs, h1, h2.later hb⟩, hS.2.2.later hb⟩
    refine hK.out _ _ hS ?_
    clear hK K hb
    try simp only [Act.put, List.setIfInBounds_toArray, List.set_cons_zero, List.set_cons_succ]
    obtain ⟨hG, ⟨vs, hvl, xq⟩, xy⟩ := hS
    obtain ⟨v0, v1, v2, v3, rfl⟩ : ∃ v0 v1 v2 v3, vs = [v0, v1, v2, v3] := by
      match vs, hvl with
      | [v0, v1, v2, v3], _ => exact ⟨_, _, _, _, rfl⟩
    have c_z0 := xq.cell 0 _ rfl
    have c_z1 := xq.cell 1 _ rfl
    have c_z2 := xq.cell 2 _ rfl
    have c_z3 := xq.cell 3 _ rfl
    have m_z0 := xq.mark 0 _ rfl
    have m_z1 := xq.mark 1 _ rfl
    have m_z2 := xq.mark 2 _ rfl
    have m_z3 := xq.mark 3 _ rfl
    have l_z := xq.lt (Nat.succ_pos _)
    refine wpG_run ?_ (fun K hK => ?_); (focus rfl)
    go_simp
    refine hK.out _ _ ⟨Below.put4 hG (Nat.le_refl _) _ _ _ _, ⟨_, rfl, xq.put4 _ _ _ _⟩, xy.far4 hne _ _ _ _⟩ ?_
    clear hK K
    try simp only [Act.put, List.setIfInBounds_toArray, List.set_cons_zero, List.set_cons_succ]
    refine wpG_last ?_ (fun K hK => ?_); (focus rfl)
    go_simp
    refine hK.out _ _ ?_
    try simp only [Act.put, List.setIfInBounds_toArray, List.set_cons_zero, List.set_cons_succ]
    clear hK K
    clear c_z0 c_z1 c_z2 c_z3 m_z0 m_z1 m_z2 m_z3 l_z
    refine wpG_done ?_
    go_wp2
    refine name_end (fun W9 hW => ?_)
    have yb : boxAt W9 w.heap.size [.int .u64 (wd (ofSpans [(48, 57), (97, 102), (65, 70)]) 0), .int .u64 (wd (ofSpans [(48, 57), (97, 102), (65, 70)]) 1), .int .u64 (wd (ofSpans [(48, 57), (97, 102), (65, 70)]) 2), .int .u64 (wd (ofSpans [(48, 57), (97, 102), (65, 70)]) 3)] := by rw [hW]; exact (xq).put4 _ _ _ _
    have hG9 : Gr w W9 := by rw [hW]; exact Below.put4 (hG) (Nat.le_refl _) _ _ _ _
    clear hW
    have c_q0 := yb.cell 0 _ rfl
    have c_q1 := yb.cell 1 _ rfl
    have c_q2 := yb.cell 2 _ rfl
    have c_q3 := yb.cell 3 _ rfl
    have m_q0 := yb.mark 0 _ rfl
    have m_q1 := yb.mark 1 _ rfl
    have m_q2 := yb.mark 2 _ rfl
    have m_q3 := yb.mark 3 _ rfl
    have l_q := yb.lt (Nat.succ_pos _)
    refine bodyPost_ret (v := .tuple #[.agg #[.int .u64 (wd (ofSpans [(48, 57), (97, 102), (65, 70)]) 0), .int .u64 (wd (ofSpans [(48, 57), (97, 102), (65, 70)]) 1), .int .u64 (wd (ofSpans [(48, 57), (97, 102), (65, 70)]) 2), .int .u64 (wd (ofSpans [(48, 57), (97, 102), (65, 70)]) 3)], .bool true]) (by simp [results, Tryz.results47, go_sem, c_q0, c_q1, c_q2, c_q3]) rfl ⟨hG9, ?_⟩
    rfl
  · go_wp2_with fail
    go_at_call 64
    refine name_calls (fun WA hWA => ?_)
    obtain ⟨WB, hWB⟩ : ∃ WB, WB = w6.alloc (.cells #[.int .u64 (wd alnumS 0), .int .u64 (wd alnumS 1), .int .u64 (wd alnumS 2), .int .u64 (wd alnumS 3)] 27) := ⟨_, rfl⟩
    have hsz : WB.heap.size = w6.heap.size + 1 := by rw [hWB]; simp
    have hA1 : Gr w6 WB := by rw [hWB]; exact Gr.alloc _ _
    have hA : Gr w6 WA := hA1.trans (by rw [hWA, ← hWB]; exact Gr.alloc _ _)
    have hsl : Sl WA (.slice (some ⟨w6.heap.size + 1, 0, none⟩) 2 2) 1 ([32, 9] : List UInt8).length (([32, 9] : List UInt8).map vB) := by
      rw [← hsz]
      exact Sl.lit2 32 9 WB WA (by rw [hWA, ← hWB]; rfl)
    clear hWA hWB hsz hA1
    refine (r1of [32, 9] _ WA hsl).mono ?_; rintro e wa ⟨rfl, hb⟩
    have hA := hA.trans hb
    clear hb
    have xr := x2.later hA
    have c_r0 := xr.cell 0 _ rfl
    have c_r1 := xr.cell 1 _ rfl
    have c_r2 := xr.cell 2 _ rfl
    have c_r3 := xr.cell 3 _ rfl
    have m_r0 := xr.mark 0 _ rfl
    have m_r1 := xr.mark 1 _ rfl
    have m_r2 := xr.mark 2 _ rfl
    have m_r3 := xr.mark 3 _ rfl
    have l_r := xr.lt (Nat.succ_pos _)
    go_wp2_with fail
    refine name_end (fun W9 hW => ?_)
    have yb : boxAt W9 w.heap.size [.int .u64 (wd (ofList [32, 9]) 0), .int .u64 (wd (ofList [32, 9]) 1), .int .u64 (wd (ofList [32, 9]) 2), .int .u64 (wd (ofList [32, 9]) 3)] := by rw [hW]; exact (xr).put4 _ _ _ _
    have hG9 : Gr w W9 := by rw [hW]; exact Below.put4 (hg.trans hA) (Nat.le_refl _) _ _ _ _
    clear hW
    have c_q0 := yb.cell 0 _ rfl
    have c_q1 := yb.cell 1 _ rfl
    have c_q2 := yb.cell 2 _ rfl
    have c_q3 := yb.cell 3 _ rfl
    have m_q0 := yb.mark 0 _ rfl
    have m_q1 := yb.mark 1 _ rfl
    have m_q2 := yb.mark 2 _ rfl
    have m_q3 := yb.mark 3 _ rfl
    have l_q := yb.lt (Nat.succ_pos _)
    refine bodyPost_ret (v := .tuple #[.agg #[.int .u64 (wd (ofList [32, 9]) 0), .int .u64 (wd (ofList [32, 9]) 1), .int .u64 (wd (ofList [32, 9]) 2), .int .u64 (wd (ofList [32, 9]) 3)], .bool true]) (by simp [results, Tryz.results47, go_sem, c_q0, c_q1, c_q2, c_q3]) rfl ⟨hG9, ?_⟩
    rfl
  · go_wp2_with fail
    go_at_call 49
    refine name_calls (fun WA hWA => ?_)
    have hA : Gr w6 WA := by rw [hWA]; exact Gr.alloc _ _
    clear hWA
    refine (rngI 9 13 9 13 WA rfl rfl (by decide) (by decide)).mono ?_; rintro e wa ⟨rfl, hb⟩
    have hA := hA.trans hb
    clear hb
    go_wp2_with fail
    go_at_call 46
    refine (withI (rangeSet 9 13) _ 32 32 wa rfl (by decide) space_is).mono ?_; rintro e wa0 ⟨rfl, hb⟩
    have hA := hA.trans hb
    clear hb
    have xr := x2.later hA
    have c_r0 := xr.cell 0 _ rfl
    have c_r1 := xr.cell 1 _ rfl
    have c_r2 := xr.cell 2 _ rfl
    have c_r3 := xr.cell 3 _ rfl
    have m_r0 := xr.mark 0 _ rfl
    have m_r1 := xr.mark 1 _ rfl
    have m_r2 := xr.mark 2 _ rfl
    have m_r3 := xr.mark 3 _ rfl
    have l_r := xr.lt (Nat.succ_pos _)
    go_wp2_with fail
    refine name_end (fun W9 hW => ?_)
    have yb : boxAt W9 w.heap.size [.int .u64 (wd (rangeSet 9 13 ||| ofList [32]) 0), .int .u64 (wd (rangeSet 9 13 ||| ofList [32]) 1), .int .u64 (wd (rangeSet 9 13 ||| ofList [32]) 2), .int .u64 (wd (rangeSet 9 13 ||| ofList [32]) 3)] := by rw [hW]; exact (xr).put4 _ _ _ _
    have hG9 : Gr w W9 := by rw [hW]; exact Below.put4 (hg.trans hA) (Nat.le_refl _) _ _ _ _
    clear hW
    have c_q0 := yb.cell 0 _ rfl
    have c_q1 := yb.cell 1 _ rfl
    have c_q2 := yb.cell 2 _ rfl
    have c_q3 := yb.cell 3 _ rfl
    have m_q0 := yb.mark 0 _ rfl
    have m_q1 := yb.mark 1 _ rfl
    have m_q2 := yb.mark 2 _ rfl
    have m_q3 := yb.mark 3 _ rfl
    have l_q := yb.lt (Nat.succ_pos _)
    refine bodyPost_ret (v := .tuple #[.agg #[.int .u64 (wd (rangeSet 9 13 ||| ofList [32]) 0), .int .u64 (wd (rangeSet 9 13 ||| ofList [32]) 1), .int .u64 (wd (rangeSet 9 13 ||| ofList [32]) 2), .int .u64 (wd (rangeSet 9 13 ||| ofList [32]) 3)], .bool true]) (by simp [results, Tryz.results47, go_sem, c_q0, c_q1, c_q2, c_q3]) rfl ⟨hG9, ?_⟩
    rfl
  · go_wp2_with fail
    refine name_world (fun WA hWA => ?_)
    have hA : Gr w6 WA := by rw [hWA]; exact Gr.alloc _ _
    have xz : boxAt WA w6.heap.size [.int .u64 (wd alnumS 0), .int .u64 (wd alnumS 1), .int .u64 (wd alnumS 2), .int .u64 (wd alnumS 3)] := boxAt.new _ _ hWA
    have hne : w.heap.size ≠ w6.heap.size := by have := x2.lt (Nat.succ_pos _); omega
    clear hWA
    have xr := x2.later hA
    have hgw := hg.trans hA
    refine wp_region_S (fun w' => Gr w w' ∧ (∃ vs : List Value, vs.length = 4 ∧ boxAt w' w.heap.size vs) ∧ boxAt w' w6.heap.size [.int .u64 (wd alnumS 0), .int .u64 (wd alnumS 1), .int .u64 (wd alnumS 2), .int .u64 (wd alnumS 3)]) (.take 1 (.run 0 false (.run 2 false (.run 3 false (.run 4 true .nil))))) ⟨hgw.trans (Gr.drew _), ⟨_, rfl, xr.later (Gr.drew _)⟩, xz.later (Gr.drew _)⟩ (by kernel_rfl) (by kernel_rfl) ?_
    simp only [pickOps, nthOp]
    intro wq hN hS
    repeat (first | (refine wpG_skip_take ?_ ?_; (focus rfl); try simp only [Act.put, List.setIfInBounds_toArray, List.set_cons_zero, List.set_cons_succ]) | (refine wpG_skip_run ?_ ?_; (focus rfl); try simp only [Act.put, List.setIfInBounds_toArray, List.set_cons_zero, List.set_cons_succ]) | (refine wpG_take ?_ ?_; (focus rfl); apply Exists.intro; refine ⟨fun w' hw' => ?_, ?_⟩; (focus (have qd0 := hw'.2.2.cell 0 _ rfl; have qd1 := hw'.2.2.cell 1 _ rfl; have qd2 := hw'.2.2.cell 2 _ rfl; have qd3 := hw'.2.2.cell 3 _ rfl; go_simp; (try rfl); done)); try simp only [Act.put, List.setIfInBounds_toArray, List.set_cons_zero, List.set_cons_succ]))
    refine wpG_run ?_ (fun K hK => ?_); (focus rfl)
    go_simp
    go_at_call 49
    refine (rngI 33 126 33 126 wq rfl rfl (by decide) (by decide)).mono ?_; rintro e wq ⟨rfl, hb⟩
    have hS : Gr w wq ∧ (∃ vs : List Value, vs.length = 4 ∧ boxAt wq w.heap.size vs) ∧ boxAt wq w6.heap.size [.int .u64 (wd alnumS 0), .int .u64 (wd alnumS 1), .int .u64 (wd alnumS 2), .int .u64 (wd alnumS 3)] := ⟨hS.1.trans hb, by obtain ⟨vs, h1, h2⟩ := hS.2.1; exact ⟨vs, h1, h2.later hb⟩, hS.2.2.later hb⟩
    refine hK.out _ _ hS ?_
    clear hK K hb
    try simp only [Act.put, List.setIfInBounds_toArray, List.set_cons_zero, List.set_cons_succ]
    refine wpG_run ?_ (fun K hK => ?_); (focus rfl)
    go_simp
    go_at_call 30
    refine (minusI (rangeSet 33 126) alnumS _ wq rfl).mono ?_; rintro e wq ⟨rfl, hb⟩
    have hS : Gr w wq ∧ (∃ vs : List Value, vs.length = 4 ∧ boxAt wq w.heap.size vs) ∧ boxAt wq w6.heap.size [.int .u64 (wd alnumS 0), .int .u64 (wd alnumS 1), .int .u64 (wd alnumS 2), .int .u64 (wd alnumS 3)] := ⟨hS.1.trans hb, by obtain ⟨vs, h1, h2⟩ := hS.2.1; exact ⟨vs, h1, h2.later hb⟩, hS.2.2.later hb⟩
    refine hK.out _ _ hS ?_
    clear hK K hb
    try simp only [Act.put, List.setIfInBounds_toArray, List.set_cons_zero, List.set_cons_succ]
    obtain ⟨hG, ⟨vs, hvl, xq⟩, xy⟩ := hS
    obtain ⟨v0, v1, v2, v3, rfl⟩ : ∃ v0 v1 v2 v3, vs = [v0, v1, v2, v3] := by
      match vs, hvl with
      | [v0, v1, v2, v3], _ => exact ⟨_, _, _, _, rfl⟩
    have c_z0 := xq.cell 0 _ rfl
    have c_z1 := xq.cell 1 _ rfl
    have c_z2 := xq.cell 2 _ rfl
    have c_z3 := xq.cell 3 _ rfl
    have m_z0 := xq.mark 0 _ rfl
    have m_z1 := xq.mark 1 _ rfl
    have m_z2 := xq.mark 2 _ rfl
    have m_z3 := xq.mark 3 _ rfl
    have l_z := xq.lt (Nat.succ_pos _)
    refine wpG_run ?_ (fun K hK => ?_); (focus rfl)
    go_simp
    refine hK.out _ _ ⟨Below.put4 hG (Nat.le_refl _) _ _ _ _, ⟨_, rfl, xq.put4 _ _ _ _⟩, xy.far4 hne _ _ _ _⟩ ?_
    clear hK K
    try simp only [Act.put, List.setIfInBounds_toArray, List.set_cons_zero, List.set_cons_succ]
    refine wpG_last ?_ (fun K hK => ?_); (focus rfl)
    go_simp
    refine hK.out _ _ ?_
    try simp only [Act.put, List.setIfInBounds_toArray, List.set_cons_zero, List.set_cons_succ]
    clear hK K
    clear c_z0 c_z1 c_z2 c_z3 m_z0 m_z1 m_z2 m_z3 l_z
    refine wpG_done ?_
    go_wp2
    refine name_end (fun W9 hW => ?_)
    have yb : boxAt W9 w.heap.size [.int .u64 (wd (rangeSet 33 126 &&& ~~~alnumS) 0), .int .u64 (wd (rangeSet 33 126 &&& ~~~alnumS) 1), .int .u64 (wd (rangeSet 33 126 &&& ~~~alnumS) 2), .int .u64 (wd (rangeSet 33 126 &&& ~~~alnumS) 3)] := by rw [hW]; exact (xq).put4 _ _ _ _
    have hG9 : Gr w W9 := by rw [hW]; exact Below.put4 (hG) (Nat.le_refl _) _ _ _ _
    clear hW
    have c_q0 := yb.cell 0 _ rfl
    have c_q1 := yb.cell 1 _ rfl
    have c_q2 := yb.cell 2 _ rfl
    have c_q3 := yb.cell 3 _ rfl
    have m_q0 := yb.mark 0 _ rfl
    have m_q1 := yb.mark 1 _ rfl
    have m_q2 := yb.mark 2 _ rfl
    have m_q3 := yb.mark 3 _ rfl
    have l_q := yb.lt (Nat.succ_pos _)
    refine bodyPost_ret (v := .tuple #[.agg #[.int .u64 (wd (rangeSet 33 126 &&& ~~~alnumS) 0), .int .u64 (wd (rangeSet 33 126 &&& ~~~alnumS) 1), .int .u64 (wd (rangeSet 33 126 &&& ~~~alnumS) 2), .int .u64 (wd (rangeSet 33 126 &&& ~~~alnumS) 3)], .bool true]) (by simp [results, Tryz.results47, go_sem, c_q0, c_q1, c_q2, c_q3]) rfl ⟨hG9, ?_⟩
    rfl
  · go_wp2_with fail
    go_at_call 49
    refine name_calls (fun WA hWA => ?_)
    have hA : Gr w6 WA := by rw [hWA]; exact Gr.alloc _ _
    clear hWA
    refine (rngI 32 126 32 126 WA rfl rfl (by decide) (by decide)).mono ?_; rintro e wa ⟨rfl, hb⟩
    have hA := hA.trans hb
    clear hb
    have xr := x2.later hA
    have c_r0 := xr.cell 0 _ rfl
    have c_r1 := xr.cell 1 _ rfl
    have c_r2 := xr.cell 2 _ rfl
    have c_r3 := xr.cell 3 _ rfl
    have m_r0 := xr.mark 0 _ rfl
    have m_r1 := xr.mark 1 _ rfl
    have m_r2 := xr.mark 2 _ rfl
    have m_r3 := xr.mark 3 _ rfl
    have l_r := xr.lt (Nat.succ_pos _)
    go_wp2_with fail
    refine name_end (fun W9 hW => ?_)
    have yb : boxAt W9 w.heap.size [.int .u64 (wd (rangeSet 32 126) 0), .int .u64 (wd (rangeSet 32 126) 1), .int .u64 (wd (rangeSet 32 126) 2), .int .u64 (wd (rangeSet 32 126) 3)] := by rw [hW]; exact (xr).put4 _ _ _ _
    have hG9 : Gr w W9 := by rw [hW]; exact Below.put4 (hg.trans hA) (Nat.le_refl _) _ _ _ _
    clear hW
    have c_q0 := yb.cell 0 _ rfl
    have c_q1 := yb.cell 1 _ rfl
    have c_q2 := yb.cell 2 _ rfl
    have c_q3 := yb.cell 3 _ rfl
    have m_q0 := yb.mark 0 _ rfl
    have m_q1 := yb.mark 1 _ rfl
    have m_q2 := yb.mark 2 _ rfl
    have m_q3 := yb.mark 3 _ rfl
    have l_q := yb.lt (Nat.succ_pos _)
    refine bodyPost_ret (v := .tuple #[.agg #[.int .u64 (wd (rangeSet 32 126) 0), .int .u64 (wd (rangeSet 32 126) 1), .int .u64 (wd (rangeSet 32 126) 2), .int .u64 (wd (rangeSet 32 126) 3)], .bool true]) (by simp [results, Tryz.results47, go_sem, c_q0, c_q1, c_q2, c_q3]) rfl ⟨hG9, ?_⟩
    rfl
  · go_wp2_with fail
    go_at_call 49
    refine name_calls (fun WA hWA => ?_)
    have hA : Gr w6 WA := by rw [hWA]; exact Gr.alloc _ _
    clear hWA
    refine (rngI 0 31 0 31 WA rfl rfl (by decide) (by decide)).mono ?_; rintro e wa ⟨rfl, hb⟩
    have hA := hA.trans hb
    clear hb
    go_wp2_with fail
    go_at_call 46
    refine (withI (rangeSet 0 31) _ 127 127 wa rfl (by decide) cntrl_is).mono ?_; rintro e wa0 ⟨rfl, hb⟩
    have hA := hA.trans hb
    clear hb
    have xr := x2.later hA
    have c_r0 := xr.cell 0 _ rfl
    have c_r1 := xr.cell 1 _ rfl
    have c_r2 := xr.cell 2 _ rfl
    have c_r3 := xr.cell 3 _ rfl
    have m_r0 := xr.mark 0 _ rfl
    have m_r1 := xr.mark 1 _ rfl
    have m_r2 := xr.mark 2 _ rfl
    have m_r3 := xr.mark 3 _ rfl
    have l_r := xr.lt (Nat.succ_pos _)
    go_wp2_with fail
    refine name_end (fun W9 hW => ?_)
    have yb : boxAt W9 w.heap.size [.int .u64 (wd (rangeSet 0 31 ||| ofList [127]) 0), .int .u64 (wd (rangeSet 0 31 ||| ofList [127]) 1), .int .u64 (wd (rangeSet 0 31 ||| ofList [127]) 2), .int .u64 (wd (rangeSet 0 31 ||| ofList [127]) 3)] := by rw [hW]; exact (xr).put4 _ _ _ _
    have hG9 : Gr w W9 := by rw [hW]; exact Below.put4 (hg.trans hA) (Nat.le_refl _) _ _ _ _
    clear hW
    have c_q0 := yb.cell 0 _ rfl
    have c_q1 := yb.cell 1 _ rfl
    have c_q2 := yb.cell 2 _ rfl
    have c_q3 := yb.cell 3 _ rfl
    have m_q0 := yb.mark 0 _ rfl
    have m_q1 := yb.mark 1 _ rfl
    have m_q2 := yb.mark 2 _ rfl
    have m_q3 := yb.mark 3 _ rfl
    have l_q := yb.lt (Nat.succ_pos _)
    refine bodyPost_ret (v := .tuple #[.agg #[.int .u64 (wd (rangeSet 0 31 ||| ofList [127]) 0), .int .u64 (wd (rangeSet 0 31 ||| ofList [127]) 1), .int .u64 (wd (rangeSet 0 31 ||| ofList [127]) 2), .int .u64 (wd (rangeSet 0 31 ||| ofList [127]) 3)], .bool true]) (by simp [results, Tryz.results47, go_sem, c_q0, c_q1, c_q2, c_q3]) rfl ⟨hG9, ?_⟩
    rfl
  · go_wp2_with fail
    go_at_call 50
    refine name_calls (fun WA hWA => ?_)
    have hA : Gr w6 WA := by rw [hWA]; exact Gr.alloc _ _
    clear hWA
    refine (r1all WA).mono ?_; rintro e wa ⟨rfl, hb⟩
    have hA := hA.trans hb
    clear hb
    have xr := x2.later hA
    have c_r0 := xr.cell 0 _ rfl
    have c_r1 := xr.cell 1 _ rfl
    have c_r2 := xr.cell 2 _ rfl
    have c_r3 := xr.cell 3 _ rfl
    have m_r0 := xr.mark 0 _ rfl
    have m_r1 := xr.mark 1 _ rfl
    have m_r2 := xr.mark 2 _ rfl
    have m_r3 := xr.mark 3 _ rfl
    have l_r := xr.lt (Nat.succ_pos _)
    go_wp2_with fail
    refine name_end (fun W9 hW => ?_)
    have yb : boxAt W9 w.heap.size [.int .u64 (wd (~~~emptyS) 0), .int .u64 (wd (~~~emptyS) 1), .int .u64 (wd (~~~emptyS) 2), .int .u64 (wd (~~~emptyS) 3)] := by rw [hW]; exact (xr).put4 _ _ _ _
    have hG9 : Gr w W9 := by rw [hW]; exact Below.put4 (hg.trans hA) (Nat.le_refl _) _ _ _ _
    clear hW
    have c_q0 := yb.cell 0 _ rfl
    have c_q1 := yb.cell 1 _ rfl
    have c_q2 := yb.cell 2 _ rfl
    have c_q3 := yb.cell 3 _ rfl
    have m_q0 := yb.mark 0 _ rfl
    have m_q1 := yb.mark 1 _ rfl
    have m_q2 := yb.mark 2 _ rfl
    have m_q3 := yb.mark 3 _ rfl
    have l_q := yb.lt (Nat.succ_pos _)
    refine bodyPost_ret (v := .tuple #[.agg #[.int .u64 (wd (~~~emptyS) 0), .int .u64 (wd (~~~emptyS) 1), .int .u64 (wd (~~~emptyS) 2), .int .u64 (wd (~~~emptyS) 3)], .bool true]) (by simp [results, Tryz.results47, go_sem, c_q0, c_q1, c_q2, c_q3]) rfl ⟨hG9, ?_⟩
    rfl
  · have m0 := beq_eq_false_iff_ne.2 n0
    have m1 := beq_eq_false_iff_ne.2 n1
    have m2 := beq_eq_false_iff_ne.2 n2
    have m3 := beq_eq_false_iff_ne.2 n3
    have m4 := beq_eq_false_iff_ne.2 n4
    have m5 := beq_eq_false_iff_ne.2 n5
    have m6 := beq_eq_false_iff_ne.2 n6
    have m7 := beq_eq_false_iff_ne.2 n7
    have m8 := beq_eq_false_iff_ne.2 n8
    have m9 := beq_eq_false_iff_ne.2 n9
    have m10 := beq_eq_false_iff_ne.2 n10
    have m11 := beq_eq_false_iff_ne.2 n11
    have m12 := beq_eq_false_iff_ne.2 n12
    have c_2b0 := x2.cell 0 _ rfl
    have c_2b1 := x2.cell 1 _ rfl
    have c_2b2 := x2.cell 2 _ rfl
    have c_2b3 := x2.cell 3 _ rfl
    have m_2b0 := x2.mark 0 _ rfl
    have m_2b1 := x2.mark 1 _ rfl
    have m_2b2 := x2.mark 2 _ rfl
    have m_2b3 := x2.mark 3 _ rfl
    have l_2b := x2.lt (Nat.succ_pos _)
    go_wp2_with fail
    refine name_end (fun W9 hW => ?_)
    have yb : boxAt W9 w.heap.size [.int .u64 0, .int .u64 0, .int .u64 0, .int .u64 0] := by rw [hW]; exact (x2.put4 _ _ _ _).later (Gr.alloc _ _)
    have hG9 : Gr w W9 := by rw [hW]; exact Gr.trans (Below.put4 hg (Nat.le_refl _) _ _ _ _) (Gr.alloc _ _)
    clear hW
    have c_q0 := yb.cell 0 _ rfl
    have c_q1 := yb.cell 1 _ rfl
    have c_q2 := yb.cell 2 _ rfl
    have c_q3 := yb.cell 3 _ rfl
    have m_q0 := yb.mark 0 _ rfl
    have m_q1 := yb.mark 1 _ rfl
    have m_q2 := yb.mark 2 _ rfl
    have m_q3 := yb.mark 3 _ rfl
    have l_q := yb.lt (Nat.succ_pos _)
    refine bodyPost_ret (v := .tuple #[.agg #[.int .u64 (wd emptyS 0), .int .u64 (wd emptyS 1), .int .u64 (wd emptyS 2), .int .u64 (wd emptyS 3)], .bool false]) (by simp [wd_zero, results, Tryz.results47, go_sem, c_q0, c_q1, c_q2, c_q3]) rfl ⟨hG9, ?_⟩
    rw [show namedS b = none from by unfold namedS; rw [if_neg n0, if_neg n1, if_neg n2, if_neg n3, if_neg n4, if_neg n5, if_neg n6, if_neg n7, if_neg n8, if_neg n9, if_neg n10, if_neg n11, if_neg n12]]

end Go.Proofs.YtihjmeoklbmnmaaGreatDoor

/- bolterref3: item. No condition but a length's bound. -/
namespace Go.Proofs.YtihjmeoklbmnmaaGreatDoor
open Go Go.RowKit

/-! ### Names -/

theorem named_is {b : List UInt8} {s : BitVec 256} (h : namedS b = some s) : (58 : UInt8) ∉ b ∧ 1 ≤ b.length ∧ b.length ≤ 6 := by
  unfold namedS at h
  by_cases h0 : b = [100, 105, 103, 105, 116]
  · subst h0; decide
  by_cases h1 : b = [108, 111, 119, 101, 114]
  · subst h1; decide
  by_cases h2 : b = [117, 112, 112, 101, 114]
  · subst h2; decide
  by_cases h3 : b = [97, 108, 112, 104, 97]
  · subst h3; decide
  by_cases h4 : b = [97, 108, 110, 117, 109]
  · subst h4; decide
  by_cases h5 : b = [119, 111, 114, 100]
  · subst h5; decide
  by_cases h6 : b = [120, 100, 105, 103, 105, 116]
  · subst h6; decide
  by_cases h7 : b = [98, 108, 97, 110, 107]
  · subst h7; decide
  by_cases h8 : b = [115, 112, 97, 99, 101]
  · subst h8; decide
  by_cases h9 : b = [112, 117, 110, 99, 116]
  · subst h9; decide
  by_cases h10 : b = [112, 114, 105, 110, 116]
  · subst h10; decide
  by_cases h11 : b = [99, 110, 116, 114, 108]
  · subst h11; decide
  by_cases h12 : b = [97, 110, 121]
  · subst h12; decide
  · rw [if_neg h0, if_neg h1, if_neg h2, if_neg h3, if_neg h4, if_neg h5, if_neg h6, if_neg h7, if_neg h8, if_neg h9, if_neg h10, if_neg h11, if_neg h12] at h
    cases h
theorem cut_at : ∀ (b y : List UInt8), (58 : UInt8) ∉ b → cutAt (b ++ 58 :: 93 :: y) = some b
  | [], y, _ => by rw [List.nil_append, cutAt_cons, if_pos (by rw [pre_cons2]; rfl)]
  | c :: b, y, h => by
    rw [List.cons_append, cutAt_cons, if_neg, cut_at b y (fun hm => h (by simp [hm]))]; · rfl
    intro hp
    obtain ⟨r, hr⟩ := pre_hd2 hp
    injection hr with h1 _
    exact h (by simp [h1])
/-- A name of n bytes stands at the text's beginning, with its end. -/
def nameAt (u : List UInt8) (n : Nat) : Option (BitVec 256) := if pre [58, 93] (u.drop n) then namedS (u.take n) else none
theorem nameAt_some {u : List UInt8} {n : Nat} {s : BitVec 256} (h : nameAt u n = some s) : cutAt u = some (u.take n) ∧ namedS (u.take n) = some s ∧ (u.take n).length = n := by
  unfold nameAt at h
  split at h
  · rename_i hp
    obtain ⟨r, hr⟩ := pre_hd2 hp
    have hn : n < u.length := by
      rcases Nat.lt_or_ge n u.length with h' | h'
      · exact h'
      · rw [List.drop_of_length_le h'] at hr; cases hr
    have hu : u = u.take n ++ 58 :: 93 :: r := by rw [← hr, List.take_append_drop]
    refine ⟨?_, h, by rw [List.length_take]; omega⟩
    conv => lhs; rw [hu]
    exact cut_at _ _ (named_is h).1
  · cases h
theorem nameAt_none {u : List UInt8} (h : ∀ n, 1 ≤ n → n < 8 → nameAt u n = none) : ∀ b, cutAt u = some b → namedS b = none := by
  intro b hb
  cases hs : namedS b with
  | none => rfl
  | some s =>
    obtain ⟨r, hr, _⟩ := cutAt_app u b hb
    obtain ⟨_, h1, h6⟩ := named_is hs
    have := h b.length h1 (by omega)
    unfold nameAt at this
    rw [hr, List.drop_left, if_pos (by rw [pre_cons2]; rfl), List.take_left, hs] at this
    cases this

end Go.Proofs.YtihjmeoklbmnmaaGreatDoor

/- bolterref3: item, where no name stands. No condition but a length's bound. -/
namespace Go.Proofs.YtihjmeoklbmnmaaGreatDoor
open Go Go.RowKit

def ItemEnd3 (p o : Nat) (t : List UInt8) (w : World) (x : Rd) (e : Ending) (w' : World) : Prop :=
  Kp p w w' ∧ match x with
    | .ok s r => e = .returned (.agg #[.int .u64 (wd s 0), .int .u64 (wd s 1), .int .u64 (wd s 2), .int .u64 (wd s 3)]) ∧ Rd3 w' p t (t.length - r.length) o none
    | .bad d r => ∃ (s : BitVec 256) (k : Nat), e = .returned (.agg #[.int .u64 (wd s 0), .int .u64 (wd s 1), .int .u64 (wd s 2), .int .u64 (wd s 3)]) ∧ k ≤ t.length ∧ Rd3 w' p t k o (some (d, t.length - r.length))
theorem has3_of (t s : List UInt8) (k : Nat) (b : Bool) (lit : ByteArray) (w : World) (hl : lit = st s) (h : pre s (t.drop k) = b) (hk : k ≤ t.length) (hs0 : 0 < s.length) (hs : (s.length : Int) ≤ 100) (hT : (t.length : Int) ≤ 4294967280) :
    Calls Tryz.prog 25 #[.string (st t), .int .i64 (k : Int), .string lit] w fun e w' => e = .returned (.bool b) ∧ Gr w w' := by
  subst hl h
  refine (has3_any t s k w (by omega) hs0 hs (by omega)).mono ?_
  rintro e w' ⟨rfl, rfl⟩
  exact ⟨rfl, Gr.refl _⟩

set_option maxRecDepth 100000 in
set_option maxHeartbeats 8000000 in
theorem item3_none (p k o : Nat) (t : List UInt8) (w : World) (h : Rd3 w p t k o none) (hT : (t.length : Int) ≤ 4294967280) (hk : k ≤ t.length) (hn : pre [91, 58] (t.drop k) = false) (hc : charP (t.drop k) = none) :
    Calls Tryz.prog 28 #[.pointer (some ⟨p, 0, none⟩)] w (ItemEnd3 p o t w (.bad false (t.drop k))) := by
  have H0 := Lib.hid h
  have lp0 := boxAt.lt h (Nat.succ_pos _)
  have HH := Lib.hid (fun w => has3_of t [91, 58] k false { data := #[91, 58] } w rfl hn hk (by decide) (by decide) hT)
  have HK := Lib.hid hk
  have HC := Lib.hid (fun w (h : Rd3 w p t k o none) => char3_any p k o t w h hT hk)
  have HN := Lib.hid hc
  clear hn hc hk hT
  go_enter Tryz.func28, Tryz.ntmps28
  go_wp2_with fail
  refine name_world (fun W hW => ?_)
  have x2 : boxAt W w.heap.size [.int .u64 0, .int .u64 0, .int .u64 0, .int .u64 0] := boxAt.new _ _ hW
  have hg : Gr w W := Gr.of_alloc hW
  clear hW
  have h0 : boxAt W p _ := boxAt.later H0.out hg
  have c_x0 := h0.cell 0 _ rfl
  have c_x1 := h0.cell 1 _ rfl
  have c_x2 := h0.cell 2 _ rfl
  have c_x3 := h0.cell 3 _ rfl
  have c_x4 := h0.cell 4 _ rfl
  have c_x5 := h0.cell 5 _ rfl
  have c_x6 := h0.cell 6 _ rfl
  have c_x7 := h0.cell 7 _ rfl
  have m_x0 := h0.mark 0 _ rfl
  have m_x1 := h0.mark 1 _ rfl
  have m_x2 := h0.mark 2 _ rfl
  have m_x3 := h0.mark 3 _ rfl
  have m_x4 := h0.mark 4 _ rfl
  have m_x5 := h0.mark 5 _ rfl
  have m_x6 := h0.mark 6 _ rfl
  have m_x7 := h0.mark 7 _ rfl
  have l_x := h0.lt (Nat.succ_pos _)
  refine wp_region_G (.take 0 (.take 1 (.take 2 (.take 3 (.take 4 (.take 5 (.take 6 (.take 7 (.run 8 false .nil))))))))) (by kernel_rfl) (by kernel_rfl) ?_
  simp only [pickOps, nthOp]
  intro wq hG
  repeat (first | (refine wpG_skip_take ?_ ?_; (focus rfl); try simp only [Act.put, List.setIfInBounds_toArray, List.set_cons_zero, List.set_cons_succ]) | (refine wpG_skip_run ?_ ?_; (focus rfl); try simp only [Act.put, List.setIfInBounds_toArray, List.set_cons_zero, List.set_cons_succ]) | (refine wpG_take ?_ ?_; (focus rfl); apply Exists.intro; refine ⟨fun w' hw' => ?_, ?_⟩; (focus (have hc := Gr.cells hw'; go_simp; (try rfl); done)); try simp only [Act.put, List.setIfInBounds_toArray, List.set_cons_zero, List.set_cons_succ]) | (refine wpG_run ?_ (fun K hK => ?_); (focus rfl); go_simp; (first | (go_at_call 25; (with_reducible refine (HH.out _).mono ?_); rintro e wq ⟨rfl, hb⟩)); (try dsimp only); replace hG := hG.trans hb; refine hK.out _ _ hG ?_; clear hK K hb; try simp only [Act.put, List.setIfInBounds_toArray, List.set_cons_zero, List.set_cons_succ]))
  refine wpG_done ?_
  clear c_x0 c_x1 c_x2 c_x3 c_x4 c_x5 c_x6 c_x7 m_x0 m_x1 m_x2 m_x3 m_x4 m_x5 m_x6 m_x7 l_x
  replace x2 := x2.later hG
  have hgq := hg.trans hG
  have h1 : Rd3 wq p t k o none := boxAt.later H0.out hgq
  go_wp2_with fail
  go_at_call 48
  refine (HC.out wq h1).mono ?_
  rintro e w2 ⟨hK, hm⟩
  rw [HN.out] at hm
  obtain ⟨rfl, hR⟩ := hm
  have hne : w.heap.size ≠ p := by omega
  replace x2 := x2.kept hK hne (Nat.succ_pos _)
  clear hG hg h0
  go_wp2_with fail
  go_at_call 12
  refine (ok3_any p k o t (some (false, k)) w2 hR).mono ?_; rintro e w3 ⟨rfl, hb3⟩
  replace x2 := x2.later hb3
  have hK3 := (Kp.gr hgq).trans (hK.trans (Kp.gr hb3))
  have hR3 := boxAt.later hR hb3
  have c_r0 := x2.cell 0 _ rfl
  have c_r1 := x2.cell 1 _ rfl
  have c_r2 := x2.cell 2 _ rfl
  have c_r3 := x2.cell 3 _ rfl
  have m_r0 := x2.mark 0 _ rfl
  have m_r1 := x2.mark 1 _ rfl
  have m_r2 := x2.mark 2 _ rfl
  have m_r3 := x2.mark 3 _ rfl
  have l_r := x2.lt (Nat.succ_pos _)
  go_wp2_with fail
  refine name_end (fun W9 hW => ?_)
  have hK9 : Kp p w W9 := by subst hW; exact hK3.put4 (Nat.le_refl _) ..
  have yb : boxAt W9 w.heap.size [.int .u64 0, .int .u64 0, .int .u64 0, .int .u64 0] := by rw [hW]; exact x2.put4 _ _ _ _
  have hR9 : Rd3 W9 p t k o (some (false, k)) := by
    rw [hW]
    exact (((boxAt.far hR3 ⟨w.heap.size, 0, none⟩ _ hne).far ⟨w.heap.size, 1, none⟩ _ hne).far ⟨w.heap.size, 2, none⟩ _ hne).far ⟨w.heap.size, 3, none⟩ _ hne
  clear hW
  clear c_r0 c_r1 c_r2 c_r3 m_r0 m_r1 m_r2 m_r3 l_r
  have c_q0 := yb.cell 0 _ rfl
  have c_q1 := yb.cell 1 _ rfl
  have c_q2 := yb.cell 2 _ rfl
  have c_q3 := yb.cell 3 _ rfl
  have m_q0 := yb.mark 0 _ rfl
  have m_q1 := yb.mark 1 _ rfl
  have m_q2 := yb.mark 2 _ rfl
  have m_q3 := yb.mark 3 _ rfl
  have l_q := yb.lt (Nat.succ_pos _)
  refine bodyPost_ret (v := .agg #[.int .u64 (wd emptyS 0), .int .u64 (wd emptyS 1), .int .u64 (wd emptyS 2), .int .u64 (wd emptyS 3)]) (by simp [results, Tryz.results28, go_sem, c_q0, c_q1, c_q2, c_q3, wd_zero]) rfl ⟨hK9, ?_⟩
  have hk := HK.out
  have e : t.length - (t.drop k).length = k := by rw [List.length_drop]; omega
  refine ⟨emptyS, k, rfl, hk, ?_⟩
  rw [e]
  exact hR9

end Go.Proofs.YtihjmeoklbmnmaaGreatDoor

/- bolterref3: item, one character. No condition but a length's bound. -/
namespace Go.Proofs.YtihjmeoklbmnmaaGreatDoor
open Go Go.RowKit

theorem withE (lo : UInt8) (w : World) :
    Calls Tryz.prog 46 #[.agg #[.int .u64 (wd emptyS 0), .int .u64 (wd emptyS 1), .int .u64 (wd emptyS 2), .int .u64 (wd emptyS 3)], .int .i64 (lo.toNat : Int)] w fun e w' => e = .returned (.agg #[.int .u64 (wd ((ofList [lo])) 0), .int .u64 (wd ((ofList [lo])) 1), .int .u64 (wd ((ofList [lo])) 2), .int .u64 (wd ((ofList [lo])) 3)]) ∧ Gr w w' :=
  withI emptyS (ofList [lo]) lo.toNat (lo.toNat : Int) w rfl lo.toNat_lt (by rw [ofList_one, emptyS_or])

set_option maxRecDepth 100000 in
set_option maxHeartbeats 8000000 in
theorem item3_one (p k o j : Nat) (t : List UInt8) (lo : UInt8) (b1 b2 : Bool) (w : World) (h : Rd3 w p t k o none) (hT : (t.length : Int) ≤ 4294967280) (hk : k ≤ t.length) (hj : j ≤ t.length) (hn : pre [91, 58] (t.drop k) = false) (hc : charP (t.drop k) = some (lo, t.drop j))
    (h1 : pre [45] (t.drop j) = b1) (h2 : pre [45, 45] (t.drop j) = b2) (h12 : b1 = false ∨ b1 = true ∧ b2 = true) :
    Calls Tryz.prog 28 #[.pointer (some ⟨p, 0, none⟩)] w (ItemEnd3 p o t w (.ok (ofList [lo]) (t.drop j))) := by
  have H0 := Lib.hid h
  have lp0 := boxAt.lt h (Nat.succ_pos _)
  have HH := Lib.hid (fun w => has3_of t [91, 58] k false { data := #[91, 58] } w rfl hn hk (by decide) (by decide) hT)
  have HD1 := Lib.hid (fun w => has3_of t [45] j b1 { data := #[45] } w rfl h1 hj (by decide) (by decide) hT)
  have HD2 := Lib.hid (fun w => has3_of t [45, 45] j b2 { data := #[45, 45] } w rfl h2 hj (by decide) (by decide) hT)
  have HK := Lib.hid hk
  have HJ := Lib.hid hj
  have HC := Lib.hid (fun w (h : Rd3 w p t k o none) => char3_any p k o t w h hT hk)
  have HN := Lib.hid hc
  have HW := Lib.hid (fun w => by have := withE lo w; simp only [wd_zero] at this; exact this)
  have lo1 : (0 : Int) ≤ (lo.toNat : Int) := Int.natCast_nonneg _
  have lo2 : (lo.toNat : Int) < 256 := by have := lo.toNat_lt; omega
  clear hn hc hk hj hT h1 h2
  rcases h12 with rfl | ⟨rfl, rfl⟩
  all_goals
    go_enter Tryz.func28, Tryz.ntmps28
    go_wp2_with fail
    refine name_world (fun W hW => ?_)
    have x2 : boxAt W w.heap.size [.int .u64 0, .int .u64 0, .int .u64 0, .int .u64 0] := boxAt.new _ _ hW
    have hg : Gr w W := Gr.of_alloc hW
    clear hW
    have h0 : boxAt W p _ := boxAt.later H0.out hg
    have c_x0 := h0.cell 0 _ rfl
    have c_x1 := h0.cell 1 _ rfl
    have c_x2 := h0.cell 2 _ rfl
    have c_x3 := h0.cell 3 _ rfl
    have c_x4 := h0.cell 4 _ rfl
    have c_x5 := h0.cell 5 _ rfl
    have c_x6 := h0.cell 6 _ rfl
    have c_x7 := h0.cell 7 _ rfl
    have m_x0 := h0.mark 0 _ rfl
    have m_x1 := h0.mark 1 _ rfl
    have m_x2 := h0.mark 2 _ rfl
    have m_x3 := h0.mark 3 _ rfl
    have m_x4 := h0.mark 4 _ rfl
    have m_x5 := h0.mark 5 _ rfl
    have m_x6 := h0.mark 6 _ rfl
    have m_x7 := h0.mark 7 _ rfl
    have l_x := h0.lt (Nat.succ_pos _)
    refine wp_region_G (.take 0 (.take 1 (.take 2 (.take 3 (.take 4 (.take 5 (.take 6 (.take 7 (.run 8 false .nil))))))))) (by kernel_rfl) (by kernel_rfl) ?_
    simp only [pickOps, nthOp]
    intro wq hG
    repeat (first | (refine wpG_skip_take ?_ ?_; (focus rfl); try simp only [Act.put, List.setIfInBounds_toArray, List.set_cons_zero, List.set_cons_succ]) | (refine wpG_skip_run ?_ ?_; (focus rfl); try simp only [Act.put, List.setIfInBounds_toArray, List.set_cons_zero, List.set_cons_succ]) | (refine wpG_take ?_ ?_; (focus rfl); apply Exists.intro; refine ⟨fun w' hw' => ?_, ?_⟩; (focus (have hc := Gr.cells hw'; go_simp; (try rfl); done)); try simp only [Act.put, List.setIfInBounds_toArray, List.set_cons_zero, List.set_cons_succ]) | (refine wpG_run ?_ (fun K hK => ?_); (focus rfl); go_simp; (first | (go_at_call 25; (with_reducible refine (HH.out _).mono ?_); rintro e wq ⟨rfl, hb⟩)); (try dsimp only); replace hG := hG.trans hb; refine hK.out _ _ hG ?_; clear hK K hb; try simp only [Act.put, List.setIfInBounds_toArray, List.set_cons_zero, List.set_cons_succ]))
    refine wpG_done ?_
    clear c_x0 c_x1 c_x2 c_x3 c_x4 c_x5 c_x6 c_x7 m_x0 m_x1 m_x2 m_x3 m_x4 m_x5 m_x6 m_x7 l_x
    replace x2 := x2.later hG
    have hgq := hg.trans hG
    have h1 : Rd3 wq p t k o none := boxAt.later H0.out hgq
    go_wp2_with fail
    go_at_call 48
    refine (HC.out wq h1).mono ?_
    rintro e w2 ⟨hK, hm⟩
    rw [HN.out] at hm
    obtain ⟨rfl, hR⟩ := hm
    rw [show t.length - (t.drop j).length = j by rw [List.length_drop]; have := HJ.out; omega] at hR
    have hne : w.heap.size ≠ p := by omega
    replace x2 := x2.kept hK hne (Nat.succ_pos _)
    clear hG hg h0
    go_wp2_with fail
    go_at_call 12
    refine (ok3_any p j o t none w2 hR).mono ?_; rintro e w3 ⟨rfl, hb3⟩
    replace x2 := x2.later hb3
    have hK3 := (Kp.gr hgq).trans (hK.trans (Kp.gr hb3))
    have hR3 := boxAt.later hR hb3
    clear hb3 hK hgq
    go_wp2_with fail
    have c_x0 := hR3.cell 0 _ rfl
    have c_x1 := hR3.cell 1 _ rfl
    have c_x2 := hR3.cell 2 _ rfl
    have c_x3 := hR3.cell 3 _ rfl
    have c_x4 := hR3.cell 4 _ rfl
    have c_x5 := hR3.cell 5 _ rfl
    have c_x6 := hR3.cell 6 _ rfl
    have c_x7 := hR3.cell 7 _ rfl
    have m_x0 := hR3.mark 0 _ rfl
    have m_x1 := hR3.mark 1 _ rfl
    have m_x2 := hR3.mark 2 _ rfl
    have m_x3 := hR3.mark 3 _ rfl
    have m_x4 := hR3.mark 4 _ rfl
    have m_x5 := hR3.mark 5 _ rfl
    have m_x6 := hR3.mark 6 _ rfl
    have m_x7 := hR3.mark 7 _ rfl
    have l_x := hR3.lt (Nat.succ_pos _)
    refine wp_region_G (.take 0 (.take 1 (.take 2 (.take 3 (.take 4 (.take 5 (.take 6 (.take 7 (.run 8 false (.take 9 (.take 10 (.take 11 (.take 12 (.take 13 (.take 14 (.take 15 (.take 16 (.take 17 (.run 18 false (.take 19 (.take 20 .nil))))))))))))))))))))) (by kernel_rfl) (by kernel_rfl) ?_
    simp only [pickOps, nthOp]
    intro wq hG
    repeat (first | (refine wpG_skip_take ?_ ?_; (focus rfl); try simp only [Act.put, List.setIfInBounds_toArray, List.set_cons_zero, List.set_cons_succ]) | (refine wpG_skip_run ?_ ?_; (focus rfl); try simp only [Act.put, List.setIfInBounds_toArray, List.set_cons_zero, List.set_cons_succ]) | (refine wpG_take ?_ ?_; (focus rfl); apply Exists.intro; refine ⟨fun w' hw' => ?_, ?_⟩; (focus (have hc := Gr.cells hw'; go_simp; (try rfl); done)); try simp only [Act.put, List.setIfInBounds_toArray, List.set_cons_zero, List.set_cons_succ]) | (refine wpG_run ?_ (fun K hK => ?_); (focus rfl); go_simp; (first | (first | (go_at_call 25; (with_reducible refine (HD1.out _).mono ?_); rintro e wq ⟨rfl, hb⟩) | (go_at_call 25; (with_reducible refine (HD2.out _).mono ?_); rintro e wq ⟨rfl, hb⟩))); (try dsimp only); replace hG := hG.trans hb; refine hK.out _ _ hG ?_; clear hK K hb; try simp only [Act.put, List.setIfInBounds_toArray, List.set_cons_zero, List.set_cons_succ]))
    refine wpG_done ?_
    clear c_x0 c_x1 c_x2 c_x3 c_x4 c_x5 c_x6 c_x7 m_x0 m_x1 m_x2 m_x3 m_x4 m_x5 m_x6 m_x7 l_x
    replace x2 := x2.later hG
    have hR4 := boxAt.later hR3 hG
    have hK4 := hK3.trans (Kp.gr hG)
    go_wp2_with fail
    go_at_call 46
    refine (HW.out _).mono ?_; rintro e w4 ⟨rfl, hb4⟩
    replace x2 := x2.later hb4
    have hR5 := boxAt.later hR4 hb4
    have hK5 := hK4.trans (Kp.gr hb4)
    clear hb4 hK4 hR4 hG hK3 hR3
    have c_r0 := x2.cell 0 _ rfl
    have c_r1 := x2.cell 1 _ rfl
    have c_r2 := x2.cell 2 _ rfl
    have c_r3 := x2.cell 3 _ rfl
    have m_r0 := x2.mark 0 _ rfl
    have m_r1 := x2.mark 1 _ rfl
    have m_r2 := x2.mark 2 _ rfl
    have m_r3 := x2.mark 3 _ rfl
    have l_r := x2.lt (Nat.succ_pos _)
    go_wp2_with fail
    refine name_end (fun W9 hW => ?_)
    have hK9 : Kp p w W9 := by subst hW; exact hK5.put4 (Nat.le_refl _) ..
    have yb : boxAt W9 w.heap.size [.int .u64 (wd (ofList [lo]) 0), .int .u64 (wd (ofList [lo]) 1), .int .u64 (wd (ofList [lo]) 2), .int .u64 (wd (ofList [lo]) 3)] := by rw [hW]; exact x2.put4 _ _ _ _
    have hR9 : Rd3 W9 p t j o none := by
      rw [hW]
      exact (((boxAt.far hR5 ⟨w.heap.size, 0, none⟩ _ hne).far ⟨w.heap.size, 1, none⟩ _ hne).far ⟨w.heap.size, 2, none⟩ _ hne).far ⟨w.heap.size, 3, none⟩ _ hne
    clear hW
    clear c_r0 c_r1 c_r2 c_r3 m_r0 m_r1 m_r2 m_r3 l_r
    have c_q0 := yb.cell 0 _ rfl
    have c_q1 := yb.cell 1 _ rfl
    have c_q2 := yb.cell 2 _ rfl
    have c_q3 := yb.cell 3 _ rfl
    have m_q0 := yb.mark 0 _ rfl
    have m_q1 := yb.mark 1 _ rfl
    have m_q2 := yb.mark 2 _ rfl
    have m_q3 := yb.mark 3 _ rfl
    have l_q := yb.lt (Nat.succ_pos _)
    refine bodyPost_ret (v := .agg #[.int .u64 (wd ((ofList [lo])) 0), .int .u64 (wd ((ofList [lo])) 1), .int .u64 (wd ((ofList [lo])) 2), .int .u64 (wd ((ofList [lo])) 3)]) (by simp [results, Tryz.results28, go_sem, c_q0, c_q1, c_q2, c_q3]) rfl ⟨hK9, rfl, ?_⟩
    rw [show t.length - (t.drop j).length = j by rw [List.length_drop]; have := HJ.out; omega]
    exact hR9

end Go.Proofs.YtihjmeoklbmnmaaGreatDoor

/- bolterref3: item, two characters. No condition but a length's bound. -/
namespace Go.Proofs.YtihjmeoklbmnmaaGreatDoor
open Go Go.RowKit

set_option maxRecDepth 100000 in
set_option maxHeartbeats 8000000 in
theorem item3_two (p k o j : Nat) (t : List UInt8) (lo : UInt8) (w : World) (h : Rd3 w p t k o none) (hT : (t.length : Int) ≤ 4294967280) (hk : k ≤ t.length) (hj : j + 1 ≤ t.length) (hn : pre [91, 58] (t.drop k) = false) (hc : charP (t.drop k) = some (lo, t.drop j))
    (Y : Rd) (hY : (match charP (t.drop (j + 1)) with | none => .bad false (t.drop (j + 1)) | some (hi, q) => if hi.toNat < lo.toNat then .bad false (t.drop (j + 1)) else .ok (rangeSet lo.toNat hi.toNat) q) = Y) (h1 : pre [45] (t.drop j) = true) (h2 : pre [45, 45] (t.drop j) = false) :
    Calls Tryz.prog 28 #[.pointer (some ⟨p, 0, none⟩)] w (ItemEnd3 p o t w Y) := by
  have H0 := Lib.hid h
  have lp0 := boxAt.lt h (Nat.succ_pos _)
  have HH := Lib.hid (fun w => has3_of t [91, 58] k false { data := #[91, 58] } w rfl hn hk (by decide) (by decide) hT)
  have HD1 := Lib.hid (fun w => has3_of t [45] j true { data := #[45] } w rfl h1 (by omega) (by decide) (by decide) hT)
  have HD2 := Lib.hid (fun w => has3_of t [45, 45] j false { data := #[45, 45] } w rfl h2 (by omega) (by decide) (by decide) hT)
  have HK := Lib.hid hk
  have HJ := Lib.hid hj
  have HC := Lib.hid (fun w (h : Rd3 w p t k o none) => char3_any p k o t w h hT hk)
  have HN := Lib.hid hc
  have HC2 := Lib.hid (fun w (h : Rd3 w p t (j + 1) o none) => char3_any p (j + 1) o t w h hT hj)
  have hw1 : IntKind.i64.wrap ((j : Int) + 1) = ((j + 1 : Nat) : Int) := by rw [IntWalk.i64_in _ (by omega)]; omega
  obtain ⟨j1, hj1⟩ : ∃ x, j + 1 = x := ⟨_, rfl⟩
  rw [hj1] at HC2 hw1 HJ
  rw [hj1] at hY
  have HY := Lib.hid hY
  have lo1 : (0 : Int) ≤ (lo.toNat : Int) := Int.natCast_nonneg _
  have lo2 : (lo.toNat : Int) < 256 := by have := lo.toNat_lt; omega
  clear hn hc hk hj hT h1 h2 hY
  go_enter Tryz.func28, Tryz.ntmps28
  go_wp2_with fail
  refine name_world (fun W hW => ?_)
  have x2 : boxAt W w.heap.size [.int .u64 0, .int .u64 0, .int .u64 0, .int .u64 0] := boxAt.new _ _ hW
  have hg : Gr w W := Gr.of_alloc hW
  clear hW
  have h0 : boxAt W p _ := boxAt.later H0.out hg
  have c_x0 := h0.cell 0 _ rfl
  have c_x1 := h0.cell 1 _ rfl
  have c_x2 := h0.cell 2 _ rfl
  have c_x3 := h0.cell 3 _ rfl
  have c_x4 := h0.cell 4 _ rfl
  have c_x5 := h0.cell 5 _ rfl
  have c_x6 := h0.cell 6 _ rfl
  have c_x7 := h0.cell 7 _ rfl
  have m_x0 := h0.mark 0 _ rfl
  have m_x1 := h0.mark 1 _ rfl
  have m_x2 := h0.mark 2 _ rfl
  have m_x3 := h0.mark 3 _ rfl
  have m_x4 := h0.mark 4 _ rfl
  have m_x5 := h0.mark 5 _ rfl
  have m_x6 := h0.mark 6 _ rfl
  have m_x7 := h0.mark 7 _ rfl
  have l_x := h0.lt (Nat.succ_pos _)
  refine wp_region_G (.take 0 (.take 1 (.take 2 (.take 3 (.take 4 (.take 5 (.take 6 (.take 7 (.run 8 false .nil))))))))) (by kernel_rfl) (by kernel_rfl) ?_
  simp only [pickOps, nthOp]
  intro wq hG
  repeat (first | (refine wpG_skip_take ?_ ?_; (focus rfl); try simp only [Act.put, List.setIfInBounds_toArray, List.set_cons_zero, List.set_cons_succ]) | (refine wpG_skip_run ?_ ?_; (focus rfl); try simp only [Act.put, List.setIfInBounds_toArray, List.set_cons_zero, List.set_cons_succ]) | (refine wpG_take ?_ ?_; (focus rfl); apply Exists.intro; refine ⟨fun w' hw' => ?_, ?_⟩; (focus (have hc := Gr.cells hw'; go_simp; (try rfl); done)); try simp only [Act.put, List.setIfInBounds_toArray, List.set_cons_zero, List.set_cons_succ]) | (refine wpG_run ?_ (fun K hK => ?_); (focus rfl); go_simp; (first | (go_at_call 25; (with_reducible refine (HH.out _).mono ?_); rintro e wq ⟨rfl, hb⟩)); (try dsimp only); replace hG := hG.trans hb; refine hK.out _ _ hG ?_; clear hK K hb; try simp only [Act.put, List.setIfInBounds_toArray, List.set_cons_zero, List.set_cons_succ]))
  refine wpG_done ?_
  clear c_x0 c_x1 c_x2 c_x3 c_x4 c_x5 c_x6 c_x7 m_x0 m_x1 m_x2 m_x3 m_x4 m_x5 m_x6 m_x7 l_x
  replace x2 := x2.later hG
  have hgq := hg.trans hG
  have h1 : Rd3 wq p t k o none := boxAt.later H0.out hgq
  go_wp2_with fail
  go_at_call 48
  refine (HC.out wq h1).mono ?_
  rintro e w2 ⟨hK, hm⟩
  rw [HN.out] at hm
  obtain ⟨rfl, hR⟩ := hm
  rw [show t.length - (t.drop j).length = j by rw [List.length_drop]; have := HJ.out; have := hj1; omega] at hR
  have hne : w.heap.size ≠ p := by omega
  replace x2 := x2.kept hK hne (Nat.succ_pos _)
  clear hG hg h0
  go_wp2_with fail
  go_at_call 12
  refine (ok3_any p j o t none w2 hR).mono ?_; rintro e w3 ⟨rfl, hb3⟩
  replace x2 := x2.later hb3
  have hK3 := (Kp.gr hgq).trans (hK.trans (Kp.gr hb3))
  have hR3 := boxAt.later hR hb3
  clear hb3 hK hgq
  go_wp2_with fail
  have c_x0 := hR3.cell 0 _ rfl
  have c_x1 := hR3.cell 1 _ rfl
  have c_x2 := hR3.cell 2 _ rfl
  have c_x3 := hR3.cell 3 _ rfl
  have c_x4 := hR3.cell 4 _ rfl
  have c_x5 := hR3.cell 5 _ rfl
  have c_x6 := hR3.cell 6 _ rfl
  have c_x7 := hR3.cell 7 _ rfl
  have m_x0 := hR3.mark 0 _ rfl
  have m_x1 := hR3.mark 1 _ rfl
  have m_x2 := hR3.mark 2 _ rfl
  have m_x3 := hR3.mark 3 _ rfl
  have m_x4 := hR3.mark 4 _ rfl
  have m_x5 := hR3.mark 5 _ rfl
  have m_x6 := hR3.mark 6 _ rfl
  have m_x7 := hR3.mark 7 _ rfl
  have l_x := hR3.lt (Nat.succ_pos _)
  refine wp_region_G (.take 0 (.take 1 (.take 2 (.take 3 (.take 4 (.take 5 (.take 6 (.take 7 (.run 8 false (.take 9 (.take 10 (.take 11 (.take 12 (.take 13 (.take 14 (.take 15 (.take 16 (.take 17 (.run 18 false (.take 19 (.take 20 .nil))))))))))))))))))))) (by kernel_rfl) (by kernel_rfl) ?_
  simp only [pickOps, nthOp]
  intro wq hG
  repeat (first | (refine wpG_skip_take ?_ ?_; (focus rfl); try simp only [Act.put, List.setIfInBounds_toArray, List.set_cons_zero, List.set_cons_succ]) | (refine wpG_skip_run ?_ ?_; (focus rfl); try simp only [Act.put, List.setIfInBounds_toArray, List.set_cons_zero, List.set_cons_succ]) | (refine wpG_take ?_ ?_; (focus rfl); apply Exists.intro; refine ⟨fun w' hw' => ?_, ?_⟩; (focus (have hc := Gr.cells hw'; go_simp; (try rfl); done)); try simp only [Act.put, List.setIfInBounds_toArray, List.set_cons_zero, List.set_cons_succ]) | (refine wpG_run ?_ (fun K hK => ?_); (focus rfl); go_simp; (first | (first | (go_at_call 25; (with_reducible refine (HD1.out _).mono ?_); rintro e wq ⟨rfl, hb⟩) | (go_at_call 25; (with_reducible refine (HD2.out _).mono ?_); rintro e wq ⟨rfl, hb⟩))); (try dsimp only); replace hG := hG.trans hb; refine hK.out _ _ hG ?_; clear hK K hb; try simp only [Act.put, List.setIfInBounds_toArray, List.set_cons_zero, List.set_cons_succ]))
  refine wpG_done ?_
  clear c_x0 c_x1 c_x2 c_x3 c_x4 c_x5 c_x6 c_x7 m_x0 m_x1 m_x2 m_x3 m_x4 m_x5 m_x6 m_x7 l_x
  replace x2 := x2.later hG
  have hR4 := boxAt.later hR3 hG
  have hK4 := hK3.trans (Kp.gr hG)
  have c_x0 := hR4.cell 0 _ rfl
  have c_x1 := hR4.cell 1 _ rfl
  have c_x2 := hR4.cell 2 _ rfl
  have c_x3 := hR4.cell 3 _ rfl
  have c_x4 := hR4.cell 4 _ rfl
  have c_x5 := hR4.cell 5 _ rfl
  have c_x6 := hR4.cell 6 _ rfl
  have c_x7 := hR4.cell 7 _ rfl
  have m_x0 := hR4.mark 0 _ rfl
  have m_x1 := hR4.mark 1 _ rfl
  have m_x2 := hR4.mark 2 _ rfl
  have m_x3 := hR4.mark 3 _ rfl
  have m_x4 := hR4.mark 4 _ rfl
  have m_x5 := hR4.mark 5 _ rfl
  have m_x6 := hR4.mark 6 _ rfl
  have m_x7 := hR4.mark 7 _ rfl
  have l_x := hR4.lt (Nat.succ_pos _)
  go_wp2_with fail
  go_at_call 48
  refine name_calls (fun WA hWA => ?_)
  have hRA : Rd3 WA p t j1 o none := by rw [hWA]; exact hR4.put 1 _ (by simp)
  have hKA : Kp p w WA := by rw [hWA]; exact hK4.at_p 1 _
  have xA := x2.far ⟨p, 1, none⟩ (.int .i64 (j1 : Int)) (fun h => hne h.symm)
  rw [← hWA] at xA
  clear hWA hR4 hK4 hR3 hK3 hG
  clear c_x0 c_x1 c_x2 c_x3 c_x4 c_x5 c_x6 c_x7 m_x0 m_x1 m_x2 m_x3 m_x4 m_x5 m_x6 m_x7 l_x
  have HL := HJ.out
  refine (HC2.out WA hRA).mono ?_
  rintro e w6 ⟨hK6, hm⟩
  replace xA := xA.kept hK6 hne (Nat.succ_pos _)
  replace hK6 := hKA.trans hK6
  have e1 : t.length - (t.drop j1).length = j1 := by rw [List.length_drop]; omega
  have HE1 := Lib.hid e1
  have HL := Lib.hid HL
  clear e1 hRA hKA
  cases hy : charP (t.drop j1) with
  | none =>
    rw [hy] at hm
    obtain ⟨rfl, hR6⟩ := hm
    have hYv : Rd.bad false (t.drop j1) = Y := by rw [← HY.out, hy]
    go_wp2_with fail
    go_at_call 12
    refine (ok3_any p _ o t (some (false, j1)) w6 hR6).mono ?_; rintro e w7 ⟨rfl, hb7⟩
    replace xA := xA.later hb7
    have hR7 := boxAt.later hR6 hb7
    have hK7 := hK6.trans (Kp.gr hb7)
    clear hb7
    go_wp2_with fail
    go_at_call 49
    refine (rngI lo.toNat 0 _ _ _ rfl (by rfl) lo.toNat_lt (by decide)).mono ?_; rintro e w8 ⟨rfl, hb8⟩
    replace xA := xA.later hb8
    have hR8 := boxAt.later hR7 hb8
    have hK8 := hK7.trans (Kp.gr hb8)
    clear hb8
    have c_r0 := xA.cell 0 _ rfl
    have c_r1 := xA.cell 1 _ rfl
    have c_r2 := xA.cell 2 _ rfl
    have c_r3 := xA.cell 3 _ rfl
    have m_r0 := xA.mark 0 _ rfl
    have m_r1 := xA.mark 1 _ rfl
    have m_r2 := xA.mark 2 _ rfl
    have m_r3 := xA.mark 3 _ rfl
    have l_r := xA.lt (Nat.succ_pos _)
    go_wp2_with fail
    refine name_end (fun W9 hW => ?_)
    have hK9 : Kp p w W9 := by subst hW; exact hK8.put4 (Nat.le_refl _) ..
    have yb : boxAt W9 w.heap.size [.int .u64 (wd (rangeSet lo.toNat 0) 0), .int .u64 (wd (rangeSet lo.toNat 0) 1), .int .u64 (wd (rangeSet lo.toNat 0) 2), .int .u64 (wd (rangeSet lo.toNat 0) 3)] := by rw [hW]; exact xA.put4 _ _ _ _
    have hR9 : Rd3 W9 p t (j1) o (some (false, j1)) := by
      rw [hW]
      exact (((boxAt.far hR8 ⟨w.heap.size, 0, none⟩ _ hne).far ⟨w.heap.size, 1, none⟩ _ hne).far ⟨w.heap.size, 2, none⟩ _ hne).far ⟨w.heap.size, 3, none⟩ _ hne
    clear hW
    clear c_r0 c_r1 c_r2 c_r3 m_r0 m_r1 m_r2 m_r3 l_r
    have c_q0 := yb.cell 0 _ rfl
    have c_q1 := yb.cell 1 _ rfl
    have c_q2 := yb.cell 2 _ rfl
    have c_q3 := yb.cell 3 _ rfl
    have m_q0 := yb.mark 0 _ rfl
    have m_q1 := yb.mark 1 _ rfl
    have m_q2 := yb.mark 2 _ rfl
    have m_q3 := yb.mark 3 _ rfl
    have l_q := yb.lt (Nat.succ_pos _)
    refine bodyPost_ret (v := .agg #[.int .u64 (wd ((rangeSet lo.toNat 0)) 0), .int .u64 (wd ((rangeSet lo.toNat 0)) 1), .int .u64 (wd ((rangeSet lo.toNat 0)) 2), .int .u64 (wd ((rangeSet lo.toNat 0)) 3)]) (by simp [results, Tryz.results28, go_sem, c_q0, c_q1, c_q2, c_q3]) rfl ?_
    rw [← hYv]
    exact ⟨hK9, _, j1, rfl, HL.out, by rw [HE1.out]; exact hR9⟩
  | some z =>
    obtain ⟨hi, q⟩ := z
    rw [hy] at hm
    obtain ⟨rfl, hR6⟩ := hm
    have hi1 : (0 : Int) ≤ (hi.toNat : Int) := Int.natCast_nonneg _
    have hi2 : (hi.toNat : Int) < 256 := by have := hi.toNat_lt; omega
    by_cases hl : hi.toNat < lo.toNat
    · have hYv : Rd.bad false (t.drop j1) = Y := by rw [← HY.out, hy]; exact (if_pos hl).symm
      have hl' : (hi.toNat : Int) < (lo.toNat : Int) := by omega
      have hl2 : decide ((hi.toNat : Int) < (lo.toNat : Int)) = true := decide_eq_true hl'
      clear hl
      go_wp2_with fail
      go_at_call 12
      refine (ok3_any p _ o t none w6 hR6).mono ?_; rintro e w7 ⟨rfl, hb7⟩
      replace xA := xA.later hb7
      have hR7 := boxAt.later hR6 hb7
      have hK7 := hK6.trans (Kp.gr hb7)
      clear hb7
      go_wp2_with fail
      go_at_call 26
      refine (refuse3_any p _ o j1 false t none w7 hR7).mono ?_; rintro e w7b ⟨rfl, hKb, hRb⟩
      replace hR7 := hRb
      replace hK7 := hK7.trans hKb
      replace xA := xA.kept hKb hne (Nat.succ_pos _)
      clear hRb hKb
      go_wp2_with fail
      go_at_call 49
      refine (rngI lo.toNat hi.toNat _ _ _ rfl (by rfl) lo.toNat_lt (by exact hi.toNat_lt)).mono ?_; rintro e w8 ⟨rfl, hb8⟩
      replace xA := xA.later hb8
      have hR8 := boxAt.later hR7 hb8
      have hK8 := hK7.trans (Kp.gr hb8)
      clear hb8
      have c_r0 := xA.cell 0 _ rfl
      have c_r1 := xA.cell 1 _ rfl
      have c_r2 := xA.cell 2 _ rfl
      have c_r3 := xA.cell 3 _ rfl
      have m_r0 := xA.mark 0 _ rfl
      have m_r1 := xA.mark 1 _ rfl
      have m_r2 := xA.mark 2 _ rfl
      have m_r3 := xA.mark 3 _ rfl
      have l_r := xA.lt (Nat.succ_pos _)
      go_wp2_with fail
      refine name_end (fun W9 hW => ?_)
      have hK9 : Kp p w W9 := by subst hW; exact hK8.put4 (Nat.le_refl _) ..
      have yb : boxAt W9 w.heap.size [.int .u64 (wd (rangeSet lo.toNat hi.toNat) 0), .int .u64 (wd (rangeSet lo.toNat hi.toNat) 1), .int .u64 (wd (rangeSet lo.toNat hi.toNat) 2), .int .u64 (wd (rangeSet lo.toNat hi.toNat) 3)] := by rw [hW]; exact xA.put4 _ _ _ _
      have hR9 : Rd3 W9 p t (t.length - q.length) o (some (false, j1)) := by
        rw [hW]
        exact (((boxAt.far hR8 ⟨w.heap.size, 0, none⟩ _ hne).far ⟨w.heap.size, 1, none⟩ _ hne).far ⟨w.heap.size, 2, none⟩ _ hne).far ⟨w.heap.size, 3, none⟩ _ hne
      clear hW
      clear c_r0 c_r1 c_r2 c_r3 m_r0 m_r1 m_r2 m_r3 l_r
      have c_q0 := yb.cell 0 _ rfl
      have c_q1 := yb.cell 1 _ rfl
      have c_q2 := yb.cell 2 _ rfl
      have c_q3 := yb.cell 3 _ rfl
      have m_q0 := yb.mark 0 _ rfl
      have m_q1 := yb.mark 1 _ rfl
      have m_q2 := yb.mark 2 _ rfl
      have m_q3 := yb.mark 3 _ rfl
      have l_q := yb.lt (Nat.succ_pos _)
      refine bodyPost_ret (v := .agg #[.int .u64 (wd ((rangeSet lo.toNat hi.toNat)) 0), .int .u64 (wd ((rangeSet lo.toNat hi.toNat)) 1), .int .u64 (wd ((rangeSet lo.toNat hi.toNat)) 2), .int .u64 (wd ((rangeSet lo.toNat hi.toNat)) 3)]) (by simp [results, Tryz.results28, go_sem, c_q0, c_q1, c_q2, c_q3]) rfl ?_
      rw [← hYv]
      exact ⟨hK9, _, t.length - q.length, rfl, Nat.sub_le _ _, by rw [HE1.out]; exact hR9⟩
    · have hYv : Rd.ok (rangeSet lo.toNat hi.toNat) q = Y := by rw [← HY.out, hy]; exact (if_neg hl).symm
      have hl' : ¬ (hi.toNat : Int) < (lo.toNat : Int) := by omega
      have hl2 : decide ((hi.toNat : Int) < (lo.toNat : Int)) = false := decide_eq_false hl'
      clear hl
      go_wp2_with fail
      go_at_call 12
      refine (ok3_any p _ o t none w6 hR6).mono ?_; rintro e w7 ⟨rfl, hb7⟩
      replace xA := xA.later hb7
      have hR7 := boxAt.later hR6 hb7
      have hK7 := hK6.trans (Kp.gr hb7)
      clear hb7
      go_wp2_with fail
      go_at_call 49
      refine (rngI lo.toNat hi.toNat _ _ _ rfl (by rfl) lo.toNat_lt (by exact hi.toNat_lt)).mono ?_; rintro e w8 ⟨rfl, hb8⟩
      replace xA := xA.later hb8
      have hR8 := boxAt.later hR7 hb8
      have hK8 := hK7.trans (Kp.gr hb8)
      clear hb8
      have c_r0 := xA.cell 0 _ rfl
      have c_r1 := xA.cell 1 _ rfl
      have c_r2 := xA.cell 2 _ rfl
      have c_r3 := xA.cell 3 _ rfl
      have m_r0 := xA.mark 0 _ rfl
      have m_r1 := xA.mark 1 _ rfl
      have m_r2 := xA.mark 2 _ rfl
      have m_r3 := xA.mark 3 _ rfl
      have l_r := xA.lt (Nat.succ_pos _)
      go_wp2_with fail
      refine name_end (fun W9 hW => ?_)
      have hK9 : Kp p w W9 := by subst hW; exact hK8.put4 (Nat.le_refl _) ..
      have yb : boxAt W9 w.heap.size [.int .u64 (wd (rangeSet lo.toNat hi.toNat) 0), .int .u64 (wd (rangeSet lo.toNat hi.toNat) 1), .int .u64 (wd (rangeSet lo.toNat hi.toNat) 2), .int .u64 (wd (rangeSet lo.toNat hi.toNat) 3)] := by rw [hW]; exact xA.put4 _ _ _ _
      have hR9 : Rd3 W9 p t (t.length - q.length) o (none) := by
        rw [hW]
        exact (((boxAt.far hR8 ⟨w.heap.size, 0, none⟩ _ hne).far ⟨w.heap.size, 1, none⟩ _ hne).far ⟨w.heap.size, 2, none⟩ _ hne).far ⟨w.heap.size, 3, none⟩ _ hne
      clear hW
      clear c_r0 c_r1 c_r2 c_r3 m_r0 m_r1 m_r2 m_r3 l_r
      have c_q0 := yb.cell 0 _ rfl
      have c_q1 := yb.cell 1 _ rfl
      have c_q2 := yb.cell 2 _ rfl
      have c_q3 := yb.cell 3 _ rfl
      have m_q0 := yb.mark 0 _ rfl
      have m_q1 := yb.mark 1 _ rfl
      have m_q2 := yb.mark 2 _ rfl
      have m_q3 := yb.mark 3 _ rfl
      have l_q := yb.lt (Nat.succ_pos _)
      refine bodyPost_ret (v := .agg #[.int .u64 (wd ((rangeSet lo.toNat hi.toNat)) 0), .int .u64 (wd ((rangeSet lo.toNat hi.toNat)) 1), .int .u64 (wd ((rangeSet lo.toNat hi.toNat)) 2), .int .u64 (wd ((rangeSet lo.toNat hi.toNat)) 3)]) (by simp [results, Tryz.results28, go_sem, c_q0, c_q1, c_q2, c_q3]) rfl ?_
      rw [← hYv]
      exact ⟨hK9, rfl, hR9⟩

end Go.Proofs.YtihjmeoklbmnmaaGreatDoor

/- bolterref3: item, where no name stands: the three texts joined. No condition but a length's bound. -/
namespace Go.Proofs.YtihjmeoklbmnmaaGreatDoor
open Go Go.RowKit

theorem item3_char (p k o : Nat) (t : List UInt8) (w : World) (h : Rd3 w p t k o none) (hT : (t.length : Int) ≤ 4294967280) (hk : k ≤ t.length) (hn : pre [91, 58] (t.drop k) = false) :
    Calls Tryz.prog 28 #[.pointer (some ⟨p, 0, none⟩)] w (ItemEnd3 p o t w (itemP (t.drop k))) := by
  unfold itemP
  rw [if_neg (by rw [hn]; decide)]
  cases hc : charP (t.drop k) with
  | none => exact item3_none p k o t w h hT hk hn hc
  | some z =>
    obtain ⟨lo, r⟩ := z
    obtain ⟨q0, hq1, hq2, rfl⟩ := charP_len hc
    rw [List.length_drop] at hq2
    rw [List.drop_drop] at hc ⊢
    obtain ⟨j, hj⟩ : ∃ j, k + q0 = j := ⟨_, rfl⟩
    rw [hj] at hc ⊢
    have hjt : j ≤ t.length := by omega
    dsimp only
    rw [List.drop_drop]
    cases h1 : pre [45] (t.drop j) with
    | false =>
      rw [if_neg (by simp)]
      exact item3_one p k o j t lo false _ w h hT hk hjt hn hc h1 rfl (.inl rfl)
    | true =>
      cases h2 : pre [45, 45] (t.drop j) with
      | true =>
        rw [if_neg (by simp)]
        exact item3_one p k o j t lo true true w h hT hk hjt hn hc h1 h2 (.inr ⟨rfl, rfl⟩)
      | false =>
        rw [if_pos (by simp)]
        have hl := pre_len h1
        rw [List.length_drop] at hl
        simp only [List.length_cons, List.length_nil] at hl
        exact item3_two p k o j t lo w h hT hk (by omega) hn hc _ rfl h1 h2

end Go.Proofs.YtihjmeoklbmnmaaGreatDoor
