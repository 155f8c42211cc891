/- Texts of mine, put together: N5A. No condition but what each says. -/
import Derived.Test.YtkkopdmemjncdaaGreatDoorPSpC
namespace Go.Proofs.YtkkopdmemjncdaaGreatDoor
open Go Go.RowKit
theorem
    dig5_any (c : UInt8) (w : World) : Calls Tryz.prog 97 #[.int .u8 (c.toNat : Int)] w fun e w' => e = .returned (.bool (digB c)) ∧ w' = w := by
 obtain ⟨k, hk⟩ : ∃ k, c.toNat = k := ⟨_, rfl⟩
 obtain ⟨b, hb⟩ : ∃ b, digB c = b := ⟨_, rfl⟩
 rw [hb]
 unfold digB at hb
 rw [hk] at hb ⊢
 have HB := Lib.hid hb
 clear hb hk
 by_cases h1 : 48 ≤ (k : Int)
 ·
  by_cases h2 : (k : Int) ≤ 57
  all_goals
   have HR : Hid (b = decide ((k : Int) ≤ 57)) := Lib.hid (by
    have := HB.out
    rw [← this]
    have h3 : 48 ≤ k := by omega
    simp only [h3, decide_true, Bool.true_and]
    exact decide_eq_decide.2 ⟨fun h => by omega, fun h => by omega⟩)
   go_enter Tryz.func97, Tryz.ntmps97
   go_wp2_with fail
   go_ret
   refine ⟨?_, rfl⟩
   rw [HR.out]; simp [h2]
 ·
  have HR : Hid (b = false) := Lib.hid (by have := HB.out; rw [← this]; have h3 : ¬ 48 ≤ k := (by omega); simp [h3])
  go_enter Tryz.func97, Tryz.ntmps97
  go_wp2_with fail
  go_ret
  refine ⟨?_, rfl⟩
  rw [HR.out]; rfl
set_option maxHeartbeats 2000000 in
theorem
    let5_any (c : UInt8) (w : World) : Calls Tryz.prog 96 #[.int .u8 (c.toNat : Int)] w fun e w' => e = .returned (.bool (letB c)) ∧ w' = w := by
 obtain ⟨k, hk⟩ : ∃ k, c.toNat = k := ⟨_, rfl⟩
 obtain ⟨b, hb⟩ : ∃ b, letB c = b := ⟨_, rfl⟩
 rw [hb]
 have key : (97 ≤ k ∧ k ≤ 122 ∧ b = true) ∨ (65 ≤ k ∧ k ≤ 90 ∧ b = true) ∨ (k = 95 ∧ b = true) ∨ ((k < 97 ∨ 122 < k) ∧ (k < 65 ∨ 90 < k) ∧ k ≠ 95 ∧ b = false) := by
  rw [← hb]; unfold letB; rw [hk]
  by_cases h1 : 97 ≤ k ∧ k ≤ 122
  · left; exact ⟨h1.1, h1.2, by simp [h1]⟩
  ·
   by_cases h2 : 65 ≤ k ∧ k ≤ 90
   · right; left; exact ⟨h2.1, h2.2, by simp [h2]⟩
   ·
    by_cases h3 : k = 95
    · right; right; left; exact ⟨h3, by simp [h3]⟩
    · right; right; right; exact ⟨by omega, by omega, h3, by simp; omega⟩
 rw [hk]
 clear hb hk
 rcases key with ⟨h1, h2, rfl⟩ | ⟨h1, h2, rfl⟩ | ⟨rfl, rfl⟩ | ⟨h1, h2, h3, rfl⟩
 ·
  have e1 : 97 ≤ (k : Int) := by omega
  have e2 : (k : Int) ≤ 122 := by omega
  clear h1 h2
  go_enter Tryz.func96, Tryz.ntmps96
  go_wp2_with fail
  go_ret
  exact ⟨rfl, rfl⟩
 ·
  have e1 : ¬ 97 ≤ (k : Int) := by omega
  have e2 : 65 ≤ (k : Int) := by omega
  have e3 : (k : Int) ≤ 90 := by omega
  clear h1 h2
  go_enter Tryz.func96, Tryz.ntmps96
  go_wp2_with fail
  go_ret
  exact ⟨rfl, rfl⟩
 ·
  go_enter Tryz.func96, Tryz.ntmps96
  go_wp2_with fail
  go_ret
  exact ⟨rfl, rfl⟩
 ·
  have e3 : ((k : Int) == 95) = false := by simp; omega
  have c1 : ¬ 97 ≤ (k : Int) ∨ ¬ (k : Int) ≤ 122 := by omega
  have c2 : ¬ 65 ≤ (k : Int) ∨ ¬ (k : Int) ≤ 90 := by omega
  have c0 : ¬ k = 95 := h3
  clear h1 h2 h3
  rcases c1 with c1 | c1 <;> rcases c2 with c2 | c2
  all_goals
   go_enter Tryz.func96, Tryz.ntmps96
   go_wp2_with fail
   try go_ret
   try exact ⟨rfl, rfl⟩
theorem nameB_cons5 {c : UInt8} {r : List UInt8} (h1 : r.length + 1 ≤ 32) (h2 : letB c = true) : nameB (c :: r) = (c :: r).all fun d => letB d || digB d := by
 rw [nameB, decide_eq_true h1, h2, List.all_cons, h2]; rfl
set_option maxRecDepth 100000 in
set_option maxHeartbeats 4000000 in
theorem
    name5_any (s : List UInt8) (w : World) (hs : s.length ≤ 9223372036854775807) : Calls Tryz.prog 62 #[.string (st s)] w fun e w' => e = .returned (.bool (nameB s)) ∧ w' = w := by
 have hsz : ((st s).size : Int) = (s.length : Int) := by rw [st_size]
 cases s with
 |
  nil =>
  have hz : (st []).size = 0 := rfl
  go_enter Tryz.func62, Tryz.ntmps62
  go_wp2_with fail
  go_ret
  exact ⟨rfl, rfl⟩
 |
  cons c r =>
  obtain ⟨R, hR⟩ : ∃ R, nameB (c :: r) = R := ⟨_, rfl⟩
  rw [hR]
  have HR := Lib.hid hR
  obtain ⟨s, hsd⟩ : ∃ s, s = c :: r := ⟨_, rfl⟩
  obtain ⟨n, hn⟩ : ∃ n, s.length = n := ⟨_, rfl⟩
  have hn1 : n = r.length + 1 := by rw [← hn, hsd]; rfl
  rw [← hsd] at hsz hs ⊢
  have h0 : s[0]? = some c := by rw [hsd]; rfl
  rw [hn] at hsz hs
  have HN := Lib.hid hn
  have hz : ((n : Int) == 0) = false := by rw [beq_eq_false_iff_ne]; omega
  have hz2 : ¬ n = 0 := by omega
  by_cases h32 : 32 < (n : Int)
  ·
   have HR2 := Lib.hid (show R = false by rw [← HR.out]; rw [nameB, decide_eq_false (by omega)]; rfl)
   clear hR hsd h0 hn hn1
   go_enter Tryz.func62, Tryz.ntmps62
   go_wp2_with fail
   go_ret
   exact ⟨ret_bool HR2.out.symm, rfl⟩
  have hat := fun w' => run_at (P := Tryz.prog) w' 9 s 0 c .i64 Tryz.underlying9 h0
  rw [show ((0 : Nat) : Int) = 0 from rfl] at hat
  have HL := Lib.hid (fun w => let5_any c w)
  obtain ⟨b, hb⟩ : ∃ b, letB c = b := ⟨_, rfl⟩
  rw [hb] at HL
  obtain ⟨m, hm⟩ : ∃ m, c.toNat = m := ⟨_, rfl⟩
  rw [hm] at HL hat
  cases b with
  |
   false =>
   have HR2 := Lib.hid (show R = false by rw [← HR.out]; rw [nameB, hb]; simp)
   clear hR hsd h0 hn hn1 hb hm
   go_enter Tryz.func62, Tryz.ntmps62
   go_wp2_with fail
   go_at_call 96
   (with_reducible refine (HL.out _).mono ?_); rintro e w1 ⟨rfl, rfl⟩
   go_wp2_with fail
   go_ret
   exact ⟨ret_bool HR2.out.symm, rfl⟩
  |
   true =>
   have HR2 := Lib.hid (show R = s.all fun d => letB d || digB d by rw [← HR.out, hsd]; exact nameB_cons5 (by omega) hb)
   clear hR hsd h0 hn hn1 hb hm
   go_enter Tryz.func62, Tryz.ntmps62
   go_wp2_with fail
   go_at_call 96
   (with_reducible refine (HL.out _).mono ?_); rintro e w1 ⟨rfl, rfl⟩
   go_wp2_with fail
   clear hat
   go_loopw [3] (fun i wr => ∃ k : Nat, k ≤ n ∧ i = .int .i64 (k : Int) ∧ w1 = wr ∧ Hid ((s.take k).all (fun d => letB d || digB d) = true)) (fun i _ => n - (intOf i).toNat)
   case atStart => exact ⟨0, Nat.zero_le _, rfl, rfl, Lib.hid rfl⟩
   case round =>
    obtain ⟨k, hk, rfl, rfl, HA⟩ := hrel
    by_cases hkl : k < n
    ·
     have hkI : (k : Int) < (n : Int) := by omega
     obtain ⟨x, hx⟩ : ∃ x, s[k]? = some x := ⟨_, List.getElem?_eq_getElem (by rw [HN.out]; exact hkl)⟩
     have hat := fun w' => run_at (P := Tryz.prog) w' 9 s k x .i64 Tryz.underlying9 hx
     have YES := Lib.hid (fun (y1 : (letB x || digB x) = true) => Lib.hid (show (s.take (k + 1)).all (fun d => letB d || digB d) = true by rw [all_take _ _ _ _ hx, HA.out, y1]; rfl))
     have NO := Lib.hid (fun (y1 : (letB x || digB x) = false) => Lib.hid (show R = false by rw [HR2.out]; exact all_false hx y1))
     have HL := Lib.hid (fun w => let5_any x w)
     have HD := Lib.hid (fun w => dig5_any x w)
     obtain ⟨b, hb⟩ : ∃ b, letB x = b := ⟨_, rfl⟩
     obtain ⟨b2, hb2⟩ : ∃ b, digB x = b := ⟨_, rfl⟩
     rw [hb] at HL YES NO
     rw [hb2] at HD YES NO
     obtain ⟨m, hm⟩ : ∃ m, x.toNat = m := ⟨_, rfl⟩
     rw [hm] at HL HD hat
     have HKL := Lib.hid hkl
     clear hx hb hb2 hm hk hkl
     cases b with
     |
      true =>
      have Y := YES.out rfl
      go_wp2_with fail
      go_at_call 96
      (with_reducible refine (HL.out _).mono ?_); rintro e w2 ⟨rfl, rfl⟩
      go_wp2_with fail
      go_roundw
      case rel => exact ⟨k + 1, by have := HKL.out; omega, by go_num, by first | trivial | rfl, Y⟩
      case measure => have := HKL.out; simp [intOf]; omega
     |
      false =>
      cases b2 with
      |
       true =>
       have Y := YES.out rfl
       go_wp2_with fail
       go_at_call 96
       (with_reducible refine (HL.out _).mono ?_); rintro e w2 ⟨rfl, rfl⟩
       go_wp2_with fail
       go_at_call 97
       (with_reducible refine (HD.out _).mono ?_); rintro e w2 ⟨rfl, rfl⟩
       go_wp2_with fail
       go_roundw
       case rel => exact ⟨k + 1, by have := HKL.out; omega, by go_num, by first | trivial | rfl, Y⟩
       case measure => have := HKL.out; simp [intOf]; omega
      |
       false =>
       have Z := NO.out rfl
       go_wp2_with fail
       go_at_call 96
       (with_reducible refine (HL.out _).mono ?_); rintro e w2 ⟨rfl, rfl⟩
       go_wp2_with fail
       go_at_call 97
       (with_reducible refine (HD.out _).mono ?_); rintro e w2 ⟨rfl, rfl⟩
       go_wp2_with fail
       go_ret
       exact ⟨ret_bool Z.out.symm, rfl⟩
    ·
     have hkI : ¬ (k : Int) < (n : Int) := by omega
     have HY := Lib.hid (show R = true by rw [HR2.out, ← HA.out, List.take_of_length_le (by rw [HN.out]; omega)])
     clear hk hkl
     go_wp2_with fail
     go_ret
     exact ⟨ret_bool HY.out.symm, rfl⟩
theorem named5_any (b : ByteArray) (w : World) (hs : b.size ≤ maxLen) : Calls Tryz.prog 62 #[.string b] w fun e w' => e = .returned (.bool (namedB b)) ∧ w' = w := by
 have h : b.data.toList.length ≤ 9223372036854775807 := by
  unfold maxLen at hs
  rw [Array.length_toList]; exact hs
 have := name5_any b.data.toList w h
 rw [← st_of] at this
 exact this
set_option maxRecDepth 100000 in
theorem place5_any (n : Int) (w : World) : Calls Tryz.prog 63 #[.int .i64 n] w fun e w' => e = .returned (.bool (placedB n)) ∧ w' = w := by
 unfold placedB
 by_cases h1 : 0 ≤ n
 ·
  by_cases h2 : n ≤ 65536
  ·
   rw [decide_eq_true ⟨h1, h2⟩]
   go_enter Tryz.func63, Tryz.ntmps63
   go_wp2_with fail
   go_ret
   exact ⟨rfl, rfl⟩
  ·
   rw [decide_eq_false (fun h => h2 h.2)]
   go_enter Tryz.func63, Tryz.ntmps63
   go_wp2_with fail
   go_ret
   exact ⟨rfl, rfl⟩
 ·
  rw [decide_eq_false (fun h => h1 h.1)]
  go_enter Tryz.func63, Tryz.ntmps63
  go_wp2_with fail
  go_ret
  exact ⟨rfl, rfl⟩
end Go.Proofs.YtkkopdmemjncdaaGreatDoor
