/- image: named, cuts, acts, classes. No condition but a bound of lengths. -/
import Derived.Test.YtcbfmajojkcibaaDoorImgR
import Derived.Test.YtcbfmajojkcibaaDoorPTexts
import Derived.Test.YtcbfmajojkcibaaDoorPGb
import Derived.Lib.Hide
import Derived.WalkKit
import Derived.WalkSpells
import Derived.WalkLawsBesides
namespace Go.Proofs.YtcbfmajojkcibaaDoor
open Go Go.RowKit

def chB (i : Nat) (c : UInt8) : Bool := letB c || (decide (i ≠ 0) && digB c)
theorem nameB_allI (s : List UInt8) : nameB s = (decide (s ≠ []) && (decide (s.length ≤ 32) && allI chB 0 s)) := by
  cases s with
  | nil => rfl
  | cons c r =>
    have aux : ∀ (l : List UInt8) (i : Nat), i ≠ 0 → allI chB i l = l.all fun d => letB d || digB d := fun l => by
      induction l with
      | nil => intro i _; rfl
      | cons d l ih => intro i hi; rw [allI, ih (i + 1) (by omega), List.all_cons]; unfold chB; rw [decide_eq_true hi, Bool.true_and]
    rw [allI, aux r 1 (by omega)]
    unfold nameB chB
    simp
/-- What a byte of a name may be. -/
theorem ch_key (c : UInt8) : (97 ≤ c.toNat ∧ c.toNat ≤ 122 ∧ letB c = true) ∨ (65 ≤ c.toNat ∧ c.toNat ≤ 90 ∧ letB c = true) ∨ (c.toNat = 95 ∧ letB c = true) ∨
    (48 ≤ c.toNat ∧ c.toNat ≤ 57 ∧ letB c = false ∧ digB c = true) ∨ ((c.toNat < 97 ∨ 122 < c.toNat) ∧ (c.toNat < 65 ∨ 90 < c.toNat) ∧ c.toNat ≠ 95 ∧ (c.toNat < 48 ∨ 57 < c.toNat) ∧ letB c = false ∧ digB c = false) := by
  unfold letB digB
  by_cases h1 : 97 ≤ c.toNat ∧ c.toNat ≤ 122
  · left; exact ⟨h1.1, h1.2, by simp [h1]⟩
  by_cases h2 : 65 ≤ c.toNat ∧ c.toNat ≤ 90
  · right; left; exact ⟨h2.1, h2.2, by simp [h2]⟩
  by_cases h3 : c.toNat = 95
  · right; right; left; exact ⟨h3, by simp [h3]⟩
  by_cases h4 : 48 ≤ c.toNat ∧ c.toNat ≤ 57
  · right; right; right; left; exact ⟨h4.1, h4.2, by simp; omega, by simp [h4]⟩
  · right; right; right; right; exact ⟨by omega, by omega, h3, by omega, by simp; omega, by simp; omega⟩

set_option maxRecDepth 100000 in
set_option maxHeartbeats 4000000 in
theorem nameI_any (s : List UInt8) (w : World) (hs : s.length ≤ 9223372036854775807) : Calls Tryd.prog 38 #[.string (st s)] w fun e w' => e = .returned (.bool (nameB s)) ∧ w' = w := by
  obtain ⟨R, hR⟩ : ∃ R, nameB s = R := ⟨_, rfl⟩
  rw [hR]
  have HR := Lib.hid hR
  clear hR
  have hsz : ((st s).size : Int) = (s.length : Int) := by rw [st_size]
  go_enter Tryd.func38, Tryd.ntmps38
  go_wp2_with fail
  go_loopw [8] (fun i wr => ∃ k : Nat, k ≤ s.length ∧ i = .int .i64 (k : Int) ∧ w = wr ∧ Hid (allI chB 0 (s.take k) = true)) (fun i _ => s.length - (intOf i).toNat)
  case atStart => exact ⟨0, Nat.zero_le _, rfl, rfl, Lib.hid rfl⟩
  case round =>
    obtain ⟨k, hk, rfl, rfl, HA⟩ := hrel
    cases hx : s[k]? with
    | none =>
      have hkl : k = s.length := by
        rcases Nat.lt_or_ge k s.length with h | h
        · rw [List.getElem?_eq_getElem h] at hx; cases hx
        · omega
      subst hkl
      have HA2 := Lib.hid (show allI chB 0 s = true by rw [← HA.out, List.take_length])
      clear hx hk HA
      by_cases h0 : s = []
      · have q : (st s).toList = [] := by rw [st_list]; exact h0
        have HR2 := Lib.hid (show R = false by rw [← HR.out, h0]; rfl)
        clear h0
        go_wp2_with fail
        go_ret
        exact ⟨ret_bool HR2.out.symm, rfl⟩
      · have q : ¬ (st s).toList = [] := by rw [st_list]; exact h0
        by_cases h32 : (s.length : Int) ≤ 32
        all_goals
          have HR2 := Lib.hid (show R = decide ((s.length : Int) ≤ 32) by
            rw [← HR.out, nameB_allI, HA2.out, decide_eq_true h0, Bool.true_and, Bool.and_true]
            exact decide_eq_decide.2 ⟨fun h => by omega, fun h => by omega⟩)
          clear h0
          go_wp2_with fail
          go_ret
          exact ⟨ret_bool (by rw [HR2.out]; simp [h32, q]), rfl⟩
    | some c =>
      have hkl : k < s.length := (List.getElem?_eq_some_iff.1 hx).1
      have HX := Lib.hid hx
      have hat := fun w' => run_at (P := Tryd.prog) w' 9 s k c .i64 Tryd.underlying9 hx
      have hkI : (k : Int) < (s.length : Int) := by omega
      have HK := ch_key c
      obtain ⟨m, hm⟩ : ∃ m, c.toNat = m := ⟨_, rfl⟩
      rw [hm] at hat HK
      clear hx hk hm
      have yes : chB k c = true → Hid (allI chB 0 (s.take (k + 1)) = true) := fun h => Lib.hid (by rw [allI_take _ _ _ _ HX.out, HA.out, h]; rfl)
      have no : chB k c = false → Hid (R = false) := fun h => Lib.hid (by rw [← HR.out, nameB_allI, allI_false HX.out h]; simp)
      have YES := Lib.hid yes
      have NO := Lib.hid no
      clear yes no
      have HKL := Lib.hid hkl
      clear hkl
      rcases HK with ⟨h1, h2, h3⟩ | ⟨h1, h2, h3⟩ | ⟨h1, h3⟩ | ⟨h1, h2, h3, h4⟩ | ⟨h1, h2, h5, h6, h3, h4⟩
      · have Y := YES.out (by unfold chB; rw [h3]; rfl)
        have e1 : 97 ≤ (m : Int) := by omega
        have e2 : (m : Int) ≤ 122 := by omega
        clear h1 h2 h3
        go_wp2_with fail
        go_roundw
        case rel => exact ⟨k + 1, by have := HKL.out; omega, by go_num, trivial, Y⟩
        case measure => have := HKL.out; simp [intOf]; omega
      · have Y := YES.out (by unfold chB; rw [h3]; rfl)
        have e1 : ¬ 97 ≤ (m : Int) := by omega
        have e2 : 65 ≤ (m : Int) := by omega
        have e3 : (m : Int) ≤ 90 := by omega
        clear h1 h2 h3
        go_wp2_with fail
        go_roundw
        case rel => exact ⟨k + 1, by have := HKL.out; omega, by go_num, trivial, Y⟩
        case measure => have := HKL.out; simp [intOf]; omega
      · have Y := YES.out (by unfold chB; rw [h3]; rfl)
        subst h1
        clear h3
        go_wp2_with fail
        go_roundw
        case rel => exact ⟨k + 1, by have := HKL.out; omega, by go_num, trivial, Y⟩
        case measure => have := HKL.out; simp [intOf]; omega
      · have e1 : ¬ 97 ≤ (m : Int) := by omega
        have e2 : ¬ 65 ≤ (m : Int) := by omega
        have e3 : ((m : Int) == 95) = false := by rw [beq_eq_false_iff_ne]; omega
        have e4 : ¬ (m : Int) < 48 := by omega
        have e5 : ¬ 57 < (m : Int) := by omega
        rcases Nat.eq_zero_or_pos k with hk0 | hk0
        · have N := NO.out (by unfold chB; rw [h3, decide_eq_false (by omega : ¬ k ≠ 0)]; rfl)
          subst hk0
          have hat0 : ∀ w', (Instr.index 9 (.string (st s)) (.int .i64 0)).run Tryd.prog w' = .ok (.int .u8 (m : Int)) w' := hat
          clear h1 h2 h3 h4 hat
          go_wp2_with fail
          go_ret
          exact ⟨ret_bool N.out.symm, rfl⟩
        · have Y := YES.out (by unfold chB; rw [h3, h4, decide_eq_true (by omega : k ≠ 0)]; rfl)
          have hkz : ((k : Int) == 0) = false := by rw [beq_eq_false_iff_ne]; omega
          clear h1 h2 h3 h4 hk0
          go_wp2_with fail
          go_roundw
          case rel => exact ⟨k + 1, by have := HKL.out; omega, by go_num, trivial, Y⟩
          case measure => have := HKL.out; simp [intOf]; omega
      · have N := NO.out (by unfold chB; rw [h3, h4]; simp)
        have e3 : ((m : Int) == 95) = false := by rw [beq_eq_false_iff_ne]; omega
        clear h3 h4 h5
        have hat0 : k = 0 → ∀ w', (Instr.index 9 (.string (st s)) (.int .i64 0)).run Tryd.prog w' = .ok (.int .u8 (m : Int)) w' := fun h => by subst h; exact hat
        have hkz : 0 < k → ((k : Int) == 0) = false := fun h => by rw [beq_eq_false_iff_ne]; omega
        rcases Nat.eq_zero_or_pos k with hk0 | hk0
        all_goals
          try replace hat0 := hat0 hk0
          try replace hkz := hkz hk0
          by_cases a1 : 97 ≤ (m : Int)
          all_goals
            have a2 : 97 ≤ (m : Int) → ¬ (m : Int) ≤ 122 := fun h => by omega
            by_cases a3 : 65 ≤ (m : Int)
            all_goals
              have a4 : 65 ≤ (m : Int) → ¬ (m : Int) ≤ 90 := fun h => by omega
              by_cases a5 : (m : Int) < 48
              all_goals
                have a6 : ¬ (m : Int) < 48 → 57 < (m : Int) := fun h => by omega
                clear h1 h2 h6
                try replace a2 := a2 a1
                try replace a4 := a4 a3
                try replace a6 := a6 a5
                first
                  | (subst hk0
                     clear hat
                     go_wp2_with fail
                     all_goals (go_ret; exact ⟨ret_bool N.out.symm, rfl⟩))
                  | (clear hk0 hat0
                     go_wp2_with fail
                     all_goals (go_ret; exact ⟨ret_bool N.out.symm, rfl⟩))

def vI (n : Int) : Value := .int .i64 n
/-- image.cuts. -/
theorem cutsI_any (c : Int × Int) (w : World) : Calls Tryd.prog 56 #[.agg #[.int .i64 c.1, .int .i64 c.2]] w fun e w' => e = .returned (.bool (cutB c)) ∧ Gr w w' := by
  obtain ⟨k, n⟩ := c
  dsimp only
  obtain ⟨R, hR⟩ : ∃ R, cutB (k, n) = R := ⟨_, rfl⟩
  rw [hR]
  have HR := Lib.hid hR
  clear hR
  by_cases h1 : k = 0
  · have HR2 := Lib.hid (show R = decide (n = 0) by rw [← HR.out]; unfold cutB; subst h1; simp)
    go_enter Tryd.func56, Tryd.ntmps56
    go_wp2_with fail
    go_ret
    exact ⟨ret_bool (by rw [HR2.out]; by_cases hn : n = 0 <;> simp [hn]), Gr.alloc _ _⟩
  by_cases h2 : k = 1
  · by_cases h3 : 0 ≤ n
    all_goals
      by_cases h4 : n ≤ 65536
      all_goals
        first
          | (exfalso; omega; done)
          | (have HR2 := Lib.hid (show R = decide (0 ≤ n ∧ n ≤ 65536) by rw [← HR.out]; unfold cutB; subst h2; simp)
             clear HR h1
             subst h2
             go_enter Tryd.func56, Tryd.ntmps56
             go_wp2_with fail
             go_ret
             exact ⟨ret_bool (by rw [HR2.out]; simp [h3, h4]), Gr.alloc _ _⟩)
  by_cases h5 : k = 2
  · by_cases h3 : 1 ≤ n
    all_goals
      by_cases h4 : n ≤ 65536
      all_goals
        first
          | (exfalso; omega; done)
          | (have HR2 := Lib.hid (show R = decide (1 ≤ n ∧ n ≤ 65536) by rw [← HR.out]; unfold cutB; subst h5; simp)
             clear HR h1 h2
             subst h5
             go_enter Tryd.func56, Tryd.ntmps56
             go_wp2_with fail
             go_ret
             exact ⟨ret_bool (by rw [HR2.out]; simp [h3, h4]), Gr.alloc _ _⟩)
  · have HR2 := Lib.hid (show R = false by rw [← HR.out]; unfold cutB; simp [h1, h2, h5])
    go_enter Tryd.func56, Tryd.ntmps56
    go_wp2_with fail
    go_ret
    exact ⟨ret_bool HR2.out.symm, Gr.alloc _ _⟩

/-- Numbers of a slice. -/
theorem int_at {w : World} {p : Option Addr} {c : Nat} {l : List Int} (h : Sl w (.slice p l.length c) 1 l.length (l.map vI)) {k : Nat} {x : Int} (hk : l[k]? = some x) :
    ∃ b off, p = some ⟨b, off, none⟩ ∧ b < w.heap.size ∧ w.cell? ⟨b, off + k, none⟩ = some (.int .i64 x) := by
  have hl : k < l.length := (List.getElem?_eq_some_iff.1 hk).1
  obtain ⟨_, _, ⟨_, h0⟩ | ⟨b, off, cap, hv, hb, hc⟩⟩ := h
  · omega
  · injection hv with hp _ _
    exact ⟨b, off, hp, hb (by omega), hc k _ (by rw [List.getElem?_map, hk]; rfl)⟩
def prC (a : Int × Int) : List Value := [.int .i64 a.1, .int .i64 a.2]
theorem prC_len (a : Int × Int) : (prC a).length = 2 := rfl
/-- Pairs of a slice. -/
theorem pr_at {w : World} {p : Option Addr} {c : Nat} {l : List (Int × Int)} (h : Sl w (.slice p l.length c) 2 l.length (l.flatMap prC)) {k : Nat} {x : Int × Int} (hk : l[k]? = some x) :
    ∃ b off, p = some ⟨b, off, none⟩ ∧ b < w.heap.size ∧ w.cell? ⟨b, off + k * 2, none⟩ = some (.int .i64 x.1) ∧ w.cell? ⟨b, off + k * 2 + 1, none⟩ = some (.int .i64 x.2) := by
  have hl : k < l.length := (List.getElem?_eq_some_iff.1 hk).1
  obtain ⟨_, _, ⟨_, h0⟩ | ⟨b, off, cap, hv, hb, hc⟩⟩ := h
  · omega
  · injection hv with hp _ _
    refine ⟨b, off, hp, hb (by omega), ?_, ?_⟩
    · have := hc (k * 2 + 0) _ (by rw [flat_at prC 2 prC_len l k x 0 hk (by omega)]; rfl); rw [← Nat.add_assoc] at this; simpa using this
    · have := hc (k * 2 + 1) _ (by rw [flat_at prC 2 prC_len l k x 1 hk (by omega)]; rfl); rw [← Nat.add_assoc] at this; exact this

set_option maxRecDepth 100000 in
set_option maxHeartbeats 4000000 in
/-- image.acts. -/
theorem actsI_any (l : List (Int × Int)) (v : Value) (m : Nat) (w : World) (h : Sl w v 2 l.length (l.flatMap prC)) : Calls Tryd.prog 57 #[v, .int .i64 (m : Int)] w fun e w' => e = .returned (.bool (actsB m l)) ∧ Gr w w' := by
  obtain ⟨R, hR⟩ : ∃ R, actsB m l = R := ⟨_, rfl⟩
  rw [hR]
  have HR := Lib.hid hR
  clear hR
  have hmx := h.2.1
  unfold maxLen at hmx
  obtain ⟨p, c, rfl⟩ := h.len
  have H := Lib.hid h
  clear h
  go_enter Tryd.func57, Tryd.ntmps57
  go_wp2_with fail
  go_loopw [9] (fun i wr => ∃ k : Nat, k ≤ l.length ∧ i = .int .i64 (k : Int) ∧ Gr w wr ∧ Hid ((l.take k).all (actB m) = true)) (fun i _ => l.length - (intOf i).toNat)
  case atStart => exact ⟨0, Nat.zero_le _, rfl, Gr.refl _, Lib.hid rfl⟩
  case round =>
    obtain ⟨k, hk, rfl, hg, HA⟩ := hrel
    cases hx : l[k]? with
    | none =>
      have hkl : k = l.length := by
        rcases Nat.lt_or_ge k l.length with h | h
        · rw [List.getElem?_eq_getElem h] at hx; cases hx
        · omega
      subst hkl
      have HR2 := Lib.hid (show R = decide (l.length ≤ 8) by rw [← HR.out]; unfold actsB; have := HA.out; rw [List.take_length] at this; rw [this, Bool.true_and])
      clear hx hk HA
      by_cases h8 : (l.length : Int) ≤ 8
      all_goals
        go_wp2_with fail
        go_ret
        exact ⟨ret_bool (by rw [HR2.out, show decide (l.length ≤ 8) = decide ((l.length : Int) ≤ 8) from decide_eq_decide.2 ⟨fun h => by omega, fun h => by omega⟩]; simp [h8]), hg⟩
    | some x =>
      have hkl : k < l.length := (List.getElem?_eq_some_iff.1 hx).1
      obtain ⟨b, off, rfl, hb, c0, c1⟩ := pr_at (H.out.later hg) hx
      have HX := Lib.hid hx
      have hkI : (k : Int) < (l.length : Int) := by omega
      have YES := Lib.hid (fun h : actB m x = true => Lib.hid (show (l.take (k + 1)).all (actB m) = true by rw [all_take _ _ _ _ HX.out, HA.out, h]; rfl))
      have NO := Lib.hid (fun h : actB m x = false => Lib.hid (show R = false by rw [← HR.out]; unfold actsB; rw [all_false HX.out h]; rfl))
      have HKL := Lib.hid hkl
      obtain ⟨d, n⟩ := x
      clear hx hk hkl
      dsimp only at c0 c1
      have hbn : b ≠ wr.heap.size := by omega
      by_cases h1 : d = 1 ∨ d = 2
      · by_cases h2 : n < 0
        · have N := NO.out (by unfold actB; rw [decide_eq_false (by omega), decide_eq_false (by omega)]; rfl)
          rcases h1 with rfl | rfl
          all_goals
            go_wp2_with fail
            go_ret
            exact ⟨ret_bool N.out.symm, hg.trans (Gr.alloc _ _)⟩
        · by_cases h3 : (m : Int) ≤ n
          · have N := NO.out (by unfold actB; rw [decide_eq_false (by omega), decide_eq_false (by omega)]; rfl)
            rcases h1 with rfl | rfl
            all_goals
              go_wp2_with fail
              go_ret
              exact ⟨ret_bool N.out.symm, hg.trans (Gr.alloc _ _)⟩
          · have Y := YES.out (by unfold actB; rw [decide_eq_true (by omega)]; rfl)
            rcases h1 with rfl | rfl
            all_goals
              go_wp2_with fail
              go_roundw
              case rel => exact ⟨k + 1, by have := HKL.out; omega, by go_num, hg.trans (Gr.alloc _ _), Y⟩
              case measure => have := HKL.out; simp [intOf]; omega
      · have h1a : ¬ d = 1 := fun h => h1 (.inl h)
        have h1b : ¬ d = 2 := fun h => h1 (.inr h)
        clear h1
        by_cases h4 : d = 3
        · by_cases h5 : n = 0
          · have Y := YES.out (by unfold actB; rw [decide_eq_true (by omega : d = 3 ∧ n = 0), Bool.or_true])
            subst h4 h5
            clear h1a h1b
            go_wp2_with fail
            go_roundw
            case rel => exact ⟨k + 1, by have := HKL.out; omega, by go_num, hg.trans (Gr.alloc _ _), Y⟩
            case measure => have := HKL.out; simp [intOf]; omega
          · have N := NO.out (by unfold actB; rw [decide_eq_false (by omega), decide_eq_false (by omega)]; rfl)
            subst h4
            clear h1a h1b
            go_wp2_with fail
            go_ret
            exact ⟨ret_bool N.out.symm, hg.trans (Gr.alloc _ _)⟩
        · have N := NO.out (by unfold actB; rw [decide_eq_false (by omega), decide_eq_false (by omega)]; rfl)
          go_wp2_with fail
          go_ret
          exact ⟨ret_bool N.out.symm, hg.trans (Gr.alloc _ _)⟩

end Go.Proofs.YtcbfmajojkcibaaDoor
