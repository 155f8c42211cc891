/- Texts of mine, put together: Str0, Texts, ImgA, SpA, SpB. No condition but what each says. -/
import Derived.Test.YtkkopdmemjncdaaGreatDoorPGa
import Derived.ShutString
import Derived.Laws.Concat
import Derived.Laws.RangeString
import Derived.Laws.BytesString
import Derived.Test.YtkkopdmemjncdaaGreatDoorPHc
import Derived.Test.YtkkopdmemjncdaaGreatDoorPGb
import Derived.Lib.Hide
import Derived.WalkKit
import Derived.WalkSpells
import Derived.WalkLawsBesides
import Derived.Test.YtkkopdmemjncdaaGreatDoorPSpIn
namespace Go.Proofs.YtkkopdmemjncdaaGreatDoor
open Go
def st (l : List UInt8) : ByteArray := ⟨l.toArray⟩
theorem st_of (s : ByteArray) : s = st s.data.toList := by cases s; simp [st]
theorem st_size (l : List UInt8) : (st l).size = l.length := by simp [st, ByteArray.size]
theorem st_list (l : List UInt8) : (st l).toList = l := ByteArray.toList_mk l
theorem run_at {P : Program} (w : World) (t : TypeId) (l : List UInt8) (i : Nat) (b : UInt8) (k : IntKind) (ht : P.underlying t = some .string) (hb : l[i]? = some b) :
  (Instr.index t (.string (st l)) (.int k (i : Int))).run P w = .ok (.int .u8 (b.toNat : Int)) w := by
 obtain ⟨hl, rfl⟩ := List.getElem?_eq_some_iff.1 hb
 rw [run_index_string w t (st l) k i ht, dif_pos (by rw [st_size]; omega)]
 congr 2
end Go.Proofs.YtkkopdmemjncdaaGreatDoor
namespace Go.Proofs.YtkkopdmemjncdaaGreatDoor
open Go Go.RowKit
theorem flat_at {α : Type} (f : α → List Value) (k : Nat) (hf : ∀ a, (f a).length = k) : ∀ (l : List α) (i : Nat) (a : α) (j : Nat), l[i]? = some a → j < k → (l.flatMap f)[i * k + j]? = (f a)[j]?
 | [], i, a, j, h, _ => by simp at h
 |
  x :: l, 0, a, j, h, hj => by
  simp only [List.getElem?_cons_zero, Option.some.injEq] at h
  subst h
  rw [List.flatMap_cons, Nat.zero_mul, Nat.zero_add, List.getElem?_append_left (by rw [hf]; exact hj)]
 |
  x :: l, i + 1, a, j, h, hj => by
  rw [List.flatMap_cons, List.getElem?_append_right (by rw [hf, Nat.add_mul]; omega), hf, show (i + 1) * k + j - k = i * k + j by rw [Nat.add_mul]; omega]
  exact flat_at f k hf l i a j (by simpa using h) hj
def vS (l : List UInt8) : Value := .string (st l)
theorem str_at {w : World} {p : Option Addr} {c : Nat} {l : List (List UInt8)} (h : Sl w (.slice p l.length c) 1 l.length (l.map vS)) {k : Nat} {s : List UInt8} (hk : l[k]? = some s) :
  ∃ b off, p = some ⟨b, off, none⟩ ∧ b < w.heap.size ∧ w.cell? ⟨b, off + k, none⟩ = some (.string (st s)) := by
 have hl : k < l.length := (List.getElem?_eq_some_iff.1 hk).1
 obtain ⟨_, _, ⟨_, h0⟩ | ⟨b, off, cap, hv, hb, hc⟩⟩ := h
 · omega
 ·
  injection hv with hp _ _
  exact ⟨b, off, hp, hb (by omega), hc k _ (by rw [List.getElem?_map, hk]; rfl)⟩
end Go.Proofs.YtkkopdmemjncdaaGreatDoor
namespace Go.Proofs.YtkkopdmemjncdaaGreatDoor
open Go Go.RowKit
def chB (i : Nat) (c : UInt8) : Bool := letB c || (decide (i ≠ 0) && digB c)
theorem nameB_allI (s : List UInt8) : nameB s = (decide (s ≠ []) && (decide (s.length ≤ 32) && allI chB 0 s)) := by
 cases s with
 | nil => rfl
 |
  cons c r =>
  have aux : ∀ (l : List UInt8) (i : Nat), i ≠ 0 → allI chB i l = l.all fun d => letB d || digB d := fun l => by
   induction l with
   | nil => intro i _; rfl
   | cons d l ih => intro i hi; rw [allI, ih (i + 1) (by omega), List.all_cons]; unfold chB; rw [decide_eq_true hi, Bool.true_and]
  rw [allI, aux r 1 (by omega)]
  unfold nameB chB
  simp
theorem ch_key (c : UInt8) : (97 ≤ c.toNat ∧ c.toNat ≤ 122 ∧ letB c = true) ∨ (65 ≤ c.toNat ∧ c.toNat ≤ 90 ∧ letB c = true) ∨ (c.toNat = 95 ∧ letB c = true) ∨
  (48 ≤ c.toNat ∧ c.toNat ≤ 57 ∧ letB c = false ∧ digB c = true) ∨ ((c.toNat < 97 ∨ 122 < c.toNat) ∧ (c.toNat < 65 ∨ 90 < c.toNat) ∧ c.toNat ≠ 95 ∧ (c.toNat < 48 ∨ 57 < c.toNat) ∧ letB c = false ∧ digB c = false) := by
 unfold letB digB
 by_cases h1 : 97 ≤ c.toNat ∧ c.toNat ≤ 122
 · left; exact ⟨h1.1, h1.2, by simp [h1]⟩
 by_cases h2 : 65 ≤ c.toNat ∧ c.toNat ≤ 90
 · right; left; exact ⟨h2.1, h2.2, by simp [h2]⟩
 by_cases h3 : c.toNat = 95
 · right; right; left; exact ⟨h3, by simp [h3]⟩
 by_cases h4 : 48 ≤ c.toNat ∧ c.toNat ≤ 57
 · right; right; right; left; exact ⟨h4.1, h4.2, by simp; omega, by simp [h4]⟩
 · right; right; right; right; exact ⟨by omega, by omega, h3, by omega, by simp; omega, by simp; omega⟩
def vI (n : Int) : Value := .int .i64 n
theorem int_at {w : World} {p : Option Addr} {c : Nat} {l : List Int} (h : Sl w (.slice p l.length c) 1 l.length (l.map vI)) {k : Nat} {x : Int} (hk : l[k]? = some x) :
  ∃ b off, p = some ⟨b, off, none⟩ ∧ b < w.heap.size ∧ w.cell? ⟨b, off + k, none⟩ = some (.int .i64 x) := by
 have hl : k < l.length := (List.getElem?_eq_some_iff.1 hk).1
 obtain ⟨_, _, ⟨_, h0⟩ | ⟨b, off, cap, hv, hb, hc⟩⟩ := h
 · omega
 ·
  injection hv with hp _ _
  exact ⟨b, off, hp, hb (by omega), hc k _ (by rw [List.getElem?_map, hk]; rfl)⟩
def prC (a : Int × Int) : List Value := [.int .i64 a.1, .int .i64 a.2]
theorem prC_len (a : Int × Int) : (prC a).length = 2 := rfl
theorem pr_at {w : World} {p : Option Addr} {c : Nat} {l : List (Int × Int)} (h : Sl w (.slice p l.length c) 2 l.length (l.flatMap prC)) {k : Nat} {x : Int × Int} (hk : l[k]? = some x) :
  ∃ b off, p = some ⟨b, off, none⟩ ∧ b < w.heap.size ∧ w.cell? ⟨b, off + k * 2, none⟩ = some (.int .i64 x.1) ∧ w.cell? ⟨b, off + k * 2 + 1, none⟩ = some (.int .i64 x.2) := by
 have hl : k < l.length := (List.getElem?_eq_some_iff.1 hk).1
 obtain ⟨_, _, ⟨_, h0⟩ | ⟨b, off, cap, hv, hb, hc⟩⟩ := h
 · omega
 ·
  injection hv with hp _ _
  refine ⟨b, off, hp, hb (by omega), ?_, ?_⟩
  · have := hc (k * 2 + 0) _ (by rw [flat_at prC 2 prC_len l k x 0 hk (by omega)]; rfl); rw [← Nat.add_assoc] at this; simpa using this
  · have := hc (k * 2 + 1) _ (by rw [flat_at prC 2 prC_len l k x 1 hk (by omega)]; rfl); rw [← Nat.add_assoc] at this; exact this
end Go.Proofs.YtkkopdmemjncdaaGreatDoor
namespace Go.Proofs.YtkkopdmemjncdaaGreatDoor
open Go Go.RowKit
theorem boxAt.new_atN {w W : World} (vs : List Value) (e : TypeId) (b : Nat) (hW : W = w.alloc (.cells vs.toArray e)) (hb : b = w.heap.size) : boxAt W b vs := by rw [hb]; exact boxAt.new vs e hW
set_option maxRecDepth 100000 in
set_option maxHeartbeats 4000000 in
theorem
    nameS_any
         (s
          : List UInt8) (w : World) (hs : s.length ≤ 9223372036854775807) : Calls Tryz.prog 71 #[.string (st s)] w fun e w' => e = .returned (.bool (nameB s)) ∧ w' = w := by
 obtain ⟨R, hR⟩ : ∃ R, nameB s = R := ⟨_, rfl⟩
 rw [hR]
 have HR := Lib.hid hR
 clear hR
 have hsz : ((st s).size : Int) = (s.length : Int) := by rw [st_size]
 go_enter Tryz.func71, Tryz.ntmps71
 go_wp2_with fail
 go_loopw [8] (fun i wr => ∃ k : Nat, k ≤ s.length ∧ i = .int .i64 (k : Int) ∧ w = wr ∧ Hid (allI chB 0 (s.take k) = true)) (fun i _ => s.length - (intOf i).toNat)
 case atStart => exact ⟨0, Nat.zero_le _, rfl, rfl, Lib.hid rfl⟩
 case round =>
  obtain ⟨k, hk, rfl, rfl, HA⟩ := hrel
  cases hx : s[k]? with
  |
   none =>
   have hkl : k = s.length := by
    rcases Nat.lt_or_ge k s.length with h | h
    · rw [List.getElem?_eq_getElem h] at hx; cases hx
    · omega
   subst hkl
   have HA2 := Lib.hid (show allI chB 0 s = true by rw [← HA.out, List.take_length])
   clear hx hk HA
   by_cases h0 : s = []
   ·
    have q : (st s).toList = [] := by rw [st_list]; exact h0
    have HR2 := Lib.hid (show R = false by rw [← HR.out, h0]; rfl)
    clear h0
    go_wp2_with fail
    go_ret
    exact ⟨ret_bool HR2.out.symm, rfl⟩
   ·
    have q : ¬ (st s).toList = [] := by rw [st_list]; exact h0
    by_cases h32 : (s.length : Int) ≤ 32
    all_goals
     have HR2 := Lib.hid (show R = decide ((s.length : Int) ≤ 32) by
      rw [← HR.out, nameB_allI, HA2.out, decide_eq_true h0, Bool.true_and, Bool.and_true]
      exact decide_eq_decide.2 ⟨fun h => by omega, fun h => by omega⟩)
     clear h0
     go_wp2_with fail
     go_ret
     exact ⟨ret_bool (by rw [HR2.out]; simp [h32, q]), rfl⟩
  |
   some c =>
   have hkl : k < s.length := (List.getElem?_eq_some_iff.1 hx).1
   have HX := Lib.hid hx
   have hat := fun w' => run_at (P := Tryz.prog) w' 9 s k c .i64 Tryz.underlying9 hx
   have hkI : (k : Int) < (s.length : Int) := by omega
   have HK := ch_key c
   obtain ⟨m, hm⟩ : ∃ m, c.toNat = m := ⟨_, rfl⟩
   rw [hm] at hat HK
   clear hx hk hm
   have yes : chB k c = true → Hid (allI chB 0 (s.take (k + 1)) = true) := fun h => Lib.hid (by rw [allI_take _ _ _ _ HX.out, HA.out, h]; rfl)
   have no : chB k c = false → Hid (R = false) := fun h => Lib.hid (by rw [← HR.out, nameB_allI, allI_false HX.out h]; simp)
   have YES := Lib.hid yes
   have NO := Lib.hid no
   clear yes no
   have HKL := Lib.hid hkl
   clear hkl
   rcases HK with ⟨h1, h2, h3⟩ | ⟨h1, h2, h3⟩ | ⟨h1, h3⟩ | ⟨h1, h2, h3, h4⟩ | ⟨h1, h2, h5, h6, h3, h4⟩
   ·
    have Y := YES.out (by unfold chB; rw [h3]; rfl)
    have e1 : 97 ≤ (m : Int) := by omega
    have e2 : (m : Int) ≤ 122 := by omega
    clear h1 h2 h3
    go_wp2_with fail
    go_roundw
    case rel => exact ⟨k + 1, by have := HKL.out; omega, by go_num, trivial, Y⟩
    case measure => have := HKL.out; simp [intOf]; omega
   ·
    have Y := YES.out (by unfold chB; rw [h3]; rfl)
    have e1 : ¬ 97 ≤ (m : Int) := by omega
    have e2 : 65 ≤ (m : Int) := by omega
    have e3 : (m : Int) ≤ 90 := by omega
    clear h1 h2 h3
    go_wp2_with fail
    go_roundw
    case rel => exact ⟨k + 1, by have := HKL.out; omega, by go_num, trivial, Y⟩
    case measure => have := HKL.out; simp [intOf]; omega
   ·
    have Y := YES.out (by unfold chB; rw [h3]; rfl)
    subst h1
    clear h3
    go_wp2_with fail
    go_roundw
    case rel => exact ⟨k + 1, by have := HKL.out; omega, by go_num, trivial, Y⟩
    case measure => have := HKL.out; simp [intOf]; omega
   ·
    have e1 : ¬ 97 ≤ (m : Int) := by omega
    have e2 : ¬ 65 ≤ (m : Int) := by omega
    have e3 : ((m : Int) == 95) = false := by rw [beq_eq_false_iff_ne]; omega
    have e4 : ¬ (m : Int) < 48 := by omega
    have e5 : ¬ 57 < (m : Int) := by omega
    rcases Nat.eq_zero_or_pos k with hk0 | hk0
    ·
     have N := NO.out (by unfold chB; rw [h3, decide_eq_false (by omega : ¬ k ≠ 0)]; rfl)
     subst hk0
     have hat0 : ∀ w', (Instr.index 9 (.string (st s)) (.int .i64 0)).run Tryz.prog w' = .ok (.int .u8 (m : Int)) w' := hat
     clear h1 h2 h3 h4 hat
     go_wp2_with fail
     go_ret
     exact ⟨ret_bool N.out.symm, rfl⟩
    ·
     have Y := YES.out (by unfold chB; rw [h3, h4, decide_eq_true (by omega : k ≠ 0)]; rfl)
     have hkz : ((k : Int) == 0) = false := by rw [beq_eq_false_iff_ne]; omega
     clear h1 h2 h3 h4 hk0
     go_wp2_with fail
     go_roundw
     case rel => exact ⟨k + 1, by have := HKL.out; omega, by go_num, trivial, Y⟩
     case measure => have := HKL.out; simp [intOf]; omega
   ·
    have N :=
         NO.out (by unfold chB; rw [h3, h4]; simp)
    have e3 : ((m : Int) == 95) = false := by rw [beq_eq_false_iff_ne]; omega
    clear h3 h4 h5
    have hat0 : k = 0 → ∀ w', (Instr.index 9 (.string (st s)) (.int .i64 0)).run Tryz.prog w' = .ok (.int .u8 (m : Int)) w' := fun h => by subst h; exact hat
    have hkz : 0 < k → ((k : Int) == 0) = false := fun h => by rw [beq_eq_false_iff_ne]; omega
    rcases Nat.eq_zero_or_pos k with hk0 | hk0
    all_goals
     try replace hat0 := hat0 hk0
     try replace hkz := hkz hk0
     by_cases a1 : 97 ≤ (m : Int)
     all_goals
      have a2 : 97 ≤ (m : Int) → ¬ (m : Int) ≤ 122 := fun h => by omega
      by_cases a3 : 65 ≤ (m : Int)
      all_goals
       have a4 : 65 ≤ (m : Int) → ¬ (m : Int) ≤ 90 := fun h => by omega
       by_cases a5 : (m : Int) < 48
       all_goals
        have a6 : ¬ (m : Int) < 48 → 57 < (m : Int) := fun h => by omega
        clear h1 h2 h6
        try replace a2 := a2 a1
        try replace a4 := a4 a3
        try replace a6 := a6 a5
        first
         | (
          subst hk0
          clear hat
          go_wp2_with fail
          all_goals (go_ret; exact ⟨ret_bool N.out.symm, rfl⟩))
         | (
          clear hk0 hat0
          go_wp2_with fail
          all_goals (go_ret; exact ⟨ret_bool N.out.symm, rfl⟩))
theorem namedS_any (b : ByteArray) (w : World) (hs : b.size ≤ maxLen) : Calls Tryz.prog 71 #[.string b] w fun e w' => e = .returned (.bool (namedB b)) ∧ w' = w := by
 have h : b.data.toList.length ≤ 9223372036854775807 := by
  unfold maxLen at hs
  rw [Array.length_toList]; exact hs
 have := nameS_any b.data.toList w h
 rw [← st_of] at this
 exact this
set_option maxRecDepth 100000 in
theorem placedS_any (n : Int) (w : World) : Calls Tryz.prog 72 #[.int .i64 n] w fun e w' => e = .returned (.bool (placedB n)) ∧ w' = w := by
 unfold placedB
 by_cases h1 : 0 ≤ n
 ·
  by_cases h2 : n ≤ 65536
  ·
   rw [decide_eq_true ⟨h1, h2⟩]
   go_enter Tryz.func72, Tryz.ntmps72
   go_wp2_with fail
   go_ret
   exact ⟨rfl, rfl⟩
  ·
   rw [decide_eq_false (fun h => h2 h.2)]
   go_enter Tryz.func72, Tryz.ntmps72
   go_wp2_with fail
   go_ret
   exact ⟨rfl, rfl⟩
 ·
  rw [decide_eq_false (fun h => h1 h.1)]
  go_enter Tryz.func72, Tryz.ntmps72
  go_wp2_with fail
  go_ret
  exact ⟨rfl, rfl⟩
end Go.Proofs.YtkkopdmemjncdaaGreatDoor
namespace Go.Proofs.YtkkopdmemjncdaaGreatDoor
open Go Go.RowKit
theorem toList_nil (b : ByteArray) : b.toList = [] ↔ b.size = 0 := by
 rw [st_of b, st_list, st_size]
 exact List.length_eq_zero_iff.symm
theorem use_at {w : World} {p : Option Addr} {c : Nat} {l : List Us} (h : Sl w (.slice p l.length c) 2 l.length (l.flatMap usC)) {k : Nat} {x : Us} (hk : l[k]? = some x) :
  ∃ b off, p = some ⟨b, off, none⟩ ∧ b < w.heap.size ∧ ∀ (t : Nat) (u : Value), (usC x)[t]? = some u → w.cell? ⟨b, off + k * 2 + t, none⟩ = some u := by
 have hkl := (List.getElem?_eq_some_iff.1 hk).1
 obtain ⟨_, _, ⟨_, h0⟩ | ⟨b, off, cap, hv, hb, hc⟩⟩ := h
 · omega
 ·
  injection hv with hp _ _
  refine ⟨b, off, hp, hb (by omega), fun t u hu => ?_⟩
  have ht : t < 2 := by have := (List.getElem?_eq_some_iff.1 hu).1; rw [usC_len] at this; exact this
  rw [Nat.add_assoc]
  exact hc (k * 2 + t) u ((flatMap_get usC 2 usC_len l k t x hk ht).trans hu)
theorem act_at {w : World} {p : Option Addr} {c : Nat} {l : List Ac} (h : Sl w (.slice p l.length c) 3 l.length (l.flatMap acC)) {k : Nat} {x : Ac} (hk : l[k]? = some x) :
  ∃ b off, p = some ⟨b, off, none⟩ ∧ b < w.heap.size ∧ ∀ (t : Nat) (u : Value), (acC x)[t]? = some u → w.cell? ⟨b, off + k * 3 + t, none⟩ = some u := by
 have hkl := (List.getElem?_eq_some_iff.1 hk).1
 obtain ⟨_, _, ⟨_, h0⟩ | ⟨b, off, cap, hv, hb, hc⟩⟩ := h
 · omega
 ·
  injection hv with hp _ _
  refine ⟨b, off, hp, hb (by omega), fun t u hu => ?_⟩
  have ht : t < 3 := by have := (List.getElem?_eq_some_iff.1 hu).1; rw [acC_len] at this; exact this
  rw [Nat.add_assoc]
  exact hc (k * 3 + t) u ((flatMap_get acC 3 acC_len l k t x hk ht).trans hu)
theorem mode_at {w : World} {p : Option Addr} {c : Nat} {l : List Md} (h : Sl w (.slice p l.length c) 3 l.length (l.flatMap mdC)) {k : Nat} {x : Md} (hk : l[k]? = some x) :
  ∃ b off, p = some ⟨b, off, none⟩ ∧ b < w.heap.size ∧ ∀ (t : Nat) (u : Value), (mdC x)[t]? = some u → w.cell? ⟨b, off + k * 3 + t, none⟩ = some u := by
 have hkl := (List.getElem?_eq_some_iff.1 hk).1
 obtain ⟨_, _, ⟨_, h0⟩ | ⟨b, off, cap, hv, hb, hc⟩⟩ := h
 · omega
 ·
  injection hv with hp _ _
  refine ⟨b, off, hp, hb (by omega), fun t u hu => ?_⟩
  have ht : t < 3 := by have := (List.getElem?_eq_some_iff.1 hu).1; rw [mdC_len] at this; exact this
  rw [Nat.add_assoc]
  exact hc (k * 3 + t) u ((flatMap_get mdC 3 mdC_len l k t x hk ht).trans hu)
set_option maxRecDepth 100000 in
set_option maxHeartbeats 2000000 in
theorem used1_any (u : Us) (w : World) (ho : UsOk u) : Calls Tryz.prog 119 #[.agg #[.string u.name, .int .i64 u.pos]] w fun e w' => e = .returned (.bool (!usedB u)) ∧ Gr w w' := by
 have HA := Lib.hid (fun w' => namedS_any u.name w' ho.1)
 have HB := Lib.hid (fun w' => placedS_any u.pos w')
 clear ho
 unfold usedB
 cases h1 : namedB u.name
 all_goals
  rw [h1] at HA
  go_enter Tryz.func119, Tryz.ntmps119
  go_wp2_with fail
  refine name_calls (fun W hW => ?_)
  have xb : boxAt W w.heap.size [.string u.name, .int .i64 u.pos] := by rw [hW]; exact boxAt.new [.string u.name, .int .i64 u.pos] _ rfl
  have hg : Gr w W := by rw [hW]; exact Gr.alloc _ _
  clear hW
  obtain ⟨c_e0, c_e1, m_e0, m_e1, l_e⟩ := unb2 xb
  go_at_call 71
  (with_reducible refine (HA.out W).mono ?_); rintro e w1 ⟨rfl, rfl⟩
  go_wp2_with fail
 ·
  go_ret
  exact ⟨rfl, hg⟩
 ·
  go_at_call 72
  (with_reducible refine (HB.out _).mono ?_); rintro e w1 ⟨rfl, rfl⟩
  go_wp2_with fail
  go_ret
  exact ⟨ret_bool (by simp), hg⟩
set_option maxRecDepth 100000 in
set_option maxHeartbeats 2000000 in
theorem
    indexF_use (l : List Us) (p : Option Addr) (c : Nat) (w : World) (h : Sl w (.slice p l.length c) 2 l.length (l.flatMap usC)) (ho : ∀ u ∈ l, UsOk u) :
  Calls Tryz.prog 113 #[.slice p l.length c, .func (.func 119) #[] #[]] w fun e w' => (∃ k : Int, e = .returned (.int .i64 k) ∧ decide (0 ≤ k) = !(l.all usedB)) ∧ Gr w w' := by
 have hmx := h.2.1
 unfold maxLen at hmx
 have H := Lib.hid h
 have HO := Lib.hid ho
 obtain ⟨n, hn⟩ : ∃ n, l.length = n := ⟨_, rfl⟩
 have HN := Lib.hid hn
 rw [hn] at H hmx ⊢
 clear h ho hn
 go_enter Tryz.func113, Tryz.ntmps113
 go_wp2_with fail
 go_loopw [8] (fun i wr => ∃ k : Nat, k ≤ n ∧ i = .int .i64 (k : Int) ∧ Gr w wr ∧ Hid ((l.take k).all usedB = true)) (fun i _ => n - (intOf i).toNat)
 case atStart => exact ⟨0, Nat.zero_le _, rfl, Gr.refl _, Lib.hid rfl⟩
 case round =>
  obtain ⟨k, hk, rfl, hg, HA⟩ := hrel
  cases hx : l[k]? with
  |
   none =>
   have hkl : ¬ (k : Int) < (n : Int) := by
    rcases Nat.lt_or_ge k l.length with h | h
    · rw [List.getElem?_eq_getElem h] at hx; cases hx
    · have := HN.out; omega
   have HA2 := Lib.hid (show l.all usedB = true by have := HA.out; rw [List.take_of_length_le (by have := HN.out; omega)] at this; exact this)
   clear hx hk HA
   go_wp2_with fail
   go_ret
   exact ⟨⟨-1, rfl, by rw [HA2.out]; rfl⟩, hg⟩
  |
   some x =>
   have hkl : k < l.length := (List.getElem?_eq_some_iff.1 hx).1
   have hkn : k < n := by rw [← HN.out]; exact hkl
   obtain ⟨b, off, rfl, hb, hc⟩ := use_at (HN.out.symm ▸ H.out) hx
   have hok := HO.out x (List.mem_of_getElem? hx)
   obtain ⟨nm, po⟩ := x
   have k0 : wr.cell? ⟨b, off + k * 2, none⟩ = some (.string nm) := hg.cell (hc 0 _ rfl)
   have k1 : wr.cell? ⟨b, off + k * 2 + 1, none⟩ = some (.int .i64 po) := hg.cell (hc 1 _ rfl)
   have hbr := Nat.lt_of_lt_of_le hb hg.size
   have HX := Lib.hid hx
   have HKN := Lib.hid hkn
   have hkI : (k : Int) < (n : Int) := by omega
   have HL := Lib.hid (fun w' => used1_any ⟨nm, po⟩ w' hok)
   clear hx hk hkl hkn hc
   cases hb2 : usedB ⟨nm, po⟩
   all_goals
    rw [hb2] at HL
    have YES := Lib.hid (fun h : usedB ⟨nm, po⟩ = true => Lib.hid (show (l.take (k + 1)).all usedB = true by rw [List.take_add_one, HX.out]; simp only [Option.toList_some, List.all_append, HA.out, List.all_cons, List.all_nil, h, Bool.and_self]))
    have NO := Lib.hid (fun h : usedB ⟨nm, po⟩ = false => Lib.hid (show l.all usedB = false from List.all_eq_false.2 ⟨_, List.mem_of_getElem? HX.out, by rw [h]; simp⟩))
    have HB2 := Lib.hid hb2
    clear hb2
    go_wp2_with fail
    go_at_call 119
    (with_reducible refine (HL.out wr).mono ?_); rintro e w1 ⟨rfl, hb1⟩
    have hg1 := hg.trans hb1
    clear hb1
    go_wp2_with fail
   ·
    go_ret
    exact ⟨⟨k, rfl, by rw [(NO.out HB2.out).out]; simp⟩, hg1⟩
   ·
    go_roundw
    case rel => exact ⟨k + 1, HKN.out, by go_num, hg1, YES.out HB2.out⟩
    case measure => have := HKN.out; simp [intOf]; omega
set_option maxRecDepth 100000 in
theorem containsF_use (l : List Us) (p : Option Addr) (c : Nat) (w : World) (h : Sl w (.slice p l.length c) 2 l.length (l.flatMap usC)) (ho : ∀ u ∈ l, UsOk u) :
  Calls Tryz.prog 87 #[.slice p l.length c, .func (.func 119) #[] #[]] w fun e w' => e = .returned (.bool (!(l.all usedB))) ∧ Gr w w' := by
 have HI := Lib.hid (indexF_use l p c w h ho)
 clear h ho
 go_enter Tryz.func87, Tryz.ntmps87
 go_wp2_with fail
 go_at_call 113
 refine HI.out.mono ?_; rintro e w1 ⟨⟨k, rfl, hk⟩, hg⟩
 have HK := Lib.hid hk
 clear hk
 go_wp2_with fail
 go_ret
 exact ⟨ret_bool HK.out, hg⟩
set_option maxRecDepth 100000 in
theorem used_any (l : List Us) (v : Value) (w : World) (h : Sl w v 2 l.length (l.flatMap usC)) (ho : ∀ u ∈ l, UsOk u) : Calls Tryz.prog 102 #[v] w fun e w' => e = .returned (.bool (l.all usedB)) ∧ Gr w w' := by
 obtain ⟨p, c, rfl⟩ := h.len
 have HC := Lib.hid (containsF_use l p c w h ho)
 clear h ho
 go_enter Tryz.func102, Tryz.ntmps102
 go_wp2_with fail
 go_at_call 87
 refine HC.out.mono ?_; rintro e w1 ⟨rfl, hg⟩
 go_wp2_with fail
 go_ret
 exact ⟨ret_bool (by simp), hg⟩
set_option maxRecDepth 100000 in
set_option maxHeartbeats 2000000 in
theorem
    acted_any (a : Ac) (w : World) (ho : AcOk a) : Calls Tryz.prog 106 #[.agg #[.int .i64 a.doo, .string a.mode.name, .int .i64 a.mode.pos]] w fun e w' => e = .returned (.bool (actedB a)) ∧ Gr w w' := by
 obtain ⟨doo, nm, po⟩ := a
 have hus : UsOk ⟨nm, po⟩ := ho.2
 have HU := Lib.hid (fun (w' : World) (v : Value) (h : Sl w' v 2 1 ([⟨nm, po⟩].flatMap usC)) => used_any [⟨nm, po⟩] v w' h (fun u hu => by rw [List.mem_singleton] at hu; subst hu; exact hus))
 clear ho hus
 dsimp only
 unfold actedB
 dsimp only
 by_cases h12 : doo = 1 ∨ doo = 2
 ·
  rw [if_pos h12]
  rcases h12 with rfl | rfl
  all_goals
   go_enter Tryz.func106, Tryz.ntmps106
   go_wp2_with fail
   refine name_calls (fun W hW => ?_)
   have hsl : ∃ g, Sl W (.slice (some ⟨g, 0, none⟩) 1 1) 2 1 ([(⟨nm, po⟩ : Us)].flatMap usC) ∧ Gr w W ∧ g = w.heap.size + 1 := by
    refine ⟨w.heap.size + 1, ?_, by rw [hW]; exact (Gr.alloc _ _).trans (Gr.alloc _ _), rfl⟩
    refine ⟨rfl, by decide, .inr ⟨w.heap.size + 1, 0, 1, rfl, fun _ => by rw [hW]; simp, fun j u hj => ?_⟩⟩
    have xb : boxAt W (w.heap.size + 1) [.string nm, .int .i64 po] := by rw [hW]; exact (boxAt.new_atN _ _ _ rfl (by simp))
    rw [Nat.zero_add]
    exact (xb j u (by simpa [usC] using hj)).1
   obtain ⟨g, hsl, hg, rfl⟩ := hsl
   clear hW
   go_at_call 102
   (with_reducible refine (HU.out W _ hsl).mono ?_); rintro e w1 ⟨rfl, hb⟩
   go_wp2_with fail
   go_ret
   exact ⟨ret_bool (by simp), hg.trans hb⟩
 ·
  rw [if_neg h12]
  have n1 : ((doo : Int) == 1) = false := by rw [beq_eq_false_iff_ne]; exact fun h => h12 (.inl h)
  have n2 : ((doo : Int) == 2) = false := by rw [beq_eq_false_iff_ne]; exact fun h => h12 (.inr h)
  by_cases h3 : doo = 3
  ·
   subst h3
   by_cases hz : nm.size = 0
   ·
    have q : nm.toList = [] := (toList_nil nm).2 hz
    have HZ := Lib.hid hz
    clear hz h12
    by_cases hp : po = 0
    ·
     have HX := Lib.hid (show decide ((3 : Int) = 3 ∧ nm.size = 0 ∧ po = 0) = true from decide_eq_true ⟨rfl, HZ.out, hp⟩)
     rw [HX.out]
     subst hp
     clear HX
     go_enter Tryz.func106, Tryz.ntmps106
     go_wp2_with fail
     go_ret
     exact ⟨rfl, Gr.alloc _ _⟩
    ·
     rw [decide_eq_false (fun h => hp h.2.2)]
     go_enter Tryz.func106, Tryz.ntmps106
     go_wp2_with fail
     go_ret
     exact ⟨rfl, Gr.alloc _ _⟩
   ·
    have q : ¬ nm.toList = [] := fun h => hz ((toList_nil nm).1 h)
    rw [decide_eq_false (fun h => hz h.2.1)]
    clear hz h12
    go_enter Tryz.func106, Tryz.ntmps106
    go_wp2_with fail
    go_ret
    exact ⟨rfl, Gr.alloc _ _⟩
  ·
   have n3 : ((doo : Int) == 3) = false := by rw [beq_eq_false_iff_ne]; exact h3
   rw [decide_eq_false (fun h => h3 h.1)]
   clear h12
   go_enter Tryz.func106, Tryz.ntmps106
   go_wp2_with fail
   go_ret
   exact ⟨rfl, Gr.alloc _ _⟩
set_option maxRecDepth 100000 in
theorem ruled1_any (a : Ac) (w : World) (ho : AcOk a) : Calls Tryz.prog 105 #[.agg #[.int .i64 a.doo, .string a.mode.name, .int .i64 a.mode.pos]] w fun e w' => e = .returned (.bool (!actedB a)) ∧ Gr w w' := by
 have HC := Lib.hid (fun w' => acted_any a w' ho)
 clear ho
 go_enter Tryz.func105, Tryz.ntmps105
 go_wp2_with fail
 refine name_calls (fun W hW => ?_)
 have hg : Gr w W := by rw [hW]; exact Gr.alloc _ _
 clear hW
 go_at_call 106
 (with_reducible refine (HC.out W).mono ?_); rintro e w1 ⟨rfl, hb⟩
 go_wp2_with fail
 go_ret
 exact ⟨rfl, hg.trans hb⟩
set_option maxRecDepth 100000 in
set_option maxHeartbeats 2000000 in
theorem
    indexF_act (l : List Ac) (p : Option Addr) (c : Nat) (w : World) (h : Sl w (.slice p l.length c) 3 l.length (l.flatMap acC)) (ho : ∀ u ∈ l, AcOk u) :
  Calls Tryz.prog 120 #[.slice p l.length c, .func (.func 105) #[] #[]] w fun e w' => (∃ k : Int, e = .returned (.int .i64 k) ∧ decide (0 ≤ k) = !(l.all actedB)) ∧ Gr w w' := by
 have hmx := h.2.1
 unfold maxLen at hmx
 have H := Lib.hid h
 have HO := Lib.hid ho
 obtain ⟨n, hn⟩ : ∃ n, l.length = n := ⟨_, rfl⟩
 have HN := Lib.hid hn
 rw [hn] at H hmx ⊢
 clear h ho hn
 go_enter Tryz.func120, Tryz.ntmps120
 go_wp2_with fail
 go_loopw [8] (fun i wr => ∃ k : Nat, k ≤ n ∧ i = .int .i64 (k : Int) ∧ Gr w wr ∧ Hid ((l.take k).all actedB = true)) (fun i _ => n - (intOf i).toNat)
 case atStart => exact ⟨0, Nat.zero_le _, rfl, Gr.refl _, Lib.hid rfl⟩
 case round =>
  obtain ⟨k, hk, rfl, hg, HA⟩ := hrel
  cases hx : l[k]? with
  |
   none =>
   have hkl : ¬ (k : Int) < (n : Int) := by
    rcases Nat.lt_or_ge k l.length with h | h
    · rw [List.getElem?_eq_getElem h] at hx; cases hx
    · have := HN.out; omega
   have HA2 := Lib.hid (show l.all actedB = true by have := HA.out; rw [List.take_of_length_le (by have := HN.out; omega)] at this; exact this)
   clear hx hk HA
   go_wp2_with fail
   go_ret
   exact ⟨⟨-1, rfl, by rw [HA2.out]; rfl⟩, hg⟩
  |
   some x =>
   have hkl : k < l.length := (List.getElem?_eq_some_iff.1 hx).1
   have hkn : k < n := by rw [← HN.out]; exact hkl
   obtain ⟨b, off, rfl, hb, hc⟩ := act_at (HN.out.symm ▸ H.out) hx
   have hok := HO.out x (List.mem_of_getElem? hx)
   obtain ⟨doo, nm, po⟩ := x
   have k0 : wr.cell? ⟨b, off + k * 3, none⟩ = some (.int .i64 doo) := hg.cell (hc 0 _ rfl)
   have k1 : wr.cell? ⟨b, off + k * 3 + 1, none⟩ = some (.string nm) := hg.cell (hc 1 _ rfl)
   have k2 : wr.cell? ⟨b, off + k * 3 + 2, none⟩ = some (.int .i64 po) := hg.cell (hc 2 _ rfl)
   have hbr := Nat.lt_of_lt_of_le hb hg.size
   have HX := Lib.hid hx
   have HKN := Lib.hid hkn
   have hkI : (k : Int) < (n : Int) := by omega
   have HL := Lib.hid (fun w' => ruled1_any ⟨doo, ⟨nm, po⟩⟩ w' hok)
   clear hx hk hkl hkn hc
   cases hb2 : actedB ⟨doo, ⟨nm, po⟩⟩
   all_goals
    rw [hb2] at HL
    have YES := Lib.hid (fun h : actedB ⟨doo, ⟨nm, po⟩⟩ = true => Lib.hid (show (l.take (k + 1)).all actedB = true by rw [List.take_add_one, HX.out]; simp only [Option.toList_some, List.all_append, HA.out, List.all_cons, List.all_nil, h, Bool.and_self]))
    have NO := Lib.hid (fun h : actedB ⟨doo, ⟨nm, po⟩⟩ = false => Lib.hid (show l.all actedB = false from List.all_eq_false.2 ⟨_, List.mem_of_getElem? HX.out, by rw [h]; simp⟩))
    have HB2 := Lib.hid hb2
    clear hb2
    go_wp2_with fail
    go_at_call 105
    (with_reducible refine (HL.out wr).mono ?_); rintro e w1 ⟨rfl, hb1⟩
    have hg1 := hg.trans hb1
    clear hb1
    go_wp2_with fail
   ·
    go_ret
    exact ⟨⟨k, rfl, by rw [(NO.out HB2.out).out]; simp⟩, hg1⟩
   ·
    go_roundw
    case rel => exact ⟨k + 1, HKN.out, by go_num, hg1, YES.out HB2.out⟩
    case measure => have := HKN.out; simp [intOf]; omega
set_option maxRecDepth 100000 in
theorem containsF_act (l : List Ac) (p : Option Addr) (c : Nat) (w : World) (h : Sl w (.slice p l.length c) 3 l.length (l.flatMap acC)) (ho : ∀ u ∈ l, AcOk u) :
  Calls Tryz.prog 104 #[.slice p l.length c, .func (.func 105) #[] #[]] w fun e w' => e = .returned (.bool (!(l.all actedB))) ∧ Gr w w' := by
 have HI := Lib.hid (indexF_act l p c w h ho)
 clear h ho
 go_enter Tryz.func104, Tryz.ntmps104
 go_wp2_with fail
 go_at_call 120
 refine HI.out.mono ?_; rintro e w1 ⟨⟨k, rfl, hk⟩, hg⟩
 have HK := Lib.hid hk
 clear hk
 go_wp2_with fail
 go_ret
 exact ⟨ret_bool HK.out, hg⟩
end Go.Proofs.YtkkopdmemjncdaaGreatDoor
