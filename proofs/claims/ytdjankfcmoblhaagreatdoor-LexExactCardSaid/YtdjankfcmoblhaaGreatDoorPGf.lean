/- Texts of mine, put together: LexW, LexV. No condition but what each says. -/
import Derived.Test.YtdjankfcmoblhaaGreatDoorPLexP

/- lex: kinds of bytes, runs of bytes, numbers, marks. No condition but a length's bound. -/
namespace Go.Proofs.YtdjankfcmoblhaaGreatDoor
open Go Go.RowKit

def digK (k : Nat) : Bool := decide (48 ≤ k) && decide (k ≤ 57)
def letK (k : Nat) : Bool := (decide (97 ≤ k) && decide (k ≤ 122)) || (decide (65 ≤ k) && decide (k ≤ 90)) || decide (k = 95)
def furK (k : Nat) : Bool := digK k || letK k
theorem kdig_any (k : Nat) (w : World) : Calls Tryz.prog 28 #[.int .i32 (k : Int)] w fun e w' => e = .returned (.bool (digK k)) ∧ w' = w := by
  obtain ⟨b, hb⟩ : ∃ b, digK k = b := ⟨_, rfl⟩
  rw [hb]
  unfold digK at hb
  have HB := Lib.hid hb
  clear hb
  by_cases h1 : 48 ≤ (k : Int)
  · by_cases h2 : (k : Int) ≤ 57
    all_goals
      have HR : Hid (b = decide ((k : Int) ≤ 57)) := Lib.hid (by
        have := HB.out
        rw [← this]
        have h3 : 48 ≤ k := by omega
        simp only [h3, decide_true, Bool.true_and]
        exact decide_eq_decide.2 ⟨fun h => by omega, fun h => by omega⟩)
      go_enter Tryz.func28, Tryz.ntmps28
      go_wp2_with fail
      go_ret
      refine ⟨?_, rfl⟩
      rw [HR.out]; simp [h2]
  · have HR : Hid (b = false) := Lib.hid (by have := HB.out; rw [← this]; have h3 : ¬ 48 ≤ k := (by omega); simp [h3])
    go_enter Tryz.func28, Tryz.ntmps28
    go_wp2_with fail
    go_ret
    refine ⟨?_, rfl⟩
    rw [HR.out]; rfl
set_option maxHeartbeats 2000000 in
theorem klet_any (k : Nat) (w : World) : Calls Tryz.prog 25 #[.int .i32 (k : Int)] w fun e w' => e = .returned (.bool (letK k)) ∧ w' = w := by
  obtain ⟨b, hb⟩ : ∃ b, letK k = b := ⟨_, rfl⟩
  rw [hb]
  have key : (97 ≤ k ∧ k ≤ 122 ∧ b = true) ∨ (65 ≤ k ∧ k ≤ 90 ∧ b = true) ∨ (k = 95 ∧ b = true) ∨ ((k < 97 ∨ 122 < k) ∧ (k < 65 ∨ 90 < k) ∧ k ≠ 95 ∧ b = false) := by
    rw [← hb]; unfold letK
    by_cases h1 : 97 ≤ k ∧ k ≤ 122
    · left; exact ⟨h1.1, h1.2, by simp [h1]⟩
    · by_cases h2 : 65 ≤ k ∧ k ≤ 90
      · right; left; exact ⟨h2.1, h2.2, by simp [h2]⟩
      · by_cases h3 : k = 95
        · right; right; left; exact ⟨h3, by simp [h3]⟩
        · right; right; right; exact ⟨by omega, by omega, h3, by simp; omega⟩
  clear hb
  rcases key with ⟨h1, h2, rfl⟩ | ⟨h1, h2, rfl⟩ | ⟨rfl, rfl⟩ | ⟨h1, h2, h3, rfl⟩
  · have e1 : 97 ≤ (k : Int) := by omega
    have e2 : (k : Int) ≤ 122 := by omega
    clear h1 h2
    go_enter Tryz.func25, Tryz.ntmps25
    go_wp2_with fail
    go_ret
    exact ⟨rfl, rfl⟩
  · have e1 : ¬ 97 ≤ (k : Int) := by omega
    have e2 : 65 ≤ (k : Int) := by omega
    have e3 : (k : Int) ≤ 90 := by omega
    clear h1 h2
    go_enter Tryz.func25, Tryz.ntmps25
    go_wp2_with fail
    go_ret
    exact ⟨rfl, rfl⟩
  · go_enter Tryz.func25, Tryz.ntmps25
    go_wp2_with fail
    go_ret
    exact ⟨rfl, rfl⟩
  · have e3 : ((k : Int) == 95) = false := by simp; omega
    have c1 : ¬ 97 ≤ (k : Int) ∨ ¬ (k : Int) ≤ 122 := by omega
    have c2 : ¬ 65 ≤ (k : Int) ∨ ¬ (k : Int) ≤ 90 := by omega
    have c0 : ¬ k = 95 := h3
    clear h1 h2 h3
    rcases c1 with c1 | c1 <;> rcases c2 with c2 | c2
    all_goals
      go_enter Tryz.func25, Tryz.ntmps25
      go_wp2_with fail
      try go_ret
      try exact ⟨rfl, rfl⟩
theorem kfur_any (k : Nat) (w : World) : Calls Tryz.prog 26 #[.int .i32 (k : Int)] w fun e w' => e = .returned (.bool (furK k)) ∧ w' = w := by
  unfold furK
  cases h1 : digK k with
  | true =>
    have hd := Lib.hid (fun w => h1 ▸ kdig_any k w)
    clear h1
    go_enter Tryz.func26, Tryz.ntmps26
    go_wp2_with (go_at_call 28; (with_reducible refine (hd.out _).mono ?_); rintro e w1 ⟨rfl, rfl⟩)
    go_ret
    exact ⟨rfl, rfl⟩
  | false =>
    have hd := Lib.hid (fun w => h1 ▸ kdig_any k w)
    obtain ⟨b, hb⟩ : ∃ b, letK k = b := ⟨_, rfl⟩
    have hl := Lib.hid (fun w => hb ▸ klet_any k w)
    rw [hb]
    clear h1 hb
    go_enter Tryz.func26, Tryz.ntmps26
    go_wp2_with first
      | (go_at_call 28; (with_reducible refine (hd.out _).mono ?_); rintro e w1 ⟨rfl, rfl⟩)
      | (go_at_call 25; (with_reducible refine (hl.out _).mono ?_); rintro e w1 ⟨rfl, rfl⟩)
    go_ret
    exact ⟨rfl, rfl⟩
theorem klf_any (k : Nat) (w : World) : Calls Tryz.prog 24 #[.int .i32 (k : Int)] w fun e w' => e = .returned (.bool ((k : Int) != 10)) ∧ w' = w := by
  go_enter Tryz.func24, Tryz.ntmps24
  go_wp2_with fail
  go_ret
  exact ⟨rfl, rfl⟩

/-! ### Runs of bytes -/

/-- How many bytes of a kind stand at a text's beginning. -/
def runL (f : UInt8 → Bool) (l : List UInt8) : Nat := (l.takeWhile fun c => decide (c.toNat < 128) && f c).length
theorem runL_nil (f : UInt8 → Bool) : runL f [] = 0 := rfl
theorem runL_cons (f : UInt8 → Bool) (c : UInt8) (l : List UInt8) : runL f (c :: l) = if (decide (c.toNat < 128) && f c) = true then runL f l + 1 else 0 := by
  unfold runL
  rw [List.takeWhile_cons]
  split <;> simp
theorem runL_le (f : UInt8 → Bool) : ∀ l : List UInt8, runL f l ≤ l.length
  | [] => Nat.le_refl _
  | c :: l => by rw [runL_cons, List.length_cons]; have := runL_le f l; split <;> omega
set_option maxHeartbeats 2000000 in
theorem run_fur (t : List UInt8) (a : Nat) (w : World) (hT : (t.length : Int) ≤ 4294967280) (ha : a ≤ t.length) :
    Calls Tryz.prog 23 #[.string (st t), .int .i64 (a : Int), .func (.func 26) #[] #[]] w fun e w' => e = .returned (.int .i64 ((a + runL furC (t.drop a) : Nat) : Int)) ∧ w' = w := by
  have hsz := st_size t
  obtain ⟨E, hE⟩ : ∃ E, a + runL furC (t.drop a) = E := ⟨_, rfl⟩
  have hE2 : E ≤ t.length := by have := runL_le furC (t.drop a); rw [List.length_drop] at this; omega
  rw [hE]
  have HT := Lib.hid hT
  clear hT
  go_enter Tryz.func23, Tryz.ntmps23
  go_wp2_with fail
  go_loopw [1] (fun i wr => ∃ k : Nat, i = .int .i64 (k : Int) ∧ k ≤ t.length ∧ Hid (k + runL furC (t.drop k) = E) ∧ wr = w) (fun i _ => t.length - (intOf i).toNat)
  case atStart => exact ⟨a, rfl, ha, hE, rfl⟩
  case round =>
    obtain ⟨k, rfl, hk, hE', rfl⟩ := hrel
    cases hc : t[k]? with
    | none =>
      have hl : k = t.length := by
        rcases Nat.lt_or_ge k t.length with h | h
        · rw [List.getElem?_eq_getElem h] at hc; cases hc
        · omega
      clear hc hk
      subst hl
      have HR : Hid (E = t.length) := Lib.hid (by have := hE'.out; rw [List.drop_length] at this; simpa [runL_nil] using this.symm)
      go_wp2_with fail
      go_ret
      refine ⟨?_, rfl⟩
      rw [HR.out]; rfl
    | some c =>
      have hkl : k < t.length := (List.getElem?_eq_some_iff.1 hc).1
      have hd := drop_at t k c hc
      have HE : Hid (E = k + if (decide (c.toNat < 128) && furC c) = true then runL furC (t.drop (k + 1)) + 1 else 0) := Lib.hid (by rw [← hE'.out, hd, runL_cons])
      have hix := fun w' => run_at (P := Tryz.prog) w' 9 t k c .i64 Tryz.underlying9 hc
      have hkI : (k : Int) < (t.length : Int) := by omega
      have hc256 := c.toNat_lt
      clear hc hd hE' hk
      obtain ⟨k1, hk1⟩ : ∃ x, k + 1 = x := ⟨_, rfl⟩
      have hwk : IntKind.i64.wrap ((k : Int) + 1) = (k1 : Int) := by rw [IntWalk.i64_in _ (by have := HT.out; omega)]; omega
      rw [hk1] at HE
      have HK1 := Lib.hid (show k + 1 = k1 ∧ k1 ≤ t.length from by omega)
      by_cases h128 : (c.toNat : Int) < 128
      · have hcv : IntKind.i32.wrap (c.toNat : Int) = (c.toNat : Int) := by rw [IntKind.wrap_i32]; omega
        obtain ⟨b, hb⟩ : ∃ b, furK c.toNat = b := ⟨_, rfl⟩
        have hcall := Lib.hid (fun w => hb ▸ kfur_any c.toNat w)
        have hfb : furC c = b := by rw [← hb]; rfl
        rw [hfb, show decide (c.toNat < 128) = true from by simp; omega, Bool.true_and] at HE
        clear hb hfb hk1
        cases b with
        | true =>
          go_wp2_with (go_at_call 26; (with_reducible refine (hcall.out _).mono ?_); rintro e w1 ⟨rfl, rfl⟩)
          go_roundw
          case rel =>
            refine ⟨k1, rfl, HK1.out.2, ?_, ?_⟩
            · unfold Hid; rw [HE.out]; have := HK1.out; simp; omega
            · trivial
          case measure => have := HK1.out; simp [intOf]; omega
        | false =>
          go_wp2_with (go_at_call 26; (with_reducible refine (hcall.out _).mono ?_); rintro e w1 ⟨rfl, rfl⟩)
          go_ret
          refine ⟨?_, rfl⟩
          rw [HE.out]; rfl
      · rw [show decide (c.toNat < 128) = false from by simp; omega, Bool.false_and] at HE
        go_wp2_with fail
        go_ret
        refine ⟨?_, rfl⟩
        rw [HE.out]; rfl
set_option maxHeartbeats 2000000 in
theorem run_dig (t : List UInt8) (a : Nat) (w : World) (hT : (t.length : Int) ≤ 4294967280) (ha : a ≤ t.length) :
    Calls Tryz.prog 23 #[.string (st t), .int .i64 (a : Int), .func (.func 28) #[] #[]] w fun e w' => e = .returned (.int .i64 ((a + runL digC (t.drop a) : Nat) : Int)) ∧ w' = w := by
  have hsz := st_size t
  obtain ⟨E, hE⟩ : ∃ E, a + runL digC (t.drop a) = E := ⟨_, rfl⟩
  have hE2 : E ≤ t.length := by have := runL_le digC (t.drop a); rw [List.length_drop] at this; omega
  rw [hE]
  have HT := Lib.hid hT
  clear hT
  go_enter Tryz.func23, Tryz.ntmps23
  go_wp2_with fail
  go_loopw [1] (fun i wr => ∃ k : Nat, i = .int .i64 (k : Int) ∧ k ≤ t.length ∧ Hid (k + runL digC (t.drop k) = E) ∧ wr = w) (fun i _ => t.length - (intOf i).toNat)
  case atStart => exact ⟨a, rfl, ha, hE, rfl⟩
  case round =>
    obtain ⟨k, rfl, hk, hE', rfl⟩ := hrel
    cases hc : t[k]? with
    | none =>
      have hl : k = t.length := by
        rcases Nat.lt_or_ge k t.length with h | h
        · rw [List.getElem?_eq_getElem h] at hc; cases hc
        · omega
      clear hc hk
      subst hl
      have HR : Hid (E = t.length) := Lib.hid (by have := hE'.out; rw [List.drop_length] at this; simpa [runL_nil] using this.symm)
      go_wp2_with fail
      go_ret
      refine ⟨?_, rfl⟩
      rw [HR.out]; rfl
    | some c =>
      have hkl : k < t.length := (List.getElem?_eq_some_iff.1 hc).1
      have hd := drop_at t k c hc
      have HE : Hid (E = k + if (decide (c.toNat < 128) && digC c) = true then runL digC (t.drop (k + 1)) + 1 else 0) := Lib.hid (by rw [← hE'.out, hd, runL_cons])
      have hix := fun w' => run_at (P := Tryz.prog) w' 9 t k c .i64 Tryz.underlying9 hc
      have hkI : (k : Int) < (t.length : Int) := by omega
      have hc256 := c.toNat_lt
      clear hc hd hE' hk
      obtain ⟨k1, hk1⟩ : ∃ x, k + 1 = x := ⟨_, rfl⟩
      have hwk : IntKind.i64.wrap ((k : Int) + 1) = (k1 : Int) := by rw [IntWalk.i64_in _ (by have := HT.out; omega)]; omega
      rw [hk1] at HE
      have HK1 := Lib.hid (show k + 1 = k1 ∧ k1 ≤ t.length from by omega)
      by_cases h128 : (c.toNat : Int) < 128
      · have hcv : IntKind.i32.wrap (c.toNat : Int) = (c.toNat : Int) := by rw [IntKind.wrap_i32]; omega
        obtain ⟨b, hb⟩ : ∃ b, digK c.toNat = b := ⟨_, rfl⟩
        have hcall := Lib.hid (fun w => hb ▸ kdig_any c.toNat w)
        have hfb : digC c = b := by rw [← hb]; rfl
        rw [hfb, show decide (c.toNat < 128) = true from by simp; omega, Bool.true_and] at HE
        clear hb hfb hk1
        cases b with
        | true =>
          go_wp2_with (go_at_call 28; (with_reducible refine (hcall.out _).mono ?_); rintro e w1 ⟨rfl, rfl⟩)
          go_roundw
          case rel =>
            refine ⟨k1, rfl, HK1.out.2, ?_, ?_⟩
            · unfold Hid; rw [HE.out]; have := HK1.out; simp; omega
            · trivial
          case measure => have := HK1.out; simp [intOf]; omega
        | false =>
          go_wp2_with (go_at_call 28; (with_reducible refine (hcall.out _).mono ?_); rintro e w1 ⟨rfl, rfl⟩)
          go_ret
          refine ⟨?_, rfl⟩
          rw [HE.out]; rfl
      · rw [show decide (c.toNat < 128) = false from by simp; omega, Bool.false_and] at HE
        go_wp2_with fail
        go_ret
        refine ⟨?_, rfl⟩
        rw [HE.out]; rfl
set_option maxHeartbeats 2000000 in
theorem run_lf (t : List UInt8) (a : Nat) (w : World) (hT : (t.length : Int) ≤ 4294967280) (ha : a ≤ t.length) :
    Calls Tryz.prog 23 #[.string (st t), .int .i64 (a : Int), .func (.func 24) #[] #[]] w fun e w' => e = .returned (.int .i64 ((a + runL notLF (t.drop a) : Nat) : Int)) ∧ w' = w := by
  have hsz := st_size t
  obtain ⟨E, hE⟩ : ∃ E, a + runL notLF (t.drop a) = E := ⟨_, rfl⟩
  have hE2 : E ≤ t.length := by have := runL_le notLF (t.drop a); rw [List.length_drop] at this; omega
  rw [hE]
  have HT := Lib.hid hT
  clear hT
  go_enter Tryz.func23, Tryz.ntmps23
  go_wp2_with fail
  go_loopw [1] (fun i wr => ∃ k : Nat, i = .int .i64 (k : Int) ∧ k ≤ t.length ∧ Hid (k + runL notLF (t.drop k) = E) ∧ wr = w) (fun i _ => t.length - (intOf i).toNat)
  case atStart => exact ⟨a, rfl, ha, hE, rfl⟩
  case round =>
    obtain ⟨k, rfl, hk, hE', rfl⟩ := hrel
    cases hc : t[k]? with
    | none =>
      have hl : k = t.length := by
        rcases Nat.lt_or_ge k t.length with h | h
        · rw [List.getElem?_eq_getElem h] at hc; cases hc
        · omega
      clear hc hk
      subst hl
      have HR : Hid (E = t.length) := Lib.hid (by have := hE'.out; rw [List.drop_length] at this; simpa [runL_nil] using this.symm)
      go_wp2_with fail
      go_ret
      refine ⟨?_, rfl⟩
      rw [HR.out]; rfl
    | some c =>
      have hkl : k < t.length := (List.getElem?_eq_some_iff.1 hc).1
      have hd := drop_at t k c hc
      have HE : Hid (E = k + if (decide (c.toNat < 128) && notLF c) = true then runL notLF (t.drop (k + 1)) + 1 else 0) := Lib.hid (by rw [← hE'.out, hd, runL_cons])
      have hix := fun w' => run_at (P := Tryz.prog) w' 9 t k c .i64 Tryz.underlying9 hc
      have hkI : (k : Int) < (t.length : Int) := by omega
      have hc256 := c.toNat_lt
      clear hc hd hE' hk
      obtain ⟨k1, hk1⟩ : ∃ x, k + 1 = x := ⟨_, rfl⟩
      have hwk : IntKind.i64.wrap ((k : Int) + 1) = (k1 : Int) := by rw [IntWalk.i64_in _ (by have := HT.out; omega)]; omega
      rw [hk1] at HE
      have HK1 := Lib.hid (show k + 1 = k1 ∧ k1 ≤ t.length from by omega)
      by_cases h128 : (c.toNat : Int) < 128
      · have hcv : IntKind.i32.wrap (c.toNat : Int) = (c.toNat : Int) := by rw [IntKind.wrap_i32]; omega
        obtain ⟨b, hb⟩ : ∃ b, ((c.toNat : Int) != 10) = b := ⟨_, rfl⟩
        have hcall := Lib.hid (fun w => hb ▸ klf_any c.toNat w)
        have hfb : notLF c = b := by rw [← hb]; unfold notLF; have := u8_eq c 10 (by omega); rw [show (10 : UInt8) = UInt8.ofNat 10 from rfl]; cases hx : ((c.toNat : Int) == 10) with | true => (have h : c.toNat = 10 := (by have := eq_of_beq hx; omega); rw [this.2 h]; simp [bne, hx]) | false => (have h : ¬ c.toNat = 10 := (fun h => by rw [h] at hx; revert hx; decide); have h2 : ¬ c = UInt8.ofNat 10 := (fun e => h (this.1 e)); simp only [bne, hx]; rw [beq_eq_false_iff_ne.2 h2])
        rw [hfb, show decide (c.toNat < 128) = true from by simp; omega, Bool.true_and] at HE
        clear hb hfb hk1
        cases b with
        | true =>
          go_wp2_with (go_at_call 24; (with_reducible refine (hcall.out _).mono ?_); rintro e w1 ⟨rfl, rfl⟩)
          go_roundw
          case rel =>
            refine ⟨k1, rfl, HK1.out.2, ?_, ?_⟩
            · unfold Hid; rw [HE.out]; have := HK1.out; simp; omega
            · trivial
          case measure => have := HK1.out; simp [intOf]; omega
        | false =>
          go_wp2_with (go_at_call 24; (with_reducible refine (hcall.out _).mono ?_); rintro e w1 ⟨rfl, rfl⟩)
          go_ret
          refine ⟨?_, rfl⟩
          rw [HE.out]; rfl
      · rw [show decide (c.toNat < 128) = false from by simp; omega, Bool.false_and] at HE
        go_wp2_with fail
        go_ret
        refine ⟨?_, rfl⟩
        rw [HE.out]; rfl

end Go.Proofs.YtdjankfcmoblhaaGreatDoor

/- lex: numbers, marks. No condition but a length's bound. -/
namespace Go.Proofs.YtdjankfcmoblhaaGreatDoor
open Go Go.RowKit

theorem numP_snoc (l : List UInt8) (c : UInt8) : numP (l ++ [c]) = min (10 * numP l + (c.toNat - 48)) 1073741824 := by
  unfold numP; rw [List.foldl_append]; rfl
theorem numP_le (l : List UInt8) : numP l ≤ 1073741824 := by
  rcases List.eq_nil_or_concat l with rfl | ⟨q, c, rfl⟩
  · decide
  · rw [List.concat_eq_append, numP_snoc]; omega
set_option maxHeartbeats 2000000 in
theorem number_any (l : List UInt8) (w : World) (hT : (l.length : Int) ≤ 4294967280) (hl : ∀ c ∈ l, digC c = true) : Calls Tryz.prog 29 #[.string (st l)] w fun e w' => e = .returned (.int .i64 (numP l : Int)) ∧ w' = w := by
  have hsz := st_size l
  have HL := Lib.hid hl
  have HT := Lib.hid hT
  clear hl hT
  go_enter Tryz.func29, Tryz.ntmps29
  go_wp2_with fail
  go_loopw [3, 7] (fun n i wr => ∃ k m : Nat, i = .int .i64 (k : Int) ∧ n = .int .i64 (m : Int) ∧ k ≤ l.length ∧ Hid (m = numP (l.take k)) ∧ wr = w) (fun _ i _ => l.length - (intOf i).toNat)
  case atStart => exact ⟨0, 0, rfl, rfl, Nat.zero_le _, Lib.hid rfl, rfl⟩
  case round =>
    obtain ⟨k, m, rfl, rfl, hk, hm, rfl⟩ := hrel
    cases hc : l[k]? with
    | none =>
      have hk' : k = l.length := by
        rcases Nat.lt_or_ge k l.length with h | h
        · rw [List.getElem?_eq_getElem h] at hc; cases hc
        · omega
      clear hc hk
      subst hk'
      go_wp2_with fail
      go_ret
      refine ⟨?_, rfl⟩
      have := hm.out
      rw [List.take_length] at this
      rw [← this]; rfl
    | some c =>
      have hkl : k < l.length := (List.getElem?_eq_some_iff.1 hc).1
      have hix := fun w' => run_at (P := Tryz.prog) w' 9 l k c .i64 Tryz.underlying9 hc
      have hkI : (k : Int) < (l.length : Int) := by omega
      have hd := HL.out c (List.mem_of_getElem? hc)
      unfold digC at hd
      simp only [Bool.and_eq_true, decide_eq_true_eq] at hd
      have hmle : m ≤ 1073741824 := by rw [hm.out]; exact numP_le _
      obtain ⟨k1, hk1⟩ : ∃ x, k + 1 = x := ⟨_, rfl⟩
      obtain ⟨m1, hm1⟩ : ∃ x, min (10 * m + (c.toNat - 48)) 1073741824 = x := ⟨_, rfl⟩
      have HK1 := Lib.hid (show k + 1 = k1 ∧ k1 ≤ l.length from by omega)
      have HM1 : Hid (m1 = numP (l.take k1)) := Lib.hid (by
        rw [← hk1, List.take_add_one, hc, Option.toList_some, numP_snoc, ← hm.out, hm1])
      have hwk : IntKind.i64.wrap ((k : Int) + 1) = (k1 : Int) := by rw [IntWalk.i64_in _ (by have := HT.out; omega)]; omega
      obtain ⟨d, hd'⟩ : ∃ d, c.toNat - 48 = d := ⟨_, rfl⟩
      have e1 : IntKind.u8.wrap ((c.toNat : Int) - 48) = (d : Int) := by rw [IntKind.wrap_u8]; omega
      have e2 : IntKind.i64.wrap (10 * (m : Int)) = 10 * (m : Int) := by rw [IntWalk.i64_in _ (by omega)]
      have e3 : IntKind.i64.wrap (10 * (m : Int) + (d : Int)) = 10 * (m : Int) + (d : Int) := by rw [IntWalk.i64_in _ (by omega)]
      have e4 : min (10 * (m : Int) + (d : Int)) 1073741824 = (m1 : Int) := by rw [← hm1]; omega
      have e5 : IntKind.i64.wrap (d : Int) = (d : Int) := by rw [IntWalk.i64_in _ (by omega)]
      clear hc hd hk hm hmle hm1 hd' hk1
      go_wp2_with fail
      go_roundw
      case rel => exact ⟨k1, m1, rfl, rfl, HK1.out.2, HM1, trivial⟩
      case measure => have := HK1.out; simp [intOf]; omega

/-! ### Marks -/

set_option maxHeartbeats 4000000 in
theorem mark_one (s : ByteArray) (a : Int) (k : Nat) (w : World) (hk : k = 40 ∨ k = 41 ∨ k = 124 ∨ k = 42 ∨ k = 43 ∨ k = 63 ∨ k = 123 ∨ k = 125 ∨ k = 44 ∨ k = 47 ∨ k = 60 ∨ k = 62) :
    Calls Tryz.prog 34 #[.string s, .int .i64 a, .int .i32 (k : Int)] w fun e w' => e = .returned (.int .i64 1) ∧ w' = w := by
  rcases hk with rfl | rfl | rfl | rfl | rfl | rfl | rfl | rfl | rfl | rfl | rfl | rfl
  all_goals
    go_enter Tryz.func34, Tryz.ntmps34
    go_wp2_with fail
    go_ret
    exact ⟨rfl, rfl⟩
set_option maxHeartbeats 4000000 in
theorem mark_no (s : ByteArray) (a : Int) (k : Nat) (w : World) (h0 : ((k : Int) == 61) = false) (h1 : ((k : Int) == 40) = false) (h2 : ((k : Int) == 41) = false) (h3 : ((k : Int) == 124) = false) (h4 : ((k : Int) == 42) = false) (h5 : ((k : Int) == 43) = false)
    (h6 : ((k : Int) == 63) = false) (h7 : ((k : Int) == 123) = false) (h8 : ((k : Int) == 125) = false) (h9 : ((k : Int) == 44) = false) (h10 : ((k : Int) == 47) = false) (h11 : ((k : Int) == 60) = false) (h12 : ((k : Int) == 62) = false) :
    Calls Tryz.prog 34 #[.string s, .int .i64 a, .int .i32 (k : Int)] w fun e w' => e = .returned (.int .i64 0) ∧ w' = w := by
  go_enter Tryz.func34, Tryz.ntmps34
  go_wp2_with fail
  go_ret
  exact ⟨rfl, rfl⟩
set_option maxHeartbeats 4000000 in
theorem mark_eq (t : List UInt8) (a : Nat) (w : World) (ha : a ≤ t.length) :
    Calls Tryz.prog 34 #[.string (st t), .int .i64 (a : Int), .int .i32 61] w fun e w' => e = .returned (.int .i64 (if pre [61, 62] (t.drop a) then 2 else 1)) ∧ w' = w := by
  have hsl := fun w' => run_from (P := Tryz.prog) w' 9 t a .i64 Tryz.underlying9 ha
  have hp := fun w' => Tryz.strings_HasPrefix (st (t.drop a)) (st [61, 62]) w'
  have e0 : (st [61, 62]) = { data := #[61, 62] } := rfl
  rw [e0] at hp
  cases hb : pre [61, 62] (t.drop a) with
  | true =>
    have hq : ∀ w', Calls Tryz.prog 50 #[.string (st (t.drop a)), .string { data := #[61, 62] }] w' fun e w2 => e = .returned (.bool true) ∧ w2 = w' := fun w' => (hp w').mono (by
      rintro e w2 ⟨rfl, rfl⟩
      refine ⟨?_, rfl⟩
      rw [st_data]; exact congrArg (fun b => Ending.returned (.bool b)) hb)
    have HP := Lib.hid hq
    clear hp hq hb
    go_enter Tryz.func34, Tryz.ntmps34
    go_wp2_with (go_at_call 50; (with_reducible refine (HP.out _).mono ?_); rintro e w' ⟨rfl, rfl⟩)
    go_ret
    exact ⟨rfl, rfl⟩
  | false =>
    have hq : ∀ w', Calls Tryz.prog 50 #[.string (st (t.drop a)), .string { data := #[61, 62] }] w' fun e w2 => e = .returned (.bool false) ∧ w2 = w' := fun w' => (hp w').mono (by
      rintro e w2 ⟨rfl, rfl⟩
      refine ⟨?_, rfl⟩
      rw [st_data]; exact congrArg (fun b => Ending.returned (.bool b)) hb)
    have HP := Lib.hid hq
    clear hp hq hb
    go_enter Tryz.func34, Tryz.ntmps34
    go_wp2_with (go_at_call 50; (with_reducible refine (HP.out _).mono ?_); rintro e w' ⟨rfl, rfl⟩)
    go_ret
    exact ⟨rfl, rfl⟩
/-- How long the mark at a place is. -/
theorem mark_any (t : List UInt8) (a : Nat) (c : UInt8) (w : World) (hc : t[a]? = some c) :
    Calls Tryz.prog 34 #[.string (st t), .int .i64 (a : Int), .int .i32 (c.toNat : Int)] w fun e w' => e = .returned (.int .i64 (markP (t.drop a) : Int)) ∧ w' = w := by
  have hd := drop_at t a c hc
  have hal : a ≤ t.length := Nat.le_of_lt (List.getElem?_eq_some_iff.1 hc).1
  have hc256 := c.toNat_lt
  have eq : ∀ k, k < 256 → (c.toNat = k ↔ c = UInt8.ofNat k) := fun k hk => (u8_eq c k hk).symm
  rw [hd, markP_cons]
  by_cases h61 : c = 61
  · subst h61
    rw [if_pos rfl]
    refine (mark_eq t a w hal).mono ?_
    rintro e w' ⟨rfl, rfl⟩
    refine ⟨?_, rfl⟩
    rw [hd]
    cases t.drop (a + 1) with
    | nil => rfl
    | cons d l =>
      rw [pre_cons2, pre_cons1]
      cases (62 == d) <;> rfl
  · rw [if_neg h61]
    have n61 : ¬ c.toNat = 61 := fun h => h61 ((eq 61 (by omega)).1 h)
    by_cases hm : c.toNat = 40 ∨ c.toNat = 41 ∨ c.toNat = 124 ∨ c.toNat = 42 ∨ c.toNat = 43 ∨ c.toNat = 63 ∨ c.toNat = 123 ∨ c.toNat = 125 ∨ c.toNat = 44 ∨ c.toNat = 47 ∨ c.toNat = 60 ∨ c.toNat = 62
    · rw [if_pos]
      · exact mark_one _ _ _ w hm
      · rcases hm with h | h | h | h | h | h | h | h | h | h | h | h
        all_goals rw [(eq _ (by omega)).1 h]; decide
    · rw [if_neg]
      · simp only [not_or] at hm
        have ne : ∀ k : Nat, ¬ c.toNat = k → ((c.toNat : Int) == (k : Int)) = false := fun k h => by rw [beq_eq_false_iff_ne]; omega
        exact mark_no _ _ _ w (ne 61 n61) (ne 40 hm.1) (ne 41 hm.2.1) (ne 124 hm.2.2.1) (ne 42 hm.2.2.2.1) (ne 43 hm.2.2.2.2.1) (ne 63 hm.2.2.2.2.2.1) (ne 123 hm.2.2.2.2.2.2.1) (ne 125 hm.2.2.2.2.2.2.2.1) (ne 44 hm.2.2.2.2.2.2.2.2.1) (ne 47 hm.2.2.2.2.2.2.2.2.2.1) (ne 60 hm.2.2.2.2.2.2.2.2.2.2.1) (ne 62 hm.2.2.2.2.2.2.2.2.2.2.2)
      · intro h
        apply hm
        simp only [marks1, List.mem_cons, List.not_mem_nil, or_false] at h
        rcases h with h | h | h | h | h | h | h | h | h | h | h | h <;> subst h <;> decide
/-- A rune that is no byte is no mark. -/
theorem mark_high (s : ByteArray) (a : Int) (k : Nat) (w : World) (hk : 128 ≤ k) :
    Calls Tryz.prog 34 #[.string s, .int .i64 a, .int .i32 (k : Int)] w fun e w' => e = .returned (.int .i64 0) ∧ w' = w := by
  have ne : ∀ m : Nat, m < 128 → ((k : Int) == (m : Int)) = false := fun m h => by rw [beq_eq_false_iff_ne]; omega
  exact mark_no _ _ _ w (ne 61 (by omega)) (ne 40 (by omega)) (ne 41 (by omega)) (ne 124 (by omega)) (ne 42 (by omega)) (ne 43 (by omega)) (ne 63 (by omega)) (ne 123 (by omega)) (ne 125 (by omega)) (ne 44 (by omega)) (ne 47 (by omega)) (ne 60 (by omega)) (ne 62 (by omega))

end Go.Proofs.YtdjankfcmoblhaaGreatDoor
