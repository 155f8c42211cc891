/- Texts of mine, put together: R4a, R4b, R4ch, R4c0, R4c1, R4c2, R4c3, R4c4, R4c5, R4c6, R4c7, R4c8, R4c9, R4c, R4d. No condition but what each says. -/
import Derived.Test.YtdjankfcmoblhaaGreatDoorPGg
import Derived.Test.YtdjankfcmoblhaaGreatDoorPGj
import Derived.Deep.CutBlock
import Derived.Deep.DeepCutAuto
import Derived.Test.YtdjankfcmoblhaaGreatDoorPR3m

/- bolterref4: letter, digit, number. No condition but a length's bound. Printed by gen_ref4.py. -/
namespace Go.Proofs.YtdjankfcmoblhaaGreatDoor
open Go Go.RowKit

theorem dig4_any (k : Nat) (w : World) : Calls Tryz.prog 15 #[.int .u8 (k : Int)] w fun e w' => e = .returned (.bool (digK k)) ∧ w' = w := by
  obtain ⟨b, hb⟩ : ∃ b, digK k = b := ⟨_, rfl⟩
  rw [hb]
  unfold digK at hb
  have HB := Lib.hid hb
  clear hb
  by_cases h1 : 48 ≤ (k : Int)
  · by_cases h2 : (k : Int) ≤ 57
    all_goals
      have HR : Hid (b = decide ((k : Int) ≤ 57)) := Lib.hid (by
        have := HB.out
        rw [← this]
        have h3 : 48 ≤ k := by omega
        simp only [h3, decide_true, Bool.true_and]
        exact decide_eq_decide.2 ⟨fun h => by omega, fun h => by omega⟩)
      go_enter Tryz.func15, Tryz.ntmps15
      go_wp2_with fail
      go_ret
      refine ⟨?_, rfl⟩
      rw [HR.out]; simp [h2]
  · have HR : Hid (b = false) := Lib.hid (by have := HB.out; rw [← this]; have h3 : ¬ 48 ≤ k := (by omega); simp [h3])
    go_enter Tryz.func15, Tryz.ntmps15
    go_wp2_with fail
    go_ret
    refine ⟨?_, rfl⟩
    rw [HR.out]; rfl
set_option maxHeartbeats 2000000 in
theorem let4_any (k : Nat) (w : World) : Calls Tryz.prog 14 #[.int .u8 (k : Int)] w fun e w' => e = .returned (.bool (letK k)) ∧ w' = w := by
  obtain ⟨b, hb⟩ : ∃ b, letK k = b := ⟨_, rfl⟩
  rw [hb]
  have key : (97 ≤ k ∧ k ≤ 122 ∧ b = true) ∨ (65 ≤ k ∧ k ≤ 90 ∧ b = true) ∨ (k = 95 ∧ b = true) ∨ ((k < 97 ∨ 122 < k) ∧ (k < 65 ∨ 90 < k) ∧ k ≠ 95 ∧ b = false) := by
    rw [← hb]; unfold letK
    by_cases h1 : 97 ≤ k ∧ k ≤ 122
    · left; exact ⟨h1.1, h1.2, by simp [h1]⟩
    · by_cases h2 : 65 ≤ k ∧ k ≤ 90
      · right; left; exact ⟨h2.1, h2.2, by simp [h2]⟩
      · by_cases h3 : k = 95
        · right; right; left; exact ⟨h3, by simp [h3]⟩
        · right; right; right; exact ⟨by omega, by omega, h3, by simp; omega⟩
  clear hb
  rcases key with ⟨h1, h2, rfl⟩ | ⟨h1, h2, rfl⟩ | ⟨rfl, rfl⟩ | ⟨h1, h2, h3, rfl⟩
  · have e1 : 97 ≤ (k : Int) := by omega
    have e2 : (k : Int) ≤ 122 := by omega
    clear h1 h2
    go_enter Tryz.func14, Tryz.ntmps14
    go_wp2_with fail
    go_ret
    exact ⟨rfl, rfl⟩
  · have e1 : ¬ 97 ≤ (k : Int) := by omega
    have e2 : 65 ≤ (k : Int) := by omega
    have e3 : (k : Int) ≤ 90 := by omega
    clear h1 h2
    go_enter Tryz.func14, Tryz.ntmps14
    go_wp2_with fail
    go_ret
    exact ⟨rfl, rfl⟩
  · go_enter Tryz.func14, Tryz.ntmps14
    go_wp2_with fail
    go_ret
    exact ⟨rfl, rfl⟩
  · have e3 : ((k : Int) == 95) = false := by simp; omega
    have c1 : ¬ 97 ≤ (k : Int) ∨ ¬ (k : Int) ≤ 122 := by omega
    have c2 : ¬ 65 ≤ (k : Int) ∨ ¬ (k : Int) ≤ 90 := by omega
    have c0 : ¬ k = 95 := h3
    clear h1 h2 h3
    rcases c1 with c1 | c1 <;> rcases c2 with c2 | c2
    all_goals
      go_enter Tryz.func14, Tryz.ntmps14
      go_wp2_with fail
      try go_ret
      try exact ⟨rfl, rfl⟩
set_option maxHeartbeats 2000000 in
theorem number4_any (l : List UInt8) (w : World) (hT : (l.length : Int) ≤ 4294967280) (hl : ∀ c ∈ l, digC c = true) : Calls Tryz.prog 17 #[.string (st l)] w fun e w' => e = .returned (.int .i64 (numP l : Int)) ∧ w' = w := by
  have hsz := st_size l
  have HL := Lib.hid hl
  have HT := Lib.hid hT
  clear hl hT
  go_enter Tryz.func17, Tryz.ntmps17
  go_wp2_with fail
  go_loopw [3, 4] (fun n i wr => ∃ k m : Nat, i = .int .i64 (k : Int) ∧ n = .int .i64 (m : Int) ∧ k ≤ l.length ∧ Hid (m = numP (l.take k)) ∧ wr = w) (fun _ i _ => l.length - (intOf i).toNat)
  case atStart => exact ⟨0, 0, rfl, rfl, Nat.zero_le _, Lib.hid rfl, rfl⟩
  case round =>
    obtain ⟨k, m, rfl, rfl, hk, hm, rfl⟩ := hrel
    cases hc : l[k]? with
    | none =>
      have hk' : k = l.length := by
        rcases Nat.lt_or_ge k l.length with h | h
        · rw [List.getElem?_eq_getElem h] at hc; cases hc
        · omega
      clear hc hk
      subst hk'
      go_wp2_with fail
      go_ret
      refine ⟨?_, rfl⟩
      have := hm.out
      rw [List.take_length] at this
      rw [← this]; rfl
    | some c =>
      have hkl : k < l.length := (List.getElem?_eq_some_iff.1 hc).1
      have hix := fun w' => run_at (P := Tryz.prog) w' 9 l k c .i64 Tryz.underlying9 hc
      have hkI : (k : Int) < (l.length : Int) := by omega
      have hd := HL.out c (List.mem_of_getElem? hc)
      unfold digC at hd
      simp only [Bool.and_eq_true, decide_eq_true_eq] at hd
      have hmle : m ≤ 1073741824 := by rw [hm.out]; exact numP_le _
      obtain ⟨k1, hk1⟩ : ∃ x, k + 1 = x := ⟨_, rfl⟩
      obtain ⟨m1, hm1⟩ : ∃ x, min (10 * m + (c.toNat - 48)) 1073741824 = x := ⟨_, rfl⟩
      have HK1 := Lib.hid (show k + 1 = k1 ∧ k1 ≤ l.length from by omega)
      have HM1 : Hid (m1 = numP (l.take k1)) := Lib.hid (by
        rw [← hk1, List.take_add_one, hc, Option.toList_some, numP_snoc, ← hm.out, hm1])
      have hwk : IntKind.i64.wrap ((k : Int) + 1) = (k1 : Int) := by rw [IntWalk.i64_in _ (by have := HT.out; omega)]; omega
      obtain ⟨d, hd'⟩ : ∃ d, c.toNat - 48 = d := ⟨_, rfl⟩
      have e1 : IntKind.u8.wrap ((c.toNat : Int) - 48) = (d : Int) := by rw [IntKind.wrap_u8]; omega
      have e2 : IntKind.i64.wrap (10 * (m : Int)) = 10 * (m : Int) := by rw [IntWalk.i64_in _ (by omega)]
      have e3 : IntKind.i64.wrap (10 * (m : Int) + (d : Int)) = 10 * (m : Int) + (d : Int) := by rw [IntWalk.i64_in _ (by omega)]
      have e5 : IntKind.i64.wrap (d : Int) = (d : Int) := by rw [IntWalk.i64_in _ (by omega)]
      by_cases hgt : (1073741824 : Int) < 10 * (m : Int) + (d : Int)
      · have e6 : m1 = 1073741824 := by omega
        subst e6
        clear hc hd hk hm hmle hm1 hd' hk1
        go_wp2_with fail
        go_roundw
        case rel => exact ⟨k1, 1073741824, rfl, rfl, HK1.out.2, HM1, trivial⟩
        case measure => have := HK1.out; simp [intOf]; omega
      · have e6 : 10 * (m : Int) + (d : Int) = (m1 : Int) := by omega
        have e8 := e3.trans e6
        have e7 : ¬ (1073741824 : Int) < (m1 : Int) := by omega
        clear hc hd hk hm hmle hm1 hd' hk1 e6 hgt e3
        go_wp2_with fail
        go_roundw
        case rel => exact ⟨k1, m1, rfl, rfl, HK1.out.2, HM1, trivial⟩
        case measure => have := HK1.out; simp [intOf]; omega

end Go.Proofs.YtdjankfcmoblhaaGreatDoor

/- bolterref4: mark. No condition but a length's bound. Printed by gen_ref4.py. -/
namespace Go.Proofs.YtdjankfcmoblhaaGreatDoor
open Go Go.RowKit

def m4L : List UInt8 := [40, 41, 124, 42, 43, 63, 123, 125, 44, 47, 60, 62, 61]
theorem m4_st : st m4L = { data := #[40, 41, 124, 42, 43, 63, 123, 125, 44, 47, 60, 62, 61] } := rfl
theorem m4_mem (c : UInt8) (l : List UInt8) : (∃ i : Nat, i < 13 ∧ m4L[i]? = some c) ↔ 0 < markP (c :: l) := by
  rw [markP_cons]
  constructor
  · rintro ⟨i, hi, h⟩
    have hm : c ∈ m4L := List.mem_of_getElem? h
    split
    · split <;> omega
    · rename_i h61
      rw [if_pos]; omega
      simp only [m4L, List.mem_cons, List.not_mem_nil, or_false] at hm
      simp only [marks1, List.mem_cons, List.not_mem_nil, or_false]
      rcases hm with h | h | h | h | h | h | h | h | h | h | h | h | h <;> simp_all
  · intro h
    have hm : c ∈ m4L := by
      split at h
      · rename_i h61; subst h61; simp [m4L]
      · split at h
        · rename_i h61 hm; simp only [marks1, List.mem_cons, List.not_mem_nil, or_false] at hm; simp only [m4L, List.mem_cons, List.not_mem_nil, or_false]
          rcases hm with h | h | h | h | h | h | h | h | h | h | h | h <;> simp [h]
        · omega
    obtain ⟨i, hi⟩ := List.mem_iff_getElem?.1 hm
    exact ⟨i, (List.getElem?_eq_some_iff.1 hi).1, hi⟩
theorem boxAt.far5 {w : World} {b b' : Nat} {vs : List Value} (h : boxAt w b vs) (hp : b' ≠ b) (v0 v1 v2 v3 v4 : Value) :
    boxAt (((((w.setCell ⟨b', 0, none⟩ v0).setCell ⟨b', 1, none⟩ v1).setCell ⟨b', 2, none⟩ v2).setCell ⟨b', 3, none⟩ v3).setCell ⟨b', 4, none⟩ v4) b vs :=
  ((((h.far ⟨b', 0, none⟩ _ hp).far ⟨b', 1, none⟩ _ hp).far ⟨b', 2, none⟩ _ hp).far ⟨b', 3, none⟩ _ hp).far ⟨b', 4, none⟩ _ hp
theorem boxFar9 {w : World} {b b' : Nat} {vs : List Value} (h : boxAt w b vs) (hp : b' ≠ b) (v0 v1 v2 v3 v4 v5 v6 v7 v8 : Value) : boxAt (puts9 w b' v0 v1 v2 v3 v4 v5 v6 v7 v8) b vs :=
  ((((((((h.far ⟨b', 0, none⟩ _ hp).far ⟨b', 1, none⟩ _ hp).far ⟨b', 2, none⟩ _ hp).far ⟨b', 3, none⟩ _ hp).far ⟨b', 4, none⟩ _ hp).far ⟨b', 5, none⟩ _ hp).far ⟨b', 6, none⟩ _ hp).far ⟨b', 7, none⟩ _ hp).far ⟨b', 8, none⟩ _ hp

set_option maxRecDepth 100000 in
set_option maxHeartbeats 8000000 in
theorem mark4_ok (t : List UInt8) (a a1 : Nat) (c : UInt8) (w : World) (hT : (t.length : Int) ≤ 4294967280) (hc : t[a]? = some c) (ha1 : a + 1 = a1) (n : Nat) (hn : markP (t.drop a) = n) (h0 : 0 < n) :
    Calls Tryz.prog 22 #[.string (st t), .int .i64 (a : Int), .agg #[.int .i64 0, .int .i64 (a : Int), .int .i64 (a1 : Int), .string { data := #[] }, .int .i64 0, .int .u64 0, .int .u64 0, .int .u64 0, .int .u64 0]] w fun e w' => e = .returned (.tuple #[.agg #[.int .i64 5, .int .i64 (a : Int), .int .i64 ((a + n : Nat) : Int), .string (st ((t.drop a).take n)), .int .i64 0, .int .u64 0, .int .u64 0, .int .u64 0, .int .u64 0], .agg #[.int .i64 0, .int .i64 0, .int .i64 0, .int .i64 0, .slice none 0 0]]) ∧ Gr w w' := by
  have hsz := st_size t
  have ha := (List.getElem?_eq_some_iff.1 hc).1
  have hd := drop_at t a c hc
  have hix := fun w' => run_at (P := Tryz.prog) w' 9 t a c .i64 Tryz.underlying9 hc
  have hw1 : IntKind.i64.wrap ((a : Int) + 1) = (a1 : Int) := by rw [IntWalk.i64_in _ (by omega)]; omega
  obtain ⟨a2, ha2⟩ : ∃ x, a + 2 = x := ⟨_, rfl⟩
  have hw2 : IntKind.i64.wrap ((a : Int) + 2) = (a2 : Int) := by rw [IntWalk.i64_in _ (by omega)]; omega
  obtain ⟨b2, hb2⟩ : ∃ b, pre [61, 62] (t.drop a) = b := ⟨_, rfl⟩
  obtain ⟨e1, he1⟩ : ∃ x, (if b2 then a2 else a1) = x := ⟨_, rfl⟩
  have hp2 : b2 = true → a2 ≤ t.length := fun h => by have := pre_len (hb2.trans h); rw [List.length_drop] at this; simp only [List.length_cons, List.length_nil] at this; omega
  have hel : a ≤ e1 ∧ e1 ≤ t.length := by
    rw [← he1]
    cases b2
    · simp; omega
    · have := hp2 rfl; simp; omega
  have hsub := fun w' => run_sub (P := Tryz.prog) w' 9 t a e1 Tryz.underlying9 hel.1 hel.2
  obtain ⟨tx, htx⟩ : ∃ x, (t.drop a).take (e1 - a) = x := ⟨_, rfl⟩
  rw [htx] at hsub
  have HM : Hid (∀ i : Nat, i < 13 → m4L[i]? = some c → 0 < markP (t.drop a)) := fun i hi h => by rw [hd]; exact (m4_mem c _).1 ⟨i, hi, h⟩
  have HM2 : Hid (0 < markP (t.drop a) → ∃ i : Nat, i < 13 ∧ m4L[i]? = some c) := fun h => by rw [hd] at h; exact (m4_mem c _).2 h
  have HE : Hid (0 < markP (t.drop a) → e1 = a + markP (t.drop a)) := fun h => by
    rw [hd, markP_cons] at h ⊢
    rw [hd, ha1] at hb2
    rw [← he1, ← hb2]
    have e : pre [61, 62] (c :: t.drop a1) = ((61 : UInt8) == c && pre [62] (t.drop a1)) := rfl
    rw [e, ha1]
    by_cases h61 : c = 61
    · subst h61
      rw [if_pos rfl, beq_self_eq_true, Bool.true_and]
      split <;> omega
    · rw [if_neg h61] at h ⊢
      rw [show ((61 : UInt8) == c) = false by rw [beq_eq_false_iff_ne]; exact fun h => h61 h.symm, Bool.false_and, if_neg (by decide)]
      split
      · omega
      · rename_i hm; rw [if_neg hm] at h; omega
  have HSL : Hid (a2 ≤ t.length → ∀ w', (Instr.slice 9 (.string (st t)) (some (.int .i64 (a : Int))) (some (.int .i64 (a2 : Int))) none).run Tryz.prog w' = .ok (.string (st ((t.drop a).take 2))) w') := fun h w' => by
    have := run_sub (P := Tryz.prog) w' 9 t a a2 Tryz.underlying9 (by omega) h
    rw [show a2 - a = 2 by omega] at this; exact this
  have HQ : Hid (((t.drop a).take 2 == [61, 62]) = b2) := Lib.hid (by rw [← hb2, pre_take]; rfl)
  have HN := Lib.hid hn
  have HA := Lib.hid (show a < t.length ∧ a + 1 = a1 ∧ a + 2 = a2 ∧ (if b2 then a2 else a1) = e1 ∧ (b2 = true → a2 ≤ t.length) from ⟨ha, ha1, ha2, he1, hp2⟩)
  have HC := Lib.hid hc
  have HTX := Lib.hid htx
  have H0 := Lib.hid h0
  clear h0
  clear hp2 hn hd he1 htx hc hb2 ha hel
  go_enter Tryz.func22, Tryz.ntmps22
  go_upto_region 2 with fail
  refine name_world (fun W hW => ?_)
  obtain ⟨xx, xq, xf, hg, hs⟩ : boxAt W w.heap.size [.int .i64 5, .int .i64 (a : Int), .int .i64 (a1 : Int), .string { data := #[] }, .int .i64 0, .int .u64 0, .int .u64 0, .int .u64 0, .int .u64 0] ∧ boxAt W (w.heap.size + 1) [.int .i64 0, .int .i64 0, .int .i64 0, .string { data := #[] }, .int .i64 0, .int .u64 0, .int .u64 0, .int .u64 0, .int .u64 0] ∧ boxAt W (w.heap.size + 2) [.int .i64 0, .int .i64 0, .int .i64 0, .int .i64 0, .slice none 0 0] ∧ Gr w W ∧ W.heap.size = w.heap.size + 3 := by
    subst hW
    obtain ⟨x0, x1, x2, x3, x4⟩ := boxes3 w [.int .i64 0, .int .i64 (a : Int), .int .i64 (a1 : Int), .string { data := #[] }, .int .i64 0, .int .u64 0, .int .u64 0, .int .u64 0, .int .u64 0] [.int .i64 0, .int .i64 0, .int .i64 0, .string { data := #[] }, .int .i64 0, .int .u64 0, .int .u64 0, .int .u64 0, .int .u64 0] [.int .i64 0, .int .i64 0, .int .i64 0, .int .i64 0, .slice none 0 0] 38 38 25
    first
    | exact ⟨x0.put 0 _ (by simp), x1.far _ _ (by show w.heap.size ≠ _; omega), x2.far _ _ (by show w.heap.size ≠ _; omega), Below.setCell (p := ⟨w.heap.size, 0, none⟩) x3 (Nat.le_refl _) _, by rw [size_set]; exact x4⟩
    | exact boxes3 w [.int .i64 5, .int .i64 (a : Int), .int .i64 (a1 : Int), .string { data := #[] }, .int .i64 0, .int .u64 0, .int .u64 0, .int .u64 0, .int .u64 0] [.int .i64 0, .int .i64 0, .int .i64 0, .string { data := #[] }, .int .i64 0, .int .u64 0, .int .u64 0, .int .u64 0, .int .u64 0] [.int .i64 0, .int .i64 0, .int .i64 0, .int .i64 0, .slice none 0 0] 38 38 25
  clear hW hs
  have hqf : w.heap.size + 1 ≠ w.heap.size + 2 := by omega
  have hfq : w.heap.size + 2 ≠ w.heap.size + 1 := by omega
  have hxq : w.heap.size ≠ w.heap.size + 1 := by omega
  have hxf : w.heap.size ≠ w.heap.size + 2 := by omega
  have hlq : w.heap.size ≤ w.heap.size + 1 := by omega
  have hlf : w.heap.size ≤ w.heap.size + 2 := by omega
  go_cut [23] from 11 to 22 (fun v wx => v = .bool b2 ∧ W = wx)
  case first =>
    by_cases hle : a2 ≤ t.length
    · have hsl := HSL.out hle
      obtain ⟨q, hq⟩ : ∃ q, (t.drop a).take 2 = q := ⟨_, rfl⟩
      have hQ := HQ.out
      rw [hq] at hsl hQ
      have hlI : (a1 : Int) < (t.length : Int) := by have := HA.out; omega
      have hbs : ((st q).toList == (st [61, 62]).toList) = b2 := by rw [st_beq]; exact hQ
      have hbs2 : ((st q).toList == ({ data := #[61, 62] } : ByteArray).toList) = b2 := hbs
      have hbs3 : ((st q).toList == [61, 62]) = b2 := by rw [st_list]; exact hQ
      clear hle hq hQ hsub
      go_wp2_with fail
      go_meet
      case rel => exact ⟨rfl, rfl⟩
    · have hlI : ¬ (a1 : Int) < (t.length : Int) := by have := HA.out; omega
      have hb2f : b2 = false := by cases b2; rfl; exact absurd (HA.out.2.2.2.2 rfl) hle
      clear hle hsub
      go_wp2_with fail
      go_meet
      case rel => exact ⟨by rw [hb2f], rfl⟩
  case rest =>
    obtain ⟨rfl, rfl⟩ := hcut
    go_upto_if 23 with fail
    go_cut [24] from 25 to 26 (fun _ wx => boxAt wx w.heap.size [.int .i64 5, .int .i64 (a : Int), .int .i64 (e1 : Int), .string { data := #[] }, .int .i64 0, .int .u64 0, .int .u64 0, .int .u64 0, .int .u64 0] ∧ boxAt wx (w.heap.size + 1) [.int .i64 0, .int .i64 0, .int .i64 0, .string { data := #[] }, .int .i64 0, .int .u64 0, .int .u64 0, .int .u64 0, .int .u64 0] ∧ boxAt wx (w.heap.size + 2) [.int .i64 0, .int .i64 0, .int .i64 0, .int .i64 0, .slice none 0 0] ∧ Gr w wx)
    case first =>
      have c_x0 := xx.cell 0 _ rfl
      have c_x1 := xx.cell 1 _ rfl
      have c_x2 := xx.cell 2 _ rfl
      have c_x3 := xx.cell 3 _ rfl
      have c_x4 := xx.cell 4 _ rfl
      have c_x5 := xx.cell 5 _ rfl
      have c_x6 := xx.cell 6 _ rfl
      have c_x7 := xx.cell 7 _ rfl
      have c_x8 := xx.cell 8 _ rfl
      have m_x0 := xx.mark 0 _ rfl
      have m_x1 := xx.mark 1 _ rfl
      have m_x2 := xx.mark 2 _ rfl
      have m_x3 := xx.mark 3 _ rfl
      have m_x4 := xx.mark 4 _ rfl
      have m_x5 := xx.mark 5 _ rfl
      have m_x6 := xx.mark 6 _ rfl
      have m_x7 := xx.mark 7 _ rfl
      have m_x8 := xx.mark 8 _ rfl
      have l_x := xx.lt (Nat.succ_pos _)
      have hA := HA.out.2.2.2.1
      clear hsub
      cases b2
      · simp only [Bool.false_eq_true, if_false] at hA
        subst hA
        go_wp2_with fail
        go_meet
        case rel => exact ⟨xx, xq, xf, hg⟩
      · simp only [if_true] at hA
        subst hA
        go_wp2_with fail
        go_meet
        case rel => exact ⟨xx.put 2 _ (by simp), xq.far _ _ hxq, xf.far _ _ hxf, Below.setCell (p := ⟨w.heap.size, 2, none⟩) hg (Nat.le_refl _) _⟩
    case rest =>
      clear xx xq xf hg
      obtain ⟨xx, xq, xf, hg⟩ := hcut
      have c_x0 := xx.cell 0 _ rfl
      have c_x1 := xx.cell 1 _ rfl
      have c_x2 := xx.cell 2 _ rfl
      have c_x3 := xx.cell 3 _ rfl
      have c_x4 := xx.cell 4 _ rfl
      have c_x5 := xx.cell 5 _ rfl
      have c_x6 := xx.cell 6 _ rfl
      have c_x7 := xx.cell 7 _ rfl
      have c_x8 := xx.cell 8 _ rfl
      have m_x0 := xx.mark 0 _ rfl
      have m_x1 := xx.mark 1 _ rfl
      have m_x2 := xx.mark 2 _ rfl
      have m_x3 := xx.mark 3 _ rfl
      have m_x4 := xx.mark 4 _ rfl
      have m_x5 := xx.mark 5 _ rfl
      have m_x6 := xx.mark 6 _ rfl
      have m_x7 := xx.mark 7 _ rfl
      have m_x8 := xx.mark 8 _ rfl
      have l_x := xx.lt (Nat.succ_pos _)
      go_upto_block 0 with fail
      refine name_world (fun W3 hW => ?_)
      replace xx : boxAt W3 w.heap.size [.int .i64 5, .int .i64 (a : Int), .int .i64 (e1 : Int), .string (st tx), .int .i64 0, .int .u64 0, .int .u64 0, .int .u64 0, .int .u64 0] := by rw [hW]; exact xx.put 3 _ (by simp)
      replace xq : boxAt W3 (w.heap.size + 1) [.int .i64 0, .int .i64 0, .int .i64 0, .string { data := #[] }, .int .i64 0, .int .u64 0, .int .u64 0, .int .u64 0, .int .u64 0] := by rw [hW]; exact xq.far _ _ hxq
      replace xf : boxAt W3 (w.heap.size + 2) [.int .i64 0, .int .i64 0, .int .i64 0, .int .i64 0, .slice none 0 0] := by rw [hW]; exact xf.far _ _ hxf
      replace hg : Gr w W3 := by rw [hW]; exact Below.setCell (p := ⟨w.heap.size, 3, none⟩) hg (Nat.le_refl _) _
      clear hW hsub
      clear c_x0 c_x1 c_x2 c_x3 c_x4 c_x5 c_x6 c_x7 c_x8 m_x0 m_x1 m_x2 m_x3 m_x4 m_x5 m_x6 m_x7 m_x8 l_x
      go_wp2_with fail
      go_loopw [9] (fun iv wr => ∃ i : Nat, iv = .int .i64 (i : Int) ∧ i ≤ 13 ∧ Hid (∀ j, j < i → m4L[j]? ≠ some c) ∧ boxAt wr w.heap.size [.int .i64 5, .int .i64 (a : Int), .int .i64 (e1 : Int), .string (st tx), .int .i64 0, .int .u64 0, .int .u64 0, .int .u64 0, .int .u64 0] ∧ boxAt wr (w.heap.size + 1) [.int .i64 0, .int .i64 0, .int .i64 0, .string { data := #[] }, .int .i64 0, .int .u64 0, .int .u64 0, .int .u64 0, .int .u64 0] ∧ boxAt wr (w.heap.size + 2) [.int .i64 0, .int .i64 0, .int .i64 0, .int .i64 0, .slice none 0 0] ∧ Gr w wr) (fun iv _ => 13 - (intOf iv).toNat)
      case atStart => exact ⟨0, rfl, by omega, Lib.hid (fun j h => absurd h (Nat.not_lt_zero _)), xx, xq, xf, hg⟩
      case round =>
        clear xx xq xf hg
        obtain ⟨i, rfl, hi, hno, xx, xq, xf, hg⟩ := hrel
        by_cases hlt : i < 13
        rotate_left
        · obtain rfl : i = 13 := by omega
          have HNO : Hid (¬ 0 < markP (t.drop a)) := Lib.hid (fun h => by obtain ⟨j, h1, h2⟩ := HM2.out h; exact hno.out j h1 h2)
          clear hlt hi
          exact absurd (by rw [HN.out]; exact H0.out) HNO.out
        · have hltI : (i : Int) < 13 := by omega
          obtain ⟨d, hdi⟩ : ∃ d, m4L[i]? = some d := ⟨_, List.getElem?_eq_getElem (by exact hlt)⟩
          have hjx : ∀ w' : World, (Instr.index 9 (.string { data := #[40, 41, 124, 42, 43, 63, 123, 125, 44, 47, 60, 62, 61] }) (.int .i64 (i : Int))).run Tryz.prog w' = .ok (.int .u8 (d.toNat : Int)) w' := fun w' => run_at (P := Tryz.prog) w' 9 m4L i d .i64 Tryz.underlying9 hdi
          obtain ⟨i1, hi1⟩ : ∃ x, i + 1 = x := ⟨_, rfl⟩
          have hwi : IntKind.i64.wrap ((i : Int) + 1) = (i1 : Int) := by rw [IntWalk.i64_in _ (by omega)]; omega
          have HI1 := Lib.hid (show i + 1 = i1 ∧ i < 13 from ⟨hi1, hlt⟩)
          have HD := Lib.hid hdi
          obtain ⟨kc, hkc⟩ : ∃ x, c.toNat = x := ⟨_, rfl⟩
          obtain ⟨kd, hkd⟩ : ∃ x, d.toNat = x := ⟨_, rfl⟩
          rw [hkc] at hix
          rw [hkd] at hjx
          have HKC := Lib.hid (And.intro hkc hkd)
          clear hlt hi hi1 hdi hkc hkd
          by_cases hcd : kc = kd
          · have HCD : Hid (d = c) := Lib.hid ((u8_eq d c.toNat c.toNat_lt).2 (by rw [HKC.out.2, ← hcd, HKC.out.1]) |>.trans UInt8.ofNat_toNat)
            subst hcd
            go_wp2_with fail
            refine wp_region_G (.take 0 (.take 1 (.take 2 (.take 3 (.take 4 (.take 5 (.take 6 .nil))))))) (by kernel_rfl) (by kernel_rfl) ?_
            simp only [pickOps, nthOp]
            intro wq hG
            repeat (first | (refine wpG_skip_take ?_ ?_; (focus rfl); try simp only [Act.put, List.setIfInBounds_toArray, List.set_cons_zero, List.set_cons_succ]) | (refine wpG_skip_run ?_ ?_; (focus rfl); try simp only [Act.put, List.setIfInBounds_toArray, List.set_cons_zero, List.set_cons_succ]) | (refine wpG_take ?_ ?_; (focus rfl); apply Exists.intro; refine ⟨fun w' hw' => ?_, ?_⟩; (focus (have hc := Gr.cells hw'; go_simp; (try rfl); done)); try simp only [Act.put, List.setIfInBounds_toArray, List.set_cons_zero, List.set_cons_succ]))
            refine wpG_done ?_
            replace xx := xx.later hG
            replace xq := xq.later hG
            replace xf := xf.later hG
            replace hg := hg.trans hG
            clear hG
            have c_x0 := xx.cell 0 _ rfl
            have c_x1 := xx.cell 1 _ rfl
            have c_x2 := xx.cell 2 _ rfl
            have c_x3 := xx.cell 3 _ rfl
            have c_x4 := xx.cell 4 _ rfl
            have c_x5 := xx.cell 5 _ rfl
            have c_x6 := xx.cell 6 _ rfl
            have c_x7 := xx.cell 7 _ rfl
            have c_x8 := xx.cell 8 _ rfl
            have m_x0 := xx.mark 0 _ rfl
            have m_x1 := xx.mark 1 _ rfl
            have m_x2 := xx.mark 2 _ rfl
            have m_x3 := xx.mark 3 _ rfl
            have m_x4 := xx.mark 4 _ rfl
            have m_x5 := xx.mark 5 _ rfl
            have m_x6 := xx.mark 6 _ rfl
            have m_x7 := xx.mark 7 _ rfl
            have m_x8 := xx.mark 8 _ rfl
            have l_x := xx.lt (Nat.succ_pos _)
            have c_q0 := xq.cell 0 _ rfl
            have c_q1 := xq.cell 1 _ rfl
            have c_q2 := xq.cell 2 _ rfl
            have c_q3 := xq.cell 3 _ rfl
            have c_q4 := xq.cell 4 _ rfl
            have c_q5 := xq.cell 5 _ rfl
            have c_q6 := xq.cell 6 _ rfl
            have c_q7 := xq.cell 7 _ rfl
            have c_q8 := xq.cell 8 _ rfl
            have m_q0 := xq.mark 0 _ rfl
            have m_q1 := xq.mark 1 _ rfl
            have m_q2 := xq.mark 2 _ rfl
            have m_q3 := xq.mark 3 _ rfl
            have m_q4 := xq.mark 4 _ rfl
            have m_q5 := xq.mark 5 _ rfl
            have m_q6 := xq.mark 6 _ rfl
            have m_q7 := xq.mark 7 _ rfl
            have m_q8 := xq.mark 8 _ rfl
            have l_q := xq.lt (Nat.succ_pos _)
            have c_f0 := xf.cell 0 _ rfl
            have c_f1 := xf.cell 1 _ rfl
            have c_f2 := xf.cell 2 _ rfl
            have c_f3 := xf.cell 3 _ rfl
            have c_f4 := xf.cell 4 _ rfl
            have m_f0 := xf.mark 0 _ rfl
            have m_f1 := xf.mark 1 _ rfl
            have m_f2 := xf.mark 2 _ rfl
            have m_f3 := xf.mark 3 _ rfl
            have m_f4 := xf.mark 4 _ rfl
            have l_f := xf.lt (Nat.succ_pos _)
            go_wp2_with fail
            refine name_end (fun W9 hW => ?_)
            have y9 : boxAt W9 (w.heap.size + 2) [.int .i64 0, .int .i64 0, .int .i64 0, .int .i64 0, .slice none 0 0] := by rw [hW]; exact ((boxFar9 xf hqf _ _ _ _ _ _ _ _ _).put5 _ _ _ _ _)
            have x9 : boxAt W9 (w.heap.size + 1) [.int .i64 5, .int .i64 (a : Int), .int .i64 (e1 : Int), .string (st tx), .int .i64 0, .int .u64 0, .int .u64 0, .int .u64 0, .int .u64 0] := by rw [hW]; exact ((xq.puts9 rfl _ _ _ _ _ _ _ _ _).far5 hfq _ _ _ _ _)
            have hg9 : Gr w W9 := by rw [hW]; exact (Below.put5 (Gr.puts9 hg hlq _ _ _ _ _ _ _ _ _) hlf _ _ _ _ _)
            clear hW
            have c_y0 := y9.cell 0 _ rfl
            have c_y1 := y9.cell 1 _ rfl
            have c_y2 := y9.cell 2 _ rfl
            have c_y3 := y9.cell 3 _ rfl
            have c_y4 := y9.cell 4 _ rfl
            have m_y0 := y9.mark 0 _ rfl
            have m_y1 := y9.mark 1 _ rfl
            have m_y2 := y9.mark 2 _ rfl
            have m_y3 := y9.mark 3 _ rfl
            have m_y4 := y9.mark 4 _ rfl
            have l_y := y9.lt (Nat.succ_pos _)
            have c_z0 := x9.cell 0 _ rfl
            have c_z1 := x9.cell 1 _ rfl
            have c_z2 := x9.cell 2 _ rfl
            have c_z3 := x9.cell 3 _ rfl
            have c_z4 := x9.cell 4 _ rfl
            have c_z5 := x9.cell 5 _ rfl
            have c_z6 := x9.cell 6 _ rfl
            have c_z7 := x9.cell 7 _ rfl
            have c_z8 := x9.cell 8 _ rfl
            have m_z0 := x9.mark 0 _ rfl
            have m_z1 := x9.mark 1 _ rfl
            have m_z2 := x9.mark 2 _ rfl
            have m_z3 := x9.mark 3 _ rfl
            have m_z4 := x9.mark 4 _ rfl
            have m_z5 := x9.mark 5 _ rfl
            have m_z6 := x9.mark 6 _ rfl
            have m_z7 := x9.mark 7 _ rfl
            have m_z8 := x9.mark 8 _ rfl
            have l_z := x9.lt (Nat.succ_pos _)
            refine bodyPost_ret (v := .tuple #[.agg #[.int .i64 5, .int .i64 (a : Int), .int .i64 (e1 : Int), .string (st tx), .int .i64 0, .int .u64 0, .int .u64 0, .int .u64 0, .int .u64 0], .agg #[.int .i64 0, .int .i64 0, .int .i64 0, .int .i64 0, .slice none 0 0]]) (by simp [results, Tryz.results22, go_sem, c_y0, c_y1, c_y2, c_y3, c_y4, c_z0, c_z1, c_z2, c_z3, c_z4, c_z5, c_z6, c_z7, c_z8]) rfl ?_

            have hE := HE.out (HM.out i HI1.out.2 (by rw [HD.out, HCD.out]))
            rw [HN.out] at hE
            rw [← HTX.out, hE, show a + n - a = n by omega]
            exact ⟨rfl, hg9⟩
          · have hne : ((kc : Int) == (kd : Int)) = false := by rw [beq_eq_false_iff_ne]; omega
            have hno' : Hid (∀ j, j < i1 → m4L[j]? ≠ some c) := Lib.hid (fun j hj => by
              rcases Nat.lt_or_ge j i with h | h
              · exact hno.out j h
              · obtain rfl : j = i := by have := HI1.out; omega
                rw [HD.out]
                intro e
                injection e with e
                exact hcd (by rw [← HKC.out.1, ← HKC.out.2, e]))
            clear hcd
            go_wp2_with fail
            refine wp_region_G (.take 0 (.take 1 (.take 2 (.take 3 (.take 4 (.take 5 (.take 6 .nil))))))) (by kernel_rfl) (by kernel_rfl) ?_
            simp only [pickOps, nthOp]
            intro wq hG
            repeat (first | (refine wpG_skip_take ?_ ?_; (focus rfl); try simp only [Act.put, List.setIfInBounds_toArray, List.set_cons_zero, List.set_cons_succ]) | (refine wpG_skip_run ?_ ?_; (focus rfl); try simp only [Act.put, List.setIfInBounds_toArray, List.set_cons_zero, List.set_cons_succ]) | (refine wpG_take ?_ ?_; (focus rfl); apply Exists.intro; refine ⟨fun w' hw' => ?_, ?_⟩; (focus (have hc := Gr.cells hw'; go_simp; (try rfl); done)); try simp only [Act.put, List.setIfInBounds_toArray, List.set_cons_zero, List.set_cons_succ]))
            refine wpG_done ?_
            go_wp2_with fail
            go_roundw
            case rel => exact ⟨i1, rfl, by have := HI1.out; omega, hno', xx.later hG, xq.later hG, xf.later hG, hg.trans hG⟩
            case measure => have := HI1.out; simp [intOf]; omega

set_option maxRecDepth 100000 in
set_option maxHeartbeats 8000000 in
theorem mark4_bad (t : List UInt8) (a a1 : Nat) (c : UInt8) (w : World) (hT : (t.length : Int) ≤ 4294967280) (hc : t[a]? = some c) (ha1 : a + 1 = a1) (hn : markP (t.drop a) = 0) :
    Calls Tryz.prog 22 #[.string (st t), .int .i64 (a : Int), .agg #[.int .i64 0, .int .i64 (a : Int), .int .i64 (a1 : Int), .string { data := #[] }, .int .i64 0, .int .u64 0, .int .u64 0, .int .u64 0, .int .u64 0]] w fun e w' => (∃ (f : Int) (tx : ByteArray), e = .returned (.tuple #[.agg #[.int .i64 5, .int .i64 (a : Int), .int .i64 f, .string tx, .int .i64 0, .int .u64 0, .int .u64 0, .int .u64 0, .int .u64 0], .agg #[.int .i64 3, .int .i64 0, .int .i64 0, .int .i64 (a : Int), .slice none 0 0]])) ∧ Gr w w' := by
  have hsz := st_size t
  have ha := (List.getElem?_eq_some_iff.1 hc).1
  have hd := drop_at t a c hc
  have hix := fun w' => run_at (P := Tryz.prog) w' 9 t a c .i64 Tryz.underlying9 hc
  have hw1 : IntKind.i64.wrap ((a : Int) + 1) = (a1 : Int) := by rw [IntWalk.i64_in _ (by omega)]; omega
  obtain ⟨a2, ha2⟩ : ∃ x, a + 2 = x := ⟨_, rfl⟩
  have hw2 : IntKind.i64.wrap ((a : Int) + 2) = (a2 : Int) := by rw [IntWalk.i64_in _ (by omega)]; omega
  obtain ⟨b2, hb2⟩ : ∃ b, pre [61, 62] (t.drop a) = b := ⟨_, rfl⟩
  obtain ⟨e1, he1⟩ : ∃ x, (if b2 then a2 else a1) = x := ⟨_, rfl⟩
  have hp2 : b2 = true → a2 ≤ t.length := fun h => by have := pre_len (hb2.trans h); rw [List.length_drop] at this; simp only [List.length_cons, List.length_nil] at this; omega
  have hel : a ≤ e1 ∧ e1 ≤ t.length := by
    rw [← he1]
    cases b2
    · simp; omega
    · have := hp2 rfl; simp; omega
  have hsub := fun w' => run_sub (P := Tryz.prog) w' 9 t a e1 Tryz.underlying9 hel.1 hel.2
  obtain ⟨tx, htx⟩ : ∃ x, (t.drop a).take (e1 - a) = x := ⟨_, rfl⟩
  rw [htx] at hsub
  have HM : Hid (∀ i : Nat, i < 13 → m4L[i]? = some c → 0 < markP (t.drop a)) := fun i hi h => by rw [hd]; exact (m4_mem c _).1 ⟨i, hi, h⟩
  have HM2 : Hid (0 < markP (t.drop a) → ∃ i : Nat, i < 13 ∧ m4L[i]? = some c) := fun h => by rw [hd] at h; exact (m4_mem c _).2 h
  have HE : Hid (0 < markP (t.drop a) → e1 = a + markP (t.drop a)) := fun h => by
    rw [hd, markP_cons] at h ⊢
    rw [hd, ha1] at hb2
    rw [← he1, ← hb2]
    have e : pre [61, 62] (c :: t.drop a1) = ((61 : UInt8) == c && pre [62] (t.drop a1)) := rfl
    rw [e, ha1]
    by_cases h61 : c = 61
    · subst h61
      rw [if_pos rfl, beq_self_eq_true, Bool.true_and]
      split <;> omega
    · rw [if_neg h61] at h ⊢
      rw [show ((61 : UInt8) == c) = false by rw [beq_eq_false_iff_ne]; exact fun h => h61 h.symm, Bool.false_and, if_neg (by decide)]
      split
      · omega
      · rename_i hm; rw [if_neg hm] at h; omega
  have HSL : Hid (a2 ≤ t.length → ∀ w', (Instr.slice 9 (.string (st t)) (some (.int .i64 (a : Int))) (some (.int .i64 (a2 : Int))) none).run Tryz.prog w' = .ok (.string (st ((t.drop a).take 2))) w') := fun h w' => by
    have := run_sub (P := Tryz.prog) w' 9 t a a2 Tryz.underlying9 (by omega) h
    rw [show a2 - a = 2 by omega] at this; exact this
  have HQ : Hid (((t.drop a).take 2 == [61, 62]) = b2) := Lib.hid (by rw [← hb2, pre_take]; rfl)
  have HN := Lib.hid hn
  have HA := Lib.hid (show a < t.length ∧ a + 1 = a1 ∧ a + 2 = a2 ∧ (if b2 then a2 else a1) = e1 ∧ (b2 = true → a2 ≤ t.length) from ⟨ha, ha1, ha2, he1, hp2⟩)
  have HC := Lib.hid hc
  have HTX := Lib.hid htx
  clear hp2 hn hd he1 htx hc hb2 ha hel
  go_enter Tryz.func22, Tryz.ntmps22
  go_upto_region 2 with fail
  refine name_world (fun W hW => ?_)
  obtain ⟨xx, xq, xf, hg, hs⟩ : boxAt W w.heap.size [.int .i64 5, .int .i64 (a : Int), .int .i64 (a1 : Int), .string { data := #[] }, .int .i64 0, .int .u64 0, .int .u64 0, .int .u64 0, .int .u64 0] ∧ boxAt W (w.heap.size + 1) [.int .i64 0, .int .i64 0, .int .i64 0, .string { data := #[] }, .int .i64 0, .int .u64 0, .int .u64 0, .int .u64 0, .int .u64 0] ∧ boxAt W (w.heap.size + 2) [.int .i64 0, .int .i64 0, .int .i64 0, .int .i64 0, .slice none 0 0] ∧ Gr w W ∧ W.heap.size = w.heap.size + 3 := by
    subst hW
    obtain ⟨x0, x1, x2, x3, x4⟩ := boxes3 w [.int .i64 0, .int .i64 (a : Int), .int .i64 (a1 : Int), .string { data := #[] }, .int .i64 0, .int .u64 0, .int .u64 0, .int .u64 0, .int .u64 0] [.int .i64 0, .int .i64 0, .int .i64 0, .string { data := #[] }, .int .i64 0, .int .u64 0, .int .u64 0, .int .u64 0, .int .u64 0] [.int .i64 0, .int .i64 0, .int .i64 0, .int .i64 0, .slice none 0 0] 38 38 25
    first
    | exact ⟨x0.put 0 _ (by simp), x1.far _ _ (by show w.heap.size ≠ _; omega), x2.far _ _ (by show w.heap.size ≠ _; omega), Below.setCell (p := ⟨w.heap.size, 0, none⟩) x3 (Nat.le_refl _) _, by rw [size_set]; exact x4⟩
    | exact boxes3 w [.int .i64 5, .int .i64 (a : Int), .int .i64 (a1 : Int), .string { data := #[] }, .int .i64 0, .int .u64 0, .int .u64 0, .int .u64 0, .int .u64 0] [.int .i64 0, .int .i64 0, .int .i64 0, .string { data := #[] }, .int .i64 0, .int .u64 0, .int .u64 0, .int .u64 0, .int .u64 0] [.int .i64 0, .int .i64 0, .int .i64 0, .int .i64 0, .slice none 0 0] 38 38 25
  clear hW hs
  have hqf : w.heap.size + 1 ≠ w.heap.size + 2 := by omega
  have hfq : w.heap.size + 2 ≠ w.heap.size + 1 := by omega
  have hxq : w.heap.size ≠ w.heap.size + 1 := by omega
  have hxf : w.heap.size ≠ w.heap.size + 2 := by omega
  have hlq : w.heap.size ≤ w.heap.size + 1 := by omega
  have hlf : w.heap.size ≤ w.heap.size + 2 := by omega
  go_cut [23] from 11 to 22 (fun v wx => v = .bool b2 ∧ W = wx)
  case first =>
    by_cases hle : a2 ≤ t.length
    · have hsl := HSL.out hle
      obtain ⟨q, hq⟩ : ∃ q, (t.drop a).take 2 = q := ⟨_, rfl⟩
      have hQ := HQ.out
      rw [hq] at hsl hQ
      have hlI : (a1 : Int) < (t.length : Int) := by have := HA.out; omega
      have hbs : ((st q).toList == (st [61, 62]).toList) = b2 := by rw [st_beq]; exact hQ
      have hbs2 : ((st q).toList == ({ data := #[61, 62] } : ByteArray).toList) = b2 := hbs
      have hbs3 : ((st q).toList == [61, 62]) = b2 := by rw [st_list]; exact hQ
      clear hle hq hQ hsub
      go_wp2_with fail
      go_meet
      case rel => exact ⟨rfl, rfl⟩
    · have hlI : ¬ (a1 : Int) < (t.length : Int) := by have := HA.out; omega
      have hb2f : b2 = false := by cases b2; rfl; exact absurd (HA.out.2.2.2.2 rfl) hle
      clear hle hsub
      go_wp2_with fail
      go_meet
      case rel => exact ⟨by rw [hb2f], rfl⟩
  case rest =>
    obtain ⟨rfl, rfl⟩ := hcut
    go_upto_if 23 with fail
    go_cut [24] from 25 to 26 (fun _ wx => boxAt wx w.heap.size [.int .i64 5, .int .i64 (a : Int), .int .i64 (e1 : Int), .string { data := #[] }, .int .i64 0, .int .u64 0, .int .u64 0, .int .u64 0, .int .u64 0] ∧ boxAt wx (w.heap.size + 1) [.int .i64 0, .int .i64 0, .int .i64 0, .string { data := #[] }, .int .i64 0, .int .u64 0, .int .u64 0, .int .u64 0, .int .u64 0] ∧ boxAt wx (w.heap.size + 2) [.int .i64 0, .int .i64 0, .int .i64 0, .int .i64 0, .slice none 0 0] ∧ Gr w wx)
    case first =>
      have c_x0 := xx.cell 0 _ rfl
      have c_x1 := xx.cell 1 _ rfl
      have c_x2 := xx.cell 2 _ rfl
      have c_x3 := xx.cell 3 _ rfl
      have c_x4 := xx.cell 4 _ rfl
      have c_x5 := xx.cell 5 _ rfl
      have c_x6 := xx.cell 6 _ rfl
      have c_x7 := xx.cell 7 _ rfl
      have c_x8 := xx.cell 8 _ rfl
      have m_x0 := xx.mark 0 _ rfl
      have m_x1 := xx.mark 1 _ rfl
      have m_x2 := xx.mark 2 _ rfl
      have m_x3 := xx.mark 3 _ rfl
      have m_x4 := xx.mark 4 _ rfl
      have m_x5 := xx.mark 5 _ rfl
      have m_x6 := xx.mark 6 _ rfl
      have m_x7 := xx.mark 7 _ rfl
      have m_x8 := xx.mark 8 _ rfl
      have l_x := xx.lt (Nat.succ_pos _)
      have hA := HA.out.2.2.2.1
      clear hsub
      cases b2
      · simp only [Bool.false_eq_true, if_false] at hA
        subst hA
        go_wp2_with fail
        go_meet
        case rel => exact ⟨xx, xq, xf, hg⟩
      · simp only [if_true] at hA
        subst hA
        go_wp2_with fail
        go_meet
        case rel => exact ⟨xx.put 2 _ (by simp), xq.far _ _ hxq, xf.far _ _ hxf, Below.setCell (p := ⟨w.heap.size, 2, none⟩) hg (Nat.le_refl _) _⟩
    case rest =>
      clear xx xq xf hg
      obtain ⟨xx, xq, xf, hg⟩ := hcut
      have c_x0 := xx.cell 0 _ rfl
      have c_x1 := xx.cell 1 _ rfl
      have c_x2 := xx.cell 2 _ rfl
      have c_x3 := xx.cell 3 _ rfl
      have c_x4 := xx.cell 4 _ rfl
      have c_x5 := xx.cell 5 _ rfl
      have c_x6 := xx.cell 6 _ rfl
      have c_x7 := xx.cell 7 _ rfl
      have c_x8 := xx.cell 8 _ rfl
      have m_x0 := xx.mark 0 _ rfl
      have m_x1 := xx.mark 1 _ rfl
      have m_x2 := xx.mark 2 _ rfl
      have m_x3 := xx.mark 3 _ rfl
      have m_x4 := xx.mark 4 _ rfl
      have m_x5 := xx.mark 5 _ rfl
      have m_x6 := xx.mark 6 _ rfl
      have m_x7 := xx.mark 7 _ rfl
      have m_x8 := xx.mark 8 _ rfl
      have l_x := xx.lt (Nat.succ_pos _)
      go_upto_block 0 with fail
      refine name_world (fun W3 hW => ?_)
      replace xx : boxAt W3 w.heap.size [.int .i64 5, .int .i64 (a : Int), .int .i64 (e1 : Int), .string (st tx), .int .i64 0, .int .u64 0, .int .u64 0, .int .u64 0, .int .u64 0] := by rw [hW]; exact xx.put 3 _ (by simp)
      replace xq : boxAt W3 (w.heap.size + 1) [.int .i64 0, .int .i64 0, .int .i64 0, .string { data := #[] }, .int .i64 0, .int .u64 0, .int .u64 0, .int .u64 0, .int .u64 0] := by rw [hW]; exact xq.far _ _ hxq
      replace xf : boxAt W3 (w.heap.size + 2) [.int .i64 0, .int .i64 0, .int .i64 0, .int .i64 0, .slice none 0 0] := by rw [hW]; exact xf.far _ _ hxf
      replace hg : Gr w W3 := by rw [hW]; exact Below.setCell (p := ⟨w.heap.size, 3, none⟩) hg (Nat.le_refl _) _
      clear hW hsub
      clear c_x0 c_x1 c_x2 c_x3 c_x4 c_x5 c_x6 c_x7 c_x8 m_x0 m_x1 m_x2 m_x3 m_x4 m_x5 m_x6 m_x7 m_x8 l_x
      go_wp2_with fail
      go_loopw [9] (fun iv wr => ∃ i : Nat, iv = .int .i64 (i : Int) ∧ i ≤ 13 ∧ Hid (∀ j, j < i → m4L[j]? ≠ some c) ∧ boxAt wr w.heap.size [.int .i64 5, .int .i64 (a : Int), .int .i64 (e1 : Int), .string (st tx), .int .i64 0, .int .u64 0, .int .u64 0, .int .u64 0, .int .u64 0] ∧ boxAt wr (w.heap.size + 1) [.int .i64 0, .int .i64 0, .int .i64 0, .string { data := #[] }, .int .i64 0, .int .u64 0, .int .u64 0, .int .u64 0, .int .u64 0] ∧ boxAt wr (w.heap.size + 2) [.int .i64 0, .int .i64 0, .int .i64 0, .int .i64 0, .slice none 0 0] ∧ Gr w wr) (fun iv _ => 13 - (intOf iv).toNat)
      case atStart => exact ⟨0, rfl, by omega, Lib.hid (fun j h => absurd h (Nat.not_lt_zero _)), xx, xq, xf, hg⟩
      case round =>
        clear xx xq xf hg
        obtain ⟨i, rfl, hi, hno, xx, xq, xf, hg⟩ := hrel
        by_cases hlt : i < 13
        rotate_left
        · obtain rfl : i = 13 := by omega
          have HNO : Hid (¬ 0 < markP (t.drop a)) := Lib.hid (fun h => by obtain ⟨j, h1, h2⟩ := HM2.out h; exact hno.out j h1 h2)
          clear hlt hi
          have c_x0 := xx.cell 0 _ rfl
          have c_x1 := xx.cell 1 _ rfl
          have c_x2 := xx.cell 2 _ rfl
          have c_x3 := xx.cell 3 _ rfl
          have c_x4 := xx.cell 4 _ rfl
          have c_x5 := xx.cell 5 _ rfl
          have c_x6 := xx.cell 6 _ rfl
          have c_x7 := xx.cell 7 _ rfl
          have c_x8 := xx.cell 8 _ rfl
          have m_x0 := xx.mark 0 _ rfl
          have m_x1 := xx.mark 1 _ rfl
          have m_x2 := xx.mark 2 _ rfl
          have m_x3 := xx.mark 3 _ rfl
          have m_x4 := xx.mark 4 _ rfl
          have m_x5 := xx.mark 5 _ rfl
          have m_x6 := xx.mark 6 _ rfl
          have m_x7 := xx.mark 7 _ rfl
          have m_x8 := xx.mark 8 _ rfl
          have l_x := xx.lt (Nat.succ_pos _)
          have c_q0 := xq.cell 0 _ rfl
          have c_q1 := xq.cell 1 _ rfl
          have c_q2 := xq.cell 2 _ rfl
          have c_q3 := xq.cell 3 _ rfl
          have c_q4 := xq.cell 4 _ rfl
          have c_q5 := xq.cell 5 _ rfl
          have c_q6 := xq.cell 6 _ rfl
          have c_q7 := xq.cell 7 _ rfl
          have c_q8 := xq.cell 8 _ rfl
          have m_q0 := xq.mark 0 _ rfl
          have m_q1 := xq.mark 1 _ rfl
          have m_q2 := xq.mark 2 _ rfl
          have m_q3 := xq.mark 3 _ rfl
          have m_q4 := xq.mark 4 _ rfl
          have m_q5 := xq.mark 5 _ rfl
          have m_q6 := xq.mark 6 _ rfl
          have m_q7 := xq.mark 7 _ rfl
          have m_q8 := xq.mark 8 _ rfl
          have l_q := xq.lt (Nat.succ_pos _)
          have c_f0 := xf.cell 0 _ rfl
          have c_f1 := xf.cell 1 _ rfl
          have c_f2 := xf.cell 2 _ rfl
          have c_f3 := xf.cell 3 _ rfl
          have c_f4 := xf.cell 4 _ rfl
          have m_f0 := xf.mark 0 _ rfl
          have m_f1 := xf.mark 1 _ rfl
          have m_f2 := xf.mark 2 _ rfl
          have m_f3 := xf.mark 3 _ rfl
          have m_f4 := xf.mark 4 _ rfl
          have l_f := xf.lt (Nat.succ_pos _)
          go_wp2_with fail
          go_region_with (go_at_call 16; (with_reducible refine (at0_any _ _ _).mono ?_); rintro e w8 ⟨rfl, hq8⟩; have hG8 : Gr _ w8 := (Gr.drew _).trans hq8; have hc := hG8.cells; have hm := hG8.marks)
          all_goals
            replace xq := xq.later hG8
            replace xf := xf.later hG8
            replace hg := hg.trans hG8
            go_wp2
            refine name_end (fun W9 hW => ?_)
            have y9 : boxAt W9 (w.heap.size + 2) [.int .i64 3, .int .i64 0, .int .i64 0, .int .i64 (a : Int), .slice none 0 0] := by rw [hW]; exact ((boxFar9 xf hqf _ _ _ _ _ _ _ _ _).put5 _ _ _ _ _)
            have x9 : boxAt W9 (w.heap.size + 1) [.int .i64 5, .int .i64 (a : Int), .int .i64 (e1 : Int), .string (st tx), .int .i64 0, .int .u64 0, .int .u64 0, .int .u64 0, .int .u64 0] := by rw [hW]; exact ((xq.puts9 rfl _ _ _ _ _ _ _ _ _).far5 hfq _ _ _ _ _)
            have hg9 : Gr w W9 := by rw [hW]; exact (Below.put5 (Gr.puts9 hg hlq _ _ _ _ _ _ _ _ _) hlf _ _ _ _ _)
            clear hW
            have c_y0 := y9.cell 0 _ rfl
            have c_y1 := y9.cell 1 _ rfl
            have c_y2 := y9.cell 2 _ rfl
            have c_y3 := y9.cell 3 _ rfl
            have c_y4 := y9.cell 4 _ rfl
            have m_y0 := y9.mark 0 _ rfl
            have m_y1 := y9.mark 1 _ rfl
            have m_y2 := y9.mark 2 _ rfl
            have m_y3 := y9.mark 3 _ rfl
            have m_y4 := y9.mark 4 _ rfl
            have l_y := y9.lt (Nat.succ_pos _)
            have c_z0 := x9.cell 0 _ rfl
            have c_z1 := x9.cell 1 _ rfl
            have c_z2 := x9.cell 2 _ rfl
            have c_z3 := x9.cell 3 _ rfl
            have c_z4 := x9.cell 4 _ rfl
            have c_z5 := x9.cell 5 _ rfl
            have c_z6 := x9.cell 6 _ rfl
            have c_z7 := x9.cell 7 _ rfl
            have c_z8 := x9.cell 8 _ rfl
            have m_z0 := x9.mark 0 _ rfl
            have m_z1 := x9.mark 1 _ rfl
            have m_z2 := x9.mark 2 _ rfl
            have m_z3 := x9.mark 3 _ rfl
            have m_z4 := x9.mark 4 _ rfl
            have m_z5 := x9.mark 5 _ rfl
            have m_z6 := x9.mark 6 _ rfl
            have m_z7 := x9.mark 7 _ rfl
            have m_z8 := x9.mark 8 _ rfl
            have l_z := x9.lt (Nat.succ_pos _)
            refine bodyPost_ret (v := .tuple #[.agg #[.int .i64 5, .int .i64 (a : Int), .int .i64 (e1 : Int), .string (st tx), .int .i64 0, .int .u64 0, .int .u64 0, .int .u64 0, .int .u64 0], .agg #[.int .i64 3, .int .i64 0, .int .i64 0, .int .i64 (a : Int), .slice none 0 0]]) (by simp [results, Tryz.results22, go_sem, c_y0, c_y1, c_y2, c_y3, c_y4, c_z0, c_z1, c_z2, c_z3, c_z4, c_z5, c_z6, c_z7, c_z8]) rfl ?_

            exact ⟨⟨_, _, rfl⟩, hg9⟩
        · have hltI : (i : Int) < 13 := by omega
          obtain ⟨d, hdi⟩ : ∃ d, m4L[i]? = some d := ⟨_, List.getElem?_eq_getElem (by exact hlt)⟩
          have hjx : ∀ w' : World, (Instr.index 9 (.string { data := #[40, 41, 124, 42, 43, 63, 123, 125, 44, 47, 60, 62, 61] }) (.int .i64 (i : Int))).run Tryz.prog w' = .ok (.int .u8 (d.toNat : Int)) w' := fun w' => run_at (P := Tryz.prog) w' 9 m4L i d .i64 Tryz.underlying9 hdi
          obtain ⟨i1, hi1⟩ : ∃ x, i + 1 = x := ⟨_, rfl⟩
          have hwi : IntKind.i64.wrap ((i : Int) + 1) = (i1 : Int) := by rw [IntWalk.i64_in _ (by omega)]; omega
          have HI1 := Lib.hid (show i + 1 = i1 ∧ i < 13 from ⟨hi1, hlt⟩)
          have HD := Lib.hid hdi
          obtain ⟨kc, hkc⟩ : ∃ x, c.toNat = x := ⟨_, rfl⟩
          obtain ⟨kd, hkd⟩ : ∃ x, d.toNat = x := ⟨_, rfl⟩
          rw [hkc] at hix
          rw [hkd] at hjx
          have HKC := Lib.hid (And.intro hkc hkd)
          clear hlt hi hi1 hdi hkc hkd
          by_cases hcd : kc = kd
          · have HCD : Hid (d = c) := Lib.hid ((u8_eq d c.toNat c.toNat_lt).2 (by rw [HKC.out.2, ← hcd, HKC.out.1]) |>.trans UInt8.ofNat_toNat)
            subst hcd
            exact absurd (HM.out i HI1.out.2 (by rw [HD.out, HCD.out])) (by rw [HN.out]; omega)
          · have hne : ((kc : Int) == (kd : Int)) = false := by rw [beq_eq_false_iff_ne]; omega
            have hno' : Hid (∀ j, j < i1 → m4L[j]? ≠ some c) := Lib.hid (fun j hj => by
              rcases Nat.lt_or_ge j i with h | h
              · exact hno.out j h
              · obtain rfl : j = i := by have := HI1.out; omega
                rw [HD.out]
                intro e
                injection e with e
                exact hcd (by rw [← HKC.out.1, ← HKC.out.2, e]))
            clear hcd
            go_wp2_with fail
            refine wp_region_G (.take 0 (.take 1 (.take 2 (.take 3 (.take 4 (.take 5 (.take 6 .nil))))))) (by kernel_rfl) (by kernel_rfl) ?_
            simp only [pickOps, nthOp]
            intro wq hG
            repeat (first | (refine wpG_skip_take ?_ ?_; (focus rfl); try simp only [Act.put, List.setIfInBounds_toArray, List.set_cons_zero, List.set_cons_succ]) | (refine wpG_skip_run ?_ ?_; (focus rfl); try simp only [Act.put, List.setIfInBounds_toArray, List.set_cons_zero, List.set_cons_succ]) | (refine wpG_take ?_ ?_; (focus rfl); apply Exists.intro; refine ⟨fun w' hw' => ?_, ?_⟩; (focus (have hc := Gr.cells hw'; go_simp; (try rfl); done)); try simp only [Act.put, List.setIfInBounds_toArray, List.set_cons_zero, List.set_cons_succ]))
            refine wpG_done ?_
            go_wp2_with fail
            go_roundw
            case rel => exact ⟨i1, rfl, by have := HI1.out; omega, hno', xx.later hG, xq.later hG, xf.later hG, hg.trans hG⟩
            case measure => have := HI1.out; simp [intOf]; omega

end Go.Proofs.YtdjankfcmoblhaaGreatDoor

/- bolterref4: one. No condition but a length's bound. Printed by gen_ref4.py. -/
namespace Go.Proofs.YtdjankfcmoblhaaGreatDoor
open Go Go.RowKit

theorem set5 {B : Nat} {w w' : World} (h : Below B w w') {b : Nat} (hb : B ≤ b) (i : Nat) (v : Value) : Below B w (w'.setCell ⟨b, i, none⟩ v) := h.setCell (p := ⟨b, i, none⟩) hb v
theorem no4_let_34 (w : World) : Calls Tryz.prog 14 #[.int .u8 34] w fun e w' => e = .returned (.bool false) ∧ w' = w := let4_any 34 w
theorem no4_dig_34 (w : World) : Calls Tryz.prog 15 #[.int .u8 34] w fun e w' => e = .returned (.bool false) ∧ w' = w := dig4_any 34 w
theorem no4_let_91 (w : World) : Calls Tryz.prog 14 #[.int .u8 91] w fun e w' => e = .returned (.bool false) ∧ w' = w := let4_any 91 w
theorem no4_dig_91 (w : World) : Calls Tryz.prog 15 #[.int .u8 91] w fun e w' => e = .returned (.bool false) ∧ w' = w := dig4_any 91 w
theorem no4_let_46 (w : World) : Calls Tryz.prog 14 #[.int .u8 46] w fun e w' => e = .returned (.bool false) ∧ w' = w := let4_any 46 w
theorem no4_dig_46 (w : World) : Calls Tryz.prog 15 #[.int .u8 46] w fun e w' => e = .returned (.bool false) ∧ w' = w := dig4_any 46 w

end Go.Proofs.YtdjankfcmoblhaaGreatDoor

/- bolterref4: one: a part. No condition but a length's bound. Printed by gen_ref4.py. -/
namespace Go.Proofs.YtdjankfcmoblhaaGreatDoor
open Go Go.RowKit

set_option maxRecDepth 100000 in
set_option maxHeartbeats 8000000 in
theorem one4_lf (t : List UInt8) (a a1 : Nat) (w : World) (hT : (t.length : Int) ≤ 4294967280) (ha1 : a + 1 = a1) (hc : t[a]? = some 10) :
    Calls Tryz.prog 10 #[.string (st t), .int .i64 (a : Int)] w fun e w' => e = .returned (.tuple #[.agg #[.int .i64 6, .int .i64 (a : Int), .int .i64 (a1 : Int), .string { data := #[] }, .int .i64 0, .int .u64 0, .int .u64 0, .int .u64 0, .int .u64 0], .agg #[.int .i64 0, .int .i64 0, .int .i64 0, .int .i64 0, .slice none 0 0]]) ∧ Gr w w' := by
  have hsz := st_size t
  have ha := (List.getElem?_eq_some_iff.1 hc).1
  have hix := fun w' => run_at (P := Tryz.prog) w' 9 t a 10 .i64 Tryz.underlying9 hc
  have hw1 : IntKind.i64.wrap ((a : Int) + 1) = (a1 : Int) := by rw [IntWalk.i64_in _ (by omega)]; omega
  have HA := Lib.hid (show a < t.length ∧ a + 1 = a1 from ⟨ha, ha1⟩)
  have HT := Lib.hid hT
  simp only [show ((10 : UInt8).toNat : Int) = 10 from rfl] at hix
  clear ha1 hT ha hc
  go_enter Tryz.func10, Tryz.ntmps10
  go_upto_region 2 with fail
  refine name_world (fun W hW => ?_)
  obtain ⟨xq, xf, xx, hg, hs⟩ : boxAt W w.heap.size [.int .i64 0, .int .i64 0, .int .i64 0, .string { data := #[] }, .int .i64 0, .int .u64 0, .int .u64 0, .int .u64 0, .int .u64 0] ∧ boxAt W (w.heap.size + 1) [.int .i64 0, .int .i64 0, .int .i64 0, .int .i64 0, .slice none 0 0] ∧ boxAt W (w.heap.size + 2) [.int .i64 0, .int .i64 (a : Int), .int .i64 (a1 : Int), .string { data := #[] }, .int .i64 0, .int .u64 0, .int .u64 0, .int .u64 0, .int .u64 0] ∧ Gr w W ∧ W.heap.size = w.heap.size + 3 := by
    subst hW
    exact boxes3 w [.int .i64 0, .int .i64 0, .int .i64 0, .string { data := #[] }, .int .i64 0, .int .u64 0, .int .u64 0, .int .u64 0, .int .u64 0] [.int .i64 0, .int .i64 0, .int .i64 0, .int .i64 0, .slice none 0 0] [.int .i64 0, .int .i64 (a : Int), .int .i64 (a1 : Int), .string { data := #[] }, .int .i64 0, .int .u64 0, .int .u64 0, .int .u64 0, .int .u64 0] 38 25 38
  clear hW hw1
  obtain ⟨P, hP⟩ : ∃ P, w.heap.size + 1 + 1 = P := ⟨_, rfl⟩
  rw [hP]
  rw [show w.heap.size + 2 = P from hP] at xx
  have hqf : w.heap.size ≠ w.heap.size + 1 := by omega
  have hfq : w.heap.size + 1 ≠ w.heap.size := by omega
  have hxq : P ≠ w.heap.size := by omega
  have hxf : P ≠ w.heap.size + 1 := by omega
  have hlq : w.heap.size ≤ w.heap.size := Nat.le_refl _
  have hlf : w.heap.size ≤ w.heap.size + 1 := by omega
  have hlP : w.heap.size ≤ P := by omega
  clear hP hs
  have c_x0 := xx.cell 0 _ rfl
  have c_x1 := xx.cell 1 _ rfl
  have c_x2 := xx.cell 2 _ rfl
  have c_x3 := xx.cell 3 _ rfl
  have c_x4 := xx.cell 4 _ rfl
  have c_x5 := xx.cell 5 _ rfl
  have c_x6 := xx.cell 6 _ rfl
  have c_x7 := xx.cell 7 _ rfl
  have c_x8 := xx.cell 8 _ rfl
  have m_x0 := xx.mark 0 _ rfl
  have m_x1 := xx.mark 1 _ rfl
  have m_x2 := xx.mark 2 _ rfl
  have m_x3 := xx.mark 3 _ rfl
  have m_x4 := xx.mark 4 _ rfl
  have m_x5 := xx.mark 5 _ rfl
  have m_x6 := xx.mark 6 _ rfl
  have m_x7 := xx.mark 7 _ rfl
  have m_x8 := xx.mark 8 _ rfl
  have l_x := xx.lt (Nat.succ_pos _)
  have c_q0 := xq.cell 0 _ rfl
  have c_q1 := xq.cell 1 _ rfl
  have c_q2 := xq.cell 2 _ rfl
  have c_q3 := xq.cell 3 _ rfl
  have c_q4 := xq.cell 4 _ rfl
  have c_q5 := xq.cell 5 _ rfl
  have c_q6 := xq.cell 6 _ rfl
  have c_q7 := xq.cell 7 _ rfl
  have c_q8 := xq.cell 8 _ rfl
  have m_q0 := xq.mark 0 _ rfl
  have m_q1 := xq.mark 1 _ rfl
  have m_q2 := xq.mark 2 _ rfl
  have m_q3 := xq.mark 3 _ rfl
  have m_q4 := xq.mark 4 _ rfl
  have m_q5 := xq.mark 5 _ rfl
  have m_q6 := xq.mark 6 _ rfl
  have m_q7 := xq.mark 7 _ rfl
  have m_q8 := xq.mark 8 _ rfl
  have l_q := xq.lt (Nat.succ_pos _)
  have c_f0 := xf.cell 0 _ rfl
  have c_f1 := xf.cell 1 _ rfl
  have c_f2 := xf.cell 2 _ rfl
  have c_f3 := xf.cell 3 _ rfl
  have c_f4 := xf.cell 4 _ rfl
  have m_f0 := xf.mark 0 _ rfl
  have m_f1 := xf.mark 1 _ rfl
  have m_f2 := xf.mark 2 _ rfl
  have m_f3 := xf.mark 3 _ rfl
  have m_f4 := xf.mark 4 _ rfl
  have l_f := xf.lt (Nat.succ_pos _)
  go_upto_region 35 with fail
  clear c_x0 c_x1 c_x2 c_x3 c_x4 c_x5 c_x6 c_x7 c_x8 m_x0 m_x1 m_x2 m_x3 m_x4 m_x5 m_x6 m_x7 m_x8 l_x
  clear c_q0 c_q1 c_q2 c_q3 c_q4 c_q5 c_q6 c_q7 c_q8 m_q0 m_q1 m_q2 m_q3 m_q4 m_q5 m_q6 m_q7 m_q8 l_q
  clear c_f0 c_f1 c_f2 c_f3 c_f4 m_f0 m_f1 m_f2 m_f3 m_f4 l_f
  refine name_world (fun W7 hW => ?_)
  replace xx : boxAt W7 P [.int .i64 6, .int .i64 (a : Int), .int .i64 (a1 : Int), .string { data := #[] }, .int .i64 0, .int .u64 0, .int .u64 0, .int .u64 0, .int .u64 0] := by rw [hW]; exact (xx.put 0 _ (by simp))
  replace xq : boxAt W7 w.heap.size [.int .i64 0, .int .i64 0, .int .i64 0, .string { data := #[] }, .int .i64 0, .int .u64 0, .int .u64 0, .int .u64 0, .int .u64 0] := by rw [hW]; exact (xq.far ⟨P, 0, none⟩ _ hxq)
  replace xf : boxAt W7 (w.heap.size + 1) [.int .i64 0, .int .i64 0, .int .i64 0, .int .i64 0, .slice none 0 0] := by rw [hW]; exact (xf.far ⟨P, 0, none⟩ _ hxf)
  replace hg : Gr w W7 := by rw [hW]; exact set5 (hg) hlP 0 _
  clear hW
  have c_x0 := xx.cell 0 _ rfl
  have c_x1 := xx.cell 1 _ rfl
  have c_x2 := xx.cell 2 _ rfl
  have c_x3 := xx.cell 3 _ rfl
  have c_x4 := xx.cell 4 _ rfl
  have c_x5 := xx.cell 5 _ rfl
  have c_x6 := xx.cell 6 _ rfl
  have c_x7 := xx.cell 7 _ rfl
  have c_x8 := xx.cell 8 _ rfl
  have m_x0 := xx.mark 0 _ rfl
  have m_x1 := xx.mark 1 _ rfl
  have m_x2 := xx.mark 2 _ rfl
  have m_x3 := xx.mark 3 _ rfl
  have m_x4 := xx.mark 4 _ rfl
  have m_x5 := xx.mark 5 _ rfl
  have m_x6 := xx.mark 6 _ rfl
  have m_x7 := xx.mark 7 _ rfl
  have m_x8 := xx.mark 8 _ rfl
  have l_x := xx.lt (Nat.succ_pos _)
  have c_q0 := xq.cell 0 _ rfl
  have c_q1 := xq.cell 1 _ rfl
  have c_q2 := xq.cell 2 _ rfl
  have c_q3 := xq.cell 3 _ rfl
  have c_q4 := xq.cell 4 _ rfl
  have c_q5 := xq.cell 5 _ rfl
  have c_q6 := xq.cell 6 _ rfl
  have c_q7 := xq.cell 7 _ rfl
  have c_q8 := xq.cell 8 _ rfl
  have m_q0 := xq.mark 0 _ rfl
  have m_q1 := xq.mark 1 _ rfl
  have m_q2 := xq.mark 2 _ rfl
  have m_q3 := xq.mark 3 _ rfl
  have m_q4 := xq.mark 4 _ rfl
  have m_q5 := xq.mark 5 _ rfl
  have m_q6 := xq.mark 6 _ rfl
  have m_q7 := xq.mark 7 _ rfl
  have m_q8 := xq.mark 8 _ rfl
  have l_q := xq.lt (Nat.succ_pos _)
  have c_f0 := xf.cell 0 _ rfl
  have c_f1 := xf.cell 1 _ rfl
  have c_f2 := xf.cell 2 _ rfl
  have c_f3 := xf.cell 3 _ rfl
  have c_f4 := xf.cell 4 _ rfl
  have m_f0 := xf.mark 0 _ rfl
  have m_f1 := xf.mark 1 _ rfl
  have m_f2 := xf.mark 2 _ rfl
  have m_f3 := xf.mark 3 _ rfl
  have m_f4 := xf.mark 4 _ rfl
  have l_f := xf.lt (Nat.succ_pos _)
  go_wp2_with fail
  refine name_end (fun W9 hW => ?_)
  have y9 : boxAt W9 (w.heap.size + 1) [.int .i64 0, .int .i64 0, .int .i64 0, .int .i64 0, .slice none 0 0] := by rw [hW]; exact ((boxFar9 xf hqf _ _ _ _ _ _ _ _ _).put5 _ _ _ _ _)
  have x9 : boxAt W9 (w.heap.size) [.int .i64 6, .int .i64 (a : Int), .int .i64 (a1 : Int), .string { data := #[] }, .int .i64 0, .int .u64 0, .int .u64 0, .int .u64 0, .int .u64 0] := by rw [hW]; exact ((xq.puts9 rfl _ _ _ _ _ _ _ _ _).far5 hfq _ _ _ _ _)
  have hg9 : Gr w W9 := by rw [hW]; exact (Below.put5 (Gr.puts9 hg hlq _ _ _ _ _ _ _ _ _) hlf _ _ _ _ _)
  clear hW
  have c_y0 := y9.cell 0 _ rfl
  have c_y1 := y9.cell 1 _ rfl
  have c_y2 := y9.cell 2 _ rfl
  have c_y3 := y9.cell 3 _ rfl
  have c_y4 := y9.cell 4 _ rfl
  have m_y0 := y9.mark 0 _ rfl
  have m_y1 := y9.mark 1 _ rfl
  have m_y2 := y9.mark 2 _ rfl
  have m_y3 := y9.mark 3 _ rfl
  have m_y4 := y9.mark 4 _ rfl
  have l_y := y9.lt (Nat.succ_pos _)
  have c_z0 := x9.cell 0 _ rfl
  have c_z1 := x9.cell 1 _ rfl
  have c_z2 := x9.cell 2 _ rfl
  have c_z3 := x9.cell 3 _ rfl
  have c_z4 := x9.cell 4 _ rfl
  have c_z5 := x9.cell 5 _ rfl
  have c_z6 := x9.cell 6 _ rfl
  have c_z7 := x9.cell 7 _ rfl
  have c_z8 := x9.cell 8 _ rfl
  have m_z0 := x9.mark 0 _ rfl
  have m_z1 := x9.mark 1 _ rfl
  have m_z2 := x9.mark 2 _ rfl
  have m_z3 := x9.mark 3 _ rfl
  have m_z4 := x9.mark 4 _ rfl
  have m_z5 := x9.mark 5 _ rfl
  have m_z6 := x9.mark 6 _ rfl
  have m_z7 := x9.mark 7 _ rfl
  have m_z8 := x9.mark 8 _ rfl
  have l_z := x9.lt (Nat.succ_pos _)
  refine bodyPost_ret (v := .tuple #[.agg #[.int .i64 6, .int .i64 (a : Int), .int .i64 (a1 : Int), .string { data := #[] }, .int .i64 0, .int .u64 0, .int .u64 0, .int .u64 0, .int .u64 0], .agg #[.int .i64 0, .int .i64 0, .int .i64 0, .int .i64 0, .slice none 0 0]]) (by simp [results, Tryz.results10, go_sem, c_y0, c_y1, c_y2, c_y3, c_y4, c_z0, c_z1, c_z2, c_z3, c_z4, c_z5, c_z6, c_z7, c_z8]) rfl ?_
  exact ⟨rfl, hg9⟩

end Go.Proofs.YtdjankfcmoblhaaGreatDoor

/- bolterref4: one: a part. No condition but a length's bound. Printed by gen_ref4.py. -/
namespace Go.Proofs.YtdjankfcmoblhaaGreatDoor
open Go Go.RowKit

set_option maxRecDepth 100000 in
set_option maxHeartbeats 8000000 in
theorem one4_name (t : List UInt8) (a a1 : Nat) (w : World) (hT : (t.length : Int) ≤ 4294967280) (ha1 : a + 1 = a1) (c : UInt8) (E : Nat) (hc : t[a]? = some c) (hl : letC c = true) (hE0 : a + ((t.drop a).takeWhile furC).length = E) (hs : E ≤ a + 32) :
    Calls Tryz.prog 10 #[.string (st t), .int .i64 (a : Int)] w fun e w' => e = .returned (.tuple #[.agg #[.int .i64 1, .int .i64 (a : Int), .int .i64 (E : Int), .string (st ((t.drop a).takeWhile furC)), .int .i64 0, .int .u64 0, .int .u64 0, .int .u64 0, .int .u64 0], .agg #[.int .i64 0, .int .i64 0, .int .i64 0, .int .i64 0, .slice none 0 0]]) ∧ Gr w w' := by
  have hf : furC c = true := by unfold furC; rw [hl, Bool.or_true]
  have hne := let_ne hl
  have hsz := st_size t
  have ha := (List.getElem?_eq_some_iff.1 hc).1
  have hix := fun w' => run_at (P := Tryz.prog) w' 9 t a c .i64 Tryz.underlying9 hc
  have hw1 : IntKind.i64.wrap ((a : Int) + 1) = (a1 : Int) := by rw [IntWalk.i64_in _ (by omega)]; omega
  have HA := Lib.hid (show a < t.length ∧ a + 1 = a1 from ⟨ha, ha1⟩)
  have HT := Lib.hid hT
  have hE : a1 + ((t.drop a1).takeWhile furC).length = E := by
    rw [← hE0, drop_at t a c hc, List.takeWhile_cons, if_pos hf, List.length_cons, ha1]; omega
  have HE := Lib.hid hE
  have hEl : E ≤ t.length := by have := (List.takeWhile_prefix furC (l := t.drop a1)).length_le; rw [List.length_drop] at this; omega
  have hsub := fun w' => run_sub (P := Tryz.prog) w' 9 t a E Tryz.underlying9 (by omega) hEl
  obtain ⟨tx, htx⟩ : ∃ x, (t.drop a).take (E - a) = x := ⟨_, rfl⟩
  have htw : tx = (t.drop a).takeWhile furC := by rw [← htx, show E - a = ((t.drop a).takeWhile furC).length by omega, take_while]
  rw [htx] at hsub
  have HTW := Lib.hid htw
  have HEL := Lib.hid (show a1 ≤ E ∧ E ≤ t.length from ⟨by omega, hEl⟩)
  obtain ⟨k, hk⟩ : ∃ k, c.toNat = k := ⟨_, rfl⟩
  rw [hk] at hix
  have e10 : ((k : Int) == 10) = false := by rw [beq_eq_false_iff_ne]; omega
  have HL : Hid (∀ w, Calls Tryz.prog 14 #[.int .u8 (k : Int)] w fun e w' => e = .returned (.bool true) ∧ w' = w) := fun w => by
    have := let4_any k w
    rw [← hk, letK_let, hl] at this
    rw [← hk]; exact this
  have hwE : IntKind.i64.wrap ((E : Int) - (a : Int)) = ((E - a : Nat) : Int) := by rw [IntWalk.i64_in _ (by omega)]; omega
  obtain ⟨m, hm⟩ : ∃ m, E - a = m := ⟨_, rfl⟩
  rw [hm] at hwE
  have hmI : ¬ (32 : Int) < (m : Int) := by omega
  clear hm hs hk hne hf hl hE0 htx htw hE hEl
  clear ha1 hT ha hc
  go_enter Tryz.func10, Tryz.ntmps10
  go_upto_region 2 with fail
  refine name_world (fun W hW => ?_)
  obtain ⟨xq, xf, xx, hg, hs⟩ : boxAt W w.heap.size [.int .i64 0, .int .i64 0, .int .i64 0, .string { data := #[] }, .int .i64 0, .int .u64 0, .int .u64 0, .int .u64 0, .int .u64 0] ∧ boxAt W (w.heap.size + 1) [.int .i64 0, .int .i64 0, .int .i64 0, .int .i64 0, .slice none 0 0] ∧ boxAt W (w.heap.size + 2) [.int .i64 0, .int .i64 (a : Int), .int .i64 (a1 : Int), .string { data := #[] }, .int .i64 0, .int .u64 0, .int .u64 0, .int .u64 0, .int .u64 0] ∧ Gr w W ∧ W.heap.size = w.heap.size + 3 := by
    subst hW
    exact boxes3 w [.int .i64 0, .int .i64 0, .int .i64 0, .string { data := #[] }, .int .i64 0, .int .u64 0, .int .u64 0, .int .u64 0, .int .u64 0] [.int .i64 0, .int .i64 0, .int .i64 0, .int .i64 0, .slice none 0 0] [.int .i64 0, .int .i64 (a : Int), .int .i64 (a1 : Int), .string { data := #[] }, .int .i64 0, .int .u64 0, .int .u64 0, .int .u64 0, .int .u64 0] 38 25 38
  clear hW hw1
  obtain ⟨P, hP⟩ : ∃ P, w.heap.size + 1 + 1 = P := ⟨_, rfl⟩
  rw [hP]
  rw [show w.heap.size + 2 = P from hP] at xx
  have hqf : w.heap.size ≠ w.heap.size + 1 := by omega
  have hfq : w.heap.size + 1 ≠ w.heap.size := by omega
  have hxq : P ≠ w.heap.size := by omega
  have hxf : P ≠ w.heap.size + 1 := by omega
  have hlq : w.heap.size ≤ w.heap.size := Nat.le_refl _
  have hlf : w.heap.size ≤ w.heap.size + 1 := by omega
  have hlP : w.heap.size ≤ P := by omega
  clear hP hs
  go_upto_block 1 with (go_at_call 14; (with_reducible refine (HL.out _).mono ?_); rintro e w1 ⟨rfl, rfl⟩)
  clear hix HL
  go_cut [34] from 35 to 56 (fun _ wx => boxAt wx P [.int .i64 0, .int .i64 (a : Int), .int .i64 (E : Int), .string { data := #[] }, .int .i64 0, .int .u64 0, .int .u64 0, .int .u64 0, .int .u64 0] ∧ boxAt wx w.heap.size [.int .i64 0, .int .i64 0, .int .i64 0, .string { data := #[] }, .int .i64 0, .int .u64 0, .int .u64 0, .int .u64 0, .int .u64 0] ∧ boxAt wx (w.heap.size + 1) [.int .i64 0, .int .i64 0, .int .i64 0, .int .i64 0, .slice none 0 0] ∧ Gr w wx)
  case first =>
    clear hsub
    go_wp2_with fail
    go_loopw [34] (fun _ wr => ∃ j : Nat, j ≤ t.length ∧ Hid (j + ((t.drop j).takeWhile furC).length = E) ∧ boxAt wr P [.int .i64 0, .int .i64 (a : Int), .int .i64 (j : Int), .string { data := #[] }, .int .i64 0, .int .u64 0, .int .u64 0, .int .u64 0, .int .u64 0] ∧ boxAt wr w.heap.size [.int .i64 0, .int .i64 0, .int .i64 0, .string { data := #[] }, .int .i64 0, .int .u64 0, .int .u64 0, .int .u64 0, .int .u64 0] ∧ boxAt wr (w.heap.size + 1) [.int .i64 0, .int .i64 0, .int .i64 0, .int .i64 0, .slice none 0 0] ∧ Gr w wr) (fun _ wr => t.length - endOf P wr)
    case atStart => exact ⟨a1, by have := HA.out; omega, HE.out, xx, xq, xf, hg⟩
    case round =>
      clear xx xq xf hg
      obtain ⟨j, hj, hEj, xx, xq, xf, hg⟩ := hrel
      have HEN := Lib.hid (endOf_is xx (k := j) rfl)
      have c_x0 := xx.cell 0 _ rfl
      have c_x1 := xx.cell 1 _ rfl
      have c_x2 := xx.cell 2 _ rfl
      have c_x3 := xx.cell 3 _ rfl
      have c_x4 := xx.cell 4 _ rfl
      have c_x5 := xx.cell 5 _ rfl
      have c_x6 := xx.cell 6 _ rfl
      have c_x7 := xx.cell 7 _ rfl
      have c_x8 := xx.cell 8 _ rfl
      have m_x0 := xx.mark 0 _ rfl
      have m_x1 := xx.mark 1 _ rfl
      have m_x2 := xx.mark 2 _ rfl
      have m_x3 := xx.mark 3 _ rfl
      have m_x4 := xx.mark 4 _ rfl
      have m_x5 := xx.mark 5 _ rfl
      have m_x6 := xx.mark 6 _ rfl
      have m_x7 := xx.mark 7 _ rfl
      have m_x8 := xx.mark 8 _ rfl
      have l_x := xx.lt (Nat.succ_pos _)
      cases hcj : t[j]? with
      | none =>
        have hjl : j = t.length := by
          rcases Nat.lt_or_ge j t.length with h | h
          · rw [List.getElem?_eq_getElem h] at hcj; cases hcj
          · omega
        have hjI : ¬ (j : Int) < (t.length : Int) := by omega
        have hEE : E = j := by have := hEj.out; rw [hjl, List.drop_length] at this; simp at this; omega
        clear hcj hjl hj
        subst hEE
        go_wp2_with fail
        go_meet
        case rel => exact ⟨xx, xq, xf, hg⟩
      | some d =>
        have hjl : j < t.length := (List.getElem?_eq_some_iff.1 hcj).1
        have hjI : (j : Int) < (t.length : Int) := by omega
        have hjx := fun w' => run_at (P := Tryz.prog) w' 9 t j d .i64 Tryz.underlying9 hcj
        have hdj := drop_at t j d hcj
        obtain ⟨j1, hj1⟩ : ∃ x, j + 1 = x := ⟨_, rfl⟩
        have hwj : IntKind.i64.wrap ((j : Int) + 1) = (j1 : Int) := by rw [IntWalk.i64_in _ (by have := HT.out; omega)]; omega
        have HJ := Lib.hid (show j + 1 = j1 ∧ j < t.length from ⟨hj1, hjl⟩)
        rw [hj1] at hdj
        cases hfd : furC d with
        | true =>
          have hEj1 : Hid (j1 + ((t.drop j1).takeWhile furC).length = E) := Lib.hid (by have := hEj.out; rw [hdj, List.takeWhile_cons, if_pos hfd, List.length_cons] at this; omega)
          obtain ⟨bl, hbl⟩ : ∃ b, letC d = b := ⟨_, rfl⟩
          obtain ⟨bd, hbd⟩ : ∃ b, digC d = b := ⟨_, rfl⟩
          obtain ⟨kd, hkd⟩ : ∃ x, d.toNat = x := ⟨_, rfl⟩
          rw [hkd] at hjx
          have HLD : Hid (∀ w, Calls Tryz.prog 14 #[.int .u8 (kd : Int)] w fun e w' => e = .returned (.bool bl) ∧ w' = w) := fun w => by
            have := let4_any kd w
            rw [← hkd, letK_let, hbl] at this
            rw [← hkd]; exact this
          have HDD : Hid (∀ w, Calls Tryz.prog 15 #[.int .u8 (kd : Int)] w fun e w' => e = .returned (.bool bd) ∧ w' = w) := fun w => by
            have := dig4_any kd w
            rw [← hkd, digK_dig, hbd] at this
            rw [← hkd]; exact this
          have hor : bl = true ∨ bl = false ∧ bd = true := by
            unfold furC at hfd; rw [hbl, hbd] at hfd
            cases bl <;> simp_all
          clear hbl hbd hkd
          rcases hor with rfl | ⟨rfl, rfl⟩
          all_goals
            clear hcj hjl hj hj1 hdj hfd
            go_wp2_with (first   | (go_at_call 14; (with_reducible refine (HLD.out _).mono ?_); rintro e w1 ⟨rfl, rfl⟩)   | (go_at_call 15; (with_reducible refine (HDD.out _).mono ?_); rintro e w1 ⟨rfl, rfl⟩))
            go_roundw
            case rel => exact ⟨j1, by have := HJ.out; omega, hEj1, xx.put 2 _ (by simp), xq.far ⟨P, 2, none⟩ _ hxq, xf.far ⟨P, 2, none⟩ _ hxf, set5 hg hlP 2 _⟩
            case measure =>
              rw [endOf_is (xx.put 2 (.int .i64 (j1 : Int)) (by simp)) (k := j1) rfl, HEN.out]; have := HJ.out; omega
        | false =>
          have hEE : E = j := by have := hEj.out; rw [hdj, List.takeWhile_cons, if_neg (by rw [hfd]; decide)] at this; simp at this; omega
          obtain ⟨kd, hkd⟩ : ∃ x, d.toNat = x := ⟨_, rfl⟩
          rw [hkd] at hjx
          have hff : letC d = false ∧ digC d = false := by
            unfold furC at hfd
            cases h1 : letC d <;> cases h2 : digC d <;> simp_all
          have HLD : Hid (∀ w, Calls Tryz.prog 14 #[.int .u8 (kd : Int)] w fun e w' => e = .returned (.bool false) ∧ w' = w) := fun w => by
            have := let4_any kd w
            rw [← hkd, letK_let, hff.1] at this
            rw [← hkd]; exact this
          have HDD : Hid (∀ w, Calls Tryz.prog 15 #[.int .u8 (kd : Int)] w fun e w' => e = .returned (.bool false) ∧ w' = w) := fun w => by
            have := dig4_any kd w
            rw [← hkd, digK_dig, hff.2] at this
            rw [← hkd]; exact this
          clear hff hkd
          clear hcj hjl hj hj1 hdj hfd
          subst hEE
          go_wp2_with (first   | (go_at_call 14; (with_reducible refine (HLD.out _).mono ?_); rintro e w1 ⟨rfl, rfl⟩)   | (go_at_call 15; (with_reducible refine (HDD.out _).mono ?_); rintro e w1 ⟨rfl, rfl⟩))
          go_meet
          case rel => exact ⟨xx, xq, xf, hg⟩
  case rest =>
    clear xx xq xf hg
    obtain ⟨xx, xq, xf, hg⟩ := hcut
    have c_x0 := xx.cell 0 _ rfl
    have c_x1 := xx.cell 1 _ rfl
    have c_x2 := xx.cell 2 _ rfl
    have c_x3 := xx.cell 3 _ rfl
    have c_x4 := xx.cell 4 _ rfl
    have c_x5 := xx.cell 5 _ rfl
    have c_x6 := xx.cell 6 _ rfl
    have c_x7 := xx.cell 7 _ rfl
    have c_x8 := xx.cell 8 _ rfl
    have m_x0 := xx.mark 0 _ rfl
    have m_x1 := xx.mark 1 _ rfl
    have m_x2 := xx.mark 2 _ rfl
    have m_x3 := xx.mark 3 _ rfl
    have m_x4 := xx.mark 4 _ rfl
    have m_x5 := xx.mark 5 _ rfl
    have m_x6 := xx.mark 6 _ rfl
    have m_x7 := xx.mark 7 _ rfl
    have m_x8 := xx.mark 8 _ rfl
    have l_x := xx.lt (Nat.succ_pos _)
    have c_q0 := xq.cell 0 _ rfl
    have c_q1 := xq.cell 1 _ rfl
    have c_q2 := xq.cell 2 _ rfl
    have c_q3 := xq.cell 3 _ rfl
    have c_q4 := xq.cell 4 _ rfl
    have c_q5 := xq.cell 5 _ rfl
    have c_q6 := xq.cell 6 _ rfl
    have c_q7 := xq.cell 7 _ rfl
    have c_q8 := xq.cell 8 _ rfl
    have m_q0 := xq.mark 0 _ rfl
    have m_q1 := xq.mark 1 _ rfl
    have m_q2 := xq.mark 2 _ rfl
    have m_q3 := xq.mark 3 _ rfl
    have m_q4 := xq.mark 4 _ rfl
    have m_q5 := xq.mark 5 _ rfl
    have m_q6 := xq.mark 6 _ rfl
    have m_q7 := xq.mark 7 _ rfl
    have m_q8 := xq.mark 8 _ rfl
    have l_q := xq.lt (Nat.succ_pos _)
    have c_f0 := xf.cell 0 _ rfl
    have c_f1 := xf.cell 1 _ rfl
    have c_f2 := xf.cell 2 _ rfl
    have c_f3 := xf.cell 3 _ rfl
    have c_f4 := xf.cell 4 _ rfl
    have m_f0 := xf.mark 0 _ rfl
    have m_f1 := xf.mark 1 _ rfl
    have m_f2 := xf.mark 2 _ rfl
    have m_f3 := xf.mark 3 _ rfl
    have m_f4 := xf.mark 4 _ rfl
    have l_f := xf.lt (Nat.succ_pos _)
    go_upto_region 35 with fail
    clear c_x0 c_x1 c_x2 c_x3 c_x4 c_x5 c_x6 c_x7 c_x8 m_x0 m_x1 m_x2 m_x3 m_x4 m_x5 m_x6 m_x7 m_x8 l_x
    clear c_q0 c_q1 c_q2 c_q3 c_q4 c_q5 c_q6 c_q7 c_q8 m_q0 m_q1 m_q2 m_q3 m_q4 m_q5 m_q6 m_q7 m_q8 l_q
    clear c_f0 c_f1 c_f2 c_f3 c_f4 m_f0 m_f1 m_f2 m_f3 m_f4 l_f
    refine name_world (fun W7 hW => ?_)
    replace xx : boxAt W7 P [.int .i64 1, .int .i64 (a : Int), .int .i64 (E : Int), .string (st tx), .int .i64 0, .int .u64 0, .int .u64 0, .int .u64 0, .int .u64 0] := by rw [hW]; exact ((xx.put 0 _ (by simp)).put 3 _ (by simp))
    replace xq : boxAt W7 w.heap.size [.int .i64 0, .int .i64 0, .int .i64 0, .string { data := #[] }, .int .i64 0, .int .u64 0, .int .u64 0, .int .u64 0, .int .u64 0] := by rw [hW]; exact ((xq.far ⟨P, 0, none⟩ _ hxq).far ⟨P, 3, none⟩ _ hxq)
    replace xf : boxAt W7 (w.heap.size + 1) [.int .i64 0, .int .i64 0, .int .i64 0, .int .i64 0, .slice none 0 0] := by rw [hW]; exact ((xf.far ⟨P, 0, none⟩ _ hxf).far ⟨P, 3, none⟩ _ hxf)
    replace hg : Gr w W7 := by rw [hW]; exact set5 (set5 (hg) hlP 0 _) hlP 3 _
    clear hW
    have c_x0 := xx.cell 0 _ rfl
    have c_x1 := xx.cell 1 _ rfl
    have c_x2 := xx.cell 2 _ rfl
    have c_x3 := xx.cell 3 _ rfl
    have c_x4 := xx.cell 4 _ rfl
    have c_x5 := xx.cell 5 _ rfl
    have c_x6 := xx.cell 6 _ rfl
    have c_x7 := xx.cell 7 _ rfl
    have c_x8 := xx.cell 8 _ rfl
    have m_x0 := xx.mark 0 _ rfl
    have m_x1 := xx.mark 1 _ rfl
    have m_x2 := xx.mark 2 _ rfl
    have m_x3 := xx.mark 3 _ rfl
    have m_x4 := xx.mark 4 _ rfl
    have m_x5 := xx.mark 5 _ rfl
    have m_x6 := xx.mark 6 _ rfl
    have m_x7 := xx.mark 7 _ rfl
    have m_x8 := xx.mark 8 _ rfl
    have l_x := xx.lt (Nat.succ_pos _)
    have c_q0 := xq.cell 0 _ rfl
    have c_q1 := xq.cell 1 _ rfl
    have c_q2 := xq.cell 2 _ rfl
    have c_q3 := xq.cell 3 _ rfl
    have c_q4 := xq.cell 4 _ rfl
    have c_q5 := xq.cell 5 _ rfl
    have c_q6 := xq.cell 6 _ rfl
    have c_q7 := xq.cell 7 _ rfl
    have c_q8 := xq.cell 8 _ rfl
    have m_q0 := xq.mark 0 _ rfl
    have m_q1 := xq.mark 1 _ rfl
    have m_q2 := xq.mark 2 _ rfl
    have m_q3 := xq.mark 3 _ rfl
    have m_q4 := xq.mark 4 _ rfl
    have m_q5 := xq.mark 5 _ rfl
    have m_q6 := xq.mark 6 _ rfl
    have m_q7 := xq.mark 7 _ rfl
    have m_q8 := xq.mark 8 _ rfl
    have l_q := xq.lt (Nat.succ_pos _)
    have c_f0 := xf.cell 0 _ rfl
    have c_f1 := xf.cell 1 _ rfl
    have c_f2 := xf.cell 2 _ rfl
    have c_f3 := xf.cell 3 _ rfl
    have c_f4 := xf.cell 4 _ rfl
    have m_f0 := xf.mark 0 _ rfl
    have m_f1 := xf.mark 1 _ rfl
    have m_f2 := xf.mark 2 _ rfl
    have m_f3 := xf.mark 3 _ rfl
    have m_f4 := xf.mark 4 _ rfl
    have l_f := xf.lt (Nat.succ_pos _)
    go_wp2_with fail
    refine name_end (fun W9 hW => ?_)
    have y9 : boxAt W9 (w.heap.size + 1) [.int .i64 0, .int .i64 0, .int .i64 0, .int .i64 0, .slice none 0 0] := by rw [hW]; exact ((boxFar9 xf hqf _ _ _ _ _ _ _ _ _).put5 _ _ _ _ _)
    have x9 : boxAt W9 (w.heap.size) [.int .i64 1, .int .i64 (a : Int), .int .i64 (E : Int), .string (st tx), .int .i64 0, .int .u64 0, .int .u64 0, .int .u64 0, .int .u64 0] := by rw [hW]; exact ((xq.puts9 rfl _ _ _ _ _ _ _ _ _).far5 hfq _ _ _ _ _)
    have hg9 : Gr w W9 := by rw [hW]; exact (Below.put5 (Gr.puts9 hg hlq _ _ _ _ _ _ _ _ _) hlf _ _ _ _ _)
    clear hW
    have c_y0 := y9.cell 0 _ rfl
    have c_y1 := y9.cell 1 _ rfl
    have c_y2 := y9.cell 2 _ rfl
    have c_y3 := y9.cell 3 _ rfl
    have c_y4 := y9.cell 4 _ rfl
    have m_y0 := y9.mark 0 _ rfl
    have m_y1 := y9.mark 1 _ rfl
    have m_y2 := y9.mark 2 _ rfl
    have m_y3 := y9.mark 3 _ rfl
    have m_y4 := y9.mark 4 _ rfl
    have l_y := y9.lt (Nat.succ_pos _)
    have c_z0 := x9.cell 0 _ rfl
    have c_z1 := x9.cell 1 _ rfl
    have c_z2 := x9.cell 2 _ rfl
    have c_z3 := x9.cell 3 _ rfl
    have c_z4 := x9.cell 4 _ rfl
    have c_z5 := x9.cell 5 _ rfl
    have c_z6 := x9.cell 6 _ rfl
    have c_z7 := x9.cell 7 _ rfl
    have c_z8 := x9.cell 8 _ rfl
    have m_z0 := x9.mark 0 _ rfl
    have m_z1 := x9.mark 1 _ rfl
    have m_z2 := x9.mark 2 _ rfl
    have m_z3 := x9.mark 3 _ rfl
    have m_z4 := x9.mark 4 _ rfl
    have m_z5 := x9.mark 5 _ rfl
    have m_z6 := x9.mark 6 _ rfl
    have m_z7 := x9.mark 7 _ rfl
    have m_z8 := x9.mark 8 _ rfl
    have l_z := x9.lt (Nat.succ_pos _)
    refine bodyPost_ret (v := .tuple #[.agg #[.int .i64 1, .int .i64 (a : Int), .int .i64 (E : Int), .string (st tx), .int .i64 0, .int .u64 0, .int .u64 0, .int .u64 0, .int .u64 0], .agg #[.int .i64 0, .int .i64 0, .int .i64 0, .int .i64 0, .slice none 0 0]]) (by simp [results, Tryz.results10, go_sem, c_y0, c_y1, c_y2, c_y3, c_y4, c_z0, c_z1, c_z2, c_z3, c_z4, c_z5, c_z6, c_z7, c_z8]) rfl ?_
    rw [← HTW.out]
    exact ⟨rfl, hg9⟩

end Go.Proofs.YtdjankfcmoblhaaGreatDoor

/- bolterref4: one: a part. No condition but a length's bound. Printed by gen_ref4.py. -/
namespace Go.Proofs.YtdjankfcmoblhaaGreatDoor
open Go Go.RowKit

set_option maxRecDepth 100000 in
set_option maxHeartbeats 8000000 in
theorem one4_long (t : List UInt8) (a a1 : Nat) (w : World) (hT : (t.length : Int) ≤ 4294967280) (ha1 : a + 1 = a1) (c : UInt8) (E : Nat) (hc : t[a]? = some c) (hl : letC c = true) (hE0 : a + ((t.drop a).takeWhile furC).length = E) (hs : ¬ E ≤ a + 32) :
    Calls Tryz.prog 10 #[.string (st t), .int .i64 (a : Int)] w fun e w' => (∃ (f : Int) (tx : ByteArray), e = .returned (.tuple #[.agg #[.int .i64 0, .int .i64 (a : Int), .int .i64 f, .string tx, .int .i64 0, .int .u64 0, .int .u64 0, .int .u64 0, .int .u64 0], .agg #[.int .i64 3, .int .i64 0, .int .i64 0, .int .i64 (a : Int), .slice none 0 0]])) ∧ Gr w w' := by
  have hf : furC c = true := by unfold furC; rw [hl, Bool.or_true]
  have hne := let_ne hl
  have hsz := st_size t
  have ha := (List.getElem?_eq_some_iff.1 hc).1
  have hix := fun w' => run_at (P := Tryz.prog) w' 9 t a c .i64 Tryz.underlying9 hc
  have hw1 : IntKind.i64.wrap ((a : Int) + 1) = (a1 : Int) := by rw [IntWalk.i64_in _ (by omega)]; omega
  have HA := Lib.hid (show a < t.length ∧ a + 1 = a1 from ⟨ha, ha1⟩)
  have HT := Lib.hid hT
  have hE : a1 + ((t.drop a1).takeWhile furC).length = E := by
    rw [← hE0, drop_at t a c hc, List.takeWhile_cons, if_pos hf, List.length_cons, ha1]; omega
  have HE := Lib.hid hE
  have hEl : E ≤ t.length := by have := (List.takeWhile_prefix furC (l := t.drop a1)).length_le; rw [List.length_drop] at this; omega
  have hsub := fun w' => run_sub (P := Tryz.prog) w' 9 t a E Tryz.underlying9 (by omega) hEl
  obtain ⟨tx, htx⟩ : ∃ x, (t.drop a).take (E - a) = x := ⟨_, rfl⟩
  have htw : tx = (t.drop a).takeWhile furC := by rw [← htx, show E - a = ((t.drop a).takeWhile furC).length by omega, take_while]
  rw [htx] at hsub
  have HTW := Lib.hid htw
  have HEL := Lib.hid (show a1 ≤ E ∧ E ≤ t.length from ⟨by omega, hEl⟩)
  obtain ⟨k, hk⟩ : ∃ k, c.toNat = k := ⟨_, rfl⟩
  rw [hk] at hix
  have e10 : ((k : Int) == 10) = false := by rw [beq_eq_false_iff_ne]; omega
  have HL : Hid (∀ w, Calls Tryz.prog 14 #[.int .u8 (k : Int)] w fun e w' => e = .returned (.bool true) ∧ w' = w) := fun w => by
    have := let4_any k w
    rw [← hk, letK_let, hl] at this
    rw [← hk]; exact this
  have hwE : IntKind.i64.wrap ((E : Int) - (a : Int)) = ((E - a : Nat) : Int) := by rw [IntWalk.i64_in _ (by omega)]; omega
  obtain ⟨m, hm⟩ : ∃ m, E - a = m := ⟨_, rfl⟩
  rw [hm] at hwE
  have hmI : (32 : Int) < (m : Int) := by omega
  clear hm hs hk hne hf hl hE0 htx htw hE hEl
  clear ha1 hT ha hc
  go_enter Tryz.func10, Tryz.ntmps10
  go_upto_region 2 with fail
  refine name_world (fun W hW => ?_)
  obtain ⟨xq, xf, xx, hg, hs⟩ : boxAt W w.heap.size [.int .i64 0, .int .i64 0, .int .i64 0, .string { data := #[] }, .int .i64 0, .int .u64 0, .int .u64 0, .int .u64 0, .int .u64 0] ∧ boxAt W (w.heap.size + 1) [.int .i64 0, .int .i64 0, .int .i64 0, .int .i64 0, .slice none 0 0] ∧ boxAt W (w.heap.size + 2) [.int .i64 0, .int .i64 (a : Int), .int .i64 (a1 : Int), .string { data := #[] }, .int .i64 0, .int .u64 0, .int .u64 0, .int .u64 0, .int .u64 0] ∧ Gr w W ∧ W.heap.size = w.heap.size + 3 := by
    subst hW
    exact boxes3 w [.int .i64 0, .int .i64 0, .int .i64 0, .string { data := #[] }, .int .i64 0, .int .u64 0, .int .u64 0, .int .u64 0, .int .u64 0] [.int .i64 0, .int .i64 0, .int .i64 0, .int .i64 0, .slice none 0 0] [.int .i64 0, .int .i64 (a : Int), .int .i64 (a1 : Int), .string { data := #[] }, .int .i64 0, .int .u64 0, .int .u64 0, .int .u64 0, .int .u64 0] 38 25 38
  clear hW hw1
  obtain ⟨P, hP⟩ : ∃ P, w.heap.size + 1 + 1 = P := ⟨_, rfl⟩
  rw [hP]
  rw [show w.heap.size + 2 = P from hP] at xx
  have hqf : w.heap.size ≠ w.heap.size + 1 := by omega
  have hfq : w.heap.size + 1 ≠ w.heap.size := by omega
  have hxq : P ≠ w.heap.size := by omega
  have hxf : P ≠ w.heap.size + 1 := by omega
  have hlq : w.heap.size ≤ w.heap.size := Nat.le_refl _
  have hlf : w.heap.size ≤ w.heap.size + 1 := by omega
  have hlP : w.heap.size ≤ P := by omega
  clear hP hs
  go_upto_block 1 with (go_at_call 14; (with_reducible refine (HL.out _).mono ?_); rintro e w1 ⟨rfl, rfl⟩)
  clear hix HL
  go_cut [34] from 35 to 56 (fun _ wx => boxAt wx P [.int .i64 0, .int .i64 (a : Int), .int .i64 (E : Int), .string { data := #[] }, .int .i64 0, .int .u64 0, .int .u64 0, .int .u64 0, .int .u64 0] ∧ boxAt wx w.heap.size [.int .i64 0, .int .i64 0, .int .i64 0, .string { data := #[] }, .int .i64 0, .int .u64 0, .int .u64 0, .int .u64 0, .int .u64 0] ∧ boxAt wx (w.heap.size + 1) [.int .i64 0, .int .i64 0, .int .i64 0, .int .i64 0, .slice none 0 0] ∧ Gr w wx)
  case first =>
    clear hsub
    go_wp2_with fail
    go_loopw [34] (fun _ wr => ∃ j : Nat, j ≤ t.length ∧ Hid (j + ((t.drop j).takeWhile furC).length = E) ∧ boxAt wr P [.int .i64 0, .int .i64 (a : Int), .int .i64 (j : Int), .string { data := #[] }, .int .i64 0, .int .u64 0, .int .u64 0, .int .u64 0, .int .u64 0] ∧ boxAt wr w.heap.size [.int .i64 0, .int .i64 0, .int .i64 0, .string { data := #[] }, .int .i64 0, .int .u64 0, .int .u64 0, .int .u64 0, .int .u64 0] ∧ boxAt wr (w.heap.size + 1) [.int .i64 0, .int .i64 0, .int .i64 0, .int .i64 0, .slice none 0 0] ∧ Gr w wr) (fun _ wr => t.length - endOf P wr)
    case atStart => exact ⟨a1, by have := HA.out; omega, HE.out, xx, xq, xf, hg⟩
    case round =>
      clear xx xq xf hg
      obtain ⟨j, hj, hEj, xx, xq, xf, hg⟩ := hrel
      have HEN := Lib.hid (endOf_is xx (k := j) rfl)
      have c_x0 := xx.cell 0 _ rfl
      have c_x1 := xx.cell 1 _ rfl
      have c_x2 := xx.cell 2 _ rfl
      have c_x3 := xx.cell 3 _ rfl
      have c_x4 := xx.cell 4 _ rfl
      have c_x5 := xx.cell 5 _ rfl
      have c_x6 := xx.cell 6 _ rfl
      have c_x7 := xx.cell 7 _ rfl
      have c_x8 := xx.cell 8 _ rfl
      have m_x0 := xx.mark 0 _ rfl
      have m_x1 := xx.mark 1 _ rfl
      have m_x2 := xx.mark 2 _ rfl
      have m_x3 := xx.mark 3 _ rfl
      have m_x4 := xx.mark 4 _ rfl
      have m_x5 := xx.mark 5 _ rfl
      have m_x6 := xx.mark 6 _ rfl
      have m_x7 := xx.mark 7 _ rfl
      have m_x8 := xx.mark 8 _ rfl
      have l_x := xx.lt (Nat.succ_pos _)
      cases hcj : t[j]? with
      | none =>
        have hjl : j = t.length := by
          rcases Nat.lt_or_ge j t.length with h | h
          · rw [List.getElem?_eq_getElem h] at hcj; cases hcj
          · omega
        have hjI : ¬ (j : Int) < (t.length : Int) := by omega
        have hEE : E = j := by have := hEj.out; rw [hjl, List.drop_length] at this; simp at this; omega
        clear hcj hjl hj
        subst hEE
        go_wp2_with fail
        go_meet
        case rel => exact ⟨xx, xq, xf, hg⟩
      | some d =>
        have hjl : j < t.length := (List.getElem?_eq_some_iff.1 hcj).1
        have hjI : (j : Int) < (t.length : Int) := by omega
        have hjx := fun w' => run_at (P := Tryz.prog) w' 9 t j d .i64 Tryz.underlying9 hcj
        have hdj := drop_at t j d hcj
        obtain ⟨j1, hj1⟩ : ∃ x, j + 1 = x := ⟨_, rfl⟩
        have hwj : IntKind.i64.wrap ((j : Int) + 1) = (j1 : Int) := by rw [IntWalk.i64_in _ (by have := HT.out; omega)]; omega
        have HJ := Lib.hid (show j + 1 = j1 ∧ j < t.length from ⟨hj1, hjl⟩)
        rw [hj1] at hdj
        cases hfd : furC d with
        | true =>
          have hEj1 : Hid (j1 + ((t.drop j1).takeWhile furC).length = E) := Lib.hid (by have := hEj.out; rw [hdj, List.takeWhile_cons, if_pos hfd, List.length_cons] at this; omega)
          obtain ⟨bl, hbl⟩ : ∃ b, letC d = b := ⟨_, rfl⟩
          obtain ⟨bd, hbd⟩ : ∃ b, digC d = b := ⟨_, rfl⟩
          obtain ⟨kd, hkd⟩ : ∃ x, d.toNat = x := ⟨_, rfl⟩
          rw [hkd] at hjx
          have HLD : Hid (∀ w, Calls Tryz.prog 14 #[.int .u8 (kd : Int)] w fun e w' => e = .returned (.bool bl) ∧ w' = w) := fun w => by
            have := let4_any kd w
            rw [← hkd, letK_let, hbl] at this
            rw [← hkd]; exact this
          have HDD : Hid (∀ w, Calls Tryz.prog 15 #[.int .u8 (kd : Int)] w fun e w' => e = .returned (.bool bd) ∧ w' = w) := fun w => by
            have := dig4_any kd w
            rw [← hkd, digK_dig, hbd] at this
            rw [← hkd]; exact this
          have hor : bl = true ∨ bl = false ∧ bd = true := by
            unfold furC at hfd; rw [hbl, hbd] at hfd
            cases bl <;> simp_all
          clear hbl hbd hkd
          rcases hor with rfl | ⟨rfl, rfl⟩
          all_goals
            clear hcj hjl hj hj1 hdj hfd
            go_wp2_with (first   | (go_at_call 14; (with_reducible refine (HLD.out _).mono ?_); rintro e w1 ⟨rfl, rfl⟩)   | (go_at_call 15; (with_reducible refine (HDD.out _).mono ?_); rintro e w1 ⟨rfl, rfl⟩))
            go_roundw
            case rel => exact ⟨j1, by have := HJ.out; omega, hEj1, xx.put 2 _ (by simp), xq.far ⟨P, 2, none⟩ _ hxq, xf.far ⟨P, 2, none⟩ _ hxf, set5 hg hlP 2 _⟩
            case measure =>
              rw [endOf_is (xx.put 2 (.int .i64 (j1 : Int)) (by simp)) (k := j1) rfl, HEN.out]; have := HJ.out; omega
        | false =>
          have hEE : E = j := by have := hEj.out; rw [hdj, List.takeWhile_cons, if_neg (by rw [hfd]; decide)] at this; simp at this; omega
          obtain ⟨kd, hkd⟩ : ∃ x, d.toNat = x := ⟨_, rfl⟩
          rw [hkd] at hjx
          have hff : letC d = false ∧ digC d = false := by
            unfold furC at hfd
            cases h1 : letC d <;> cases h2 : digC d <;> simp_all
          have HLD : Hid (∀ w, Calls Tryz.prog 14 #[.int .u8 (kd : Int)] w fun e w' => e = .returned (.bool false) ∧ w' = w) := fun w => by
            have := let4_any kd w
            rw [← hkd, letK_let, hff.1] at this
            rw [← hkd]; exact this
          have HDD : Hid (∀ w, Calls Tryz.prog 15 #[.int .u8 (kd : Int)] w fun e w' => e = .returned (.bool false) ∧ w' = w) := fun w => by
            have := dig4_any kd w
            rw [← hkd, digK_dig, hff.2] at this
            rw [← hkd]; exact this
          clear hff hkd
          clear hcj hjl hj hj1 hdj hfd
          subst hEE
          go_wp2_with (first   | (go_at_call 14; (with_reducible refine (HLD.out _).mono ?_); rintro e w1 ⟨rfl, rfl⟩)   | (go_at_call 15; (with_reducible refine (HDD.out _).mono ?_); rintro e w1 ⟨rfl, rfl⟩))
          go_meet
          case rel => exact ⟨xx, xq, xf, hg⟩
  case rest =>
    clear xx xq xf hg
    obtain ⟨xx, xq, xf, hg⟩ := hcut
    have c_x0 := xx.cell 0 _ rfl
    have c_x1 := xx.cell 1 _ rfl
    have c_x2 := xx.cell 2 _ rfl
    have c_x3 := xx.cell 3 _ rfl
    have c_x4 := xx.cell 4 _ rfl
    have c_x5 := xx.cell 5 _ rfl
    have c_x6 := xx.cell 6 _ rfl
    have c_x7 := xx.cell 7 _ rfl
    have c_x8 := xx.cell 8 _ rfl
    have m_x0 := xx.mark 0 _ rfl
    have m_x1 := xx.mark 1 _ rfl
    have m_x2 := xx.mark 2 _ rfl
    have m_x3 := xx.mark 3 _ rfl
    have m_x4 := xx.mark 4 _ rfl
    have m_x5 := xx.mark 5 _ rfl
    have m_x6 := xx.mark 6 _ rfl
    have m_x7 := xx.mark 7 _ rfl
    have m_x8 := xx.mark 8 _ rfl
    have l_x := xx.lt (Nat.succ_pos _)
    have c_q0 := xq.cell 0 _ rfl
    have c_q1 := xq.cell 1 _ rfl
    have c_q2 := xq.cell 2 _ rfl
    have c_q3 := xq.cell 3 _ rfl
    have c_q4 := xq.cell 4 _ rfl
    have c_q5 := xq.cell 5 _ rfl
    have c_q6 := xq.cell 6 _ rfl
    have c_q7 := xq.cell 7 _ rfl
    have c_q8 := xq.cell 8 _ rfl
    have m_q0 := xq.mark 0 _ rfl
    have m_q1 := xq.mark 1 _ rfl
    have m_q2 := xq.mark 2 _ rfl
    have m_q3 := xq.mark 3 _ rfl
    have m_q4 := xq.mark 4 _ rfl
    have m_q5 := xq.mark 5 _ rfl
    have m_q6 := xq.mark 6 _ rfl
    have m_q7 := xq.mark 7 _ rfl
    have m_q8 := xq.mark 8 _ rfl
    have l_q := xq.lt (Nat.succ_pos _)
    have c_f0 := xf.cell 0 _ rfl
    have c_f1 := xf.cell 1 _ rfl
    have c_f2 := xf.cell 2 _ rfl
    have c_f3 := xf.cell 3 _ rfl
    have c_f4 := xf.cell 4 _ rfl
    have m_f0 := xf.mark 0 _ rfl
    have m_f1 := xf.mark 1 _ rfl
    have m_f2 := xf.mark 2 _ rfl
    have m_f3 := xf.mark 3 _ rfl
    have m_f4 := xf.mark 4 _ rfl
    have l_f := xf.lt (Nat.succ_pos _)

    go_wp2_with fail
    go_region_with (go_at_call 16; (with_reducible refine (at0_any _ _ _).mono ?_); rintro e w8 ⟨rfl, hq8⟩; have hG8 : Gr _ w8 := (Gr.drew _).trans hq8; have hc := hG8.cells; have hm := hG8.marks)
    all_goals
      replace xq := xq.later hG8
      replace xf := xf.later hG8
      replace hg := hg.trans hG8
      go_wp2
      refine name_end (fun W9 hW => ?_)
      have y9 : boxAt W9 (w.heap.size + 1) [.int .i64 3, .int .i64 0, .int .i64 0, .int .i64 (a : Int), .slice none 0 0] := by rw [hW]; exact ((boxFar9 xf hqf _ _ _ _ _ _ _ _ _).put5 _ _ _ _ _)
      have x9 : boxAt W9 (w.heap.size) [.int .i64 0, .int .i64 (a : Int), .int .i64 (E : Int), .string { data := #[] }, .int .i64 0, .int .u64 0, .int .u64 0, .int .u64 0, .int .u64 0] := by rw [hW]; exact ((xq.puts9 rfl _ _ _ _ _ _ _ _ _).far5 hfq _ _ _ _ _)
      have hg9 : Gr w W9 := by rw [hW]; exact (Below.put5 (Gr.puts9 hg hlq _ _ _ _ _ _ _ _ _) hlf _ _ _ _ _)
      clear hW
      have c_y0 := y9.cell 0 _ rfl
      have c_y1 := y9.cell 1 _ rfl
      have c_y2 := y9.cell 2 _ rfl
      have c_y3 := y9.cell 3 _ rfl
      have c_y4 := y9.cell 4 _ rfl
      have m_y0 := y9.mark 0 _ rfl
      have m_y1 := y9.mark 1 _ rfl
      have m_y2 := y9.mark 2 _ rfl
      have m_y3 := y9.mark 3 _ rfl
      have m_y4 := y9.mark 4 _ rfl
      have l_y := y9.lt (Nat.succ_pos _)
      have c_z0 := x9.cell 0 _ rfl
      have c_z1 := x9.cell 1 _ rfl
      have c_z2 := x9.cell 2 _ rfl
      have c_z3 := x9.cell 3 _ rfl
      have c_z4 := x9.cell 4 _ rfl
      have c_z5 := x9.cell 5 _ rfl
      have c_z6 := x9.cell 6 _ rfl
      have c_z7 := x9.cell 7 _ rfl
      have c_z8 := x9.cell 8 _ rfl
      have m_z0 := x9.mark 0 _ rfl
      have m_z1 := x9.mark 1 _ rfl
      have m_z2 := x9.mark 2 _ rfl
      have m_z3 := x9.mark 3 _ rfl
      have m_z4 := x9.mark 4 _ rfl
      have m_z5 := x9.mark 5 _ rfl
      have m_z6 := x9.mark 6 _ rfl
      have m_z7 := x9.mark 7 _ rfl
      have m_z8 := x9.mark 8 _ rfl
      have l_z := x9.lt (Nat.succ_pos _)
      refine bodyPost_ret (v := .tuple #[.agg #[.int .i64 0, .int .i64 (a : Int), .int .i64 (E : Int), .string { data := #[] }, .int .i64 0, .int .u64 0, .int .u64 0, .int .u64 0, .int .u64 0], .agg #[.int .i64 3, .int .i64 0, .int .i64 0, .int .i64 (a : Int), .slice none 0 0]]) (by simp [results, Tryz.results10, go_sem, c_y0, c_y1, c_y2, c_y3, c_y4, c_z0, c_z1, c_z2, c_z3, c_z4, c_z5, c_z6, c_z7, c_z8]) rfl ?_
      exact ⟨⟨_, _, rfl⟩, hg9⟩

end Go.Proofs.YtdjankfcmoblhaaGreatDoor

/- bolterref4: one: a part. No condition but a length's bound. Printed by gen_ref4.py. -/
namespace Go.Proofs.YtdjankfcmoblhaaGreatDoor
open Go Go.RowKit

set_option maxRecDepth 100000 in
set_option maxHeartbeats 8000000 in
theorem one4_num (t : List UInt8) (a a1 : Nat) (w : World) (hT : (t.length : Int) ≤ 4294967280) (ha1 : a + 1 = a1) (c : UInt8) (E : Nat) (hc : t[a]? = some c) (hl : digC c = true) (hE0 : a + ((t.drop a).takeWhile digC).length = E) :
    Calls Tryz.prog 10 #[.string (st t), .int .i64 (a : Int)] w fun e w' => e = .returned (.tuple #[.agg #[.int .i64 2, .int .i64 (a : Int), .int .i64 (E : Int), .string { data := #[] }, .int .i64 (numP ((t.drop a).takeWhile digC) : Int), .int .u64 0, .int .u64 0, .int .u64 0, .int .u64 0], .agg #[.int .i64 0, .int .i64 0, .int .i64 0, .int .i64 0, .slice none 0 0]]) ∧ Gr w w' := by
  have hf : digC c = true := hl
  have hne := dig_ne hl
  have hsz := st_size t
  have ha := (List.getElem?_eq_some_iff.1 hc).1
  have hix := fun w' => run_at (P := Tryz.prog) w' 9 t a c .i64 Tryz.underlying9 hc
  have hw1 : IntKind.i64.wrap ((a : Int) + 1) = (a1 : Int) := by rw [IntWalk.i64_in _ (by omega)]; omega
  have HA := Lib.hid (show a < t.length ∧ a + 1 = a1 from ⟨ha, ha1⟩)
  have HT := Lib.hid hT
  have hE : a1 + ((t.drop a1).takeWhile digC).length = E := by
    rw [← hE0, drop_at t a c hc, List.takeWhile_cons, if_pos hf, List.length_cons, ha1]; omega
  have HE := Lib.hid hE
  have hEl : E ≤ t.length := by have := (List.takeWhile_prefix digC (l := t.drop a1)).length_le; rw [List.length_drop] at this; omega
  have hsub := fun w' => run_sub (P := Tryz.prog) w' 9 t a E Tryz.underlying9 (by omega) hEl
  obtain ⟨tx, htx⟩ : ∃ x, (t.drop a).take (E - a) = x := ⟨_, rfl⟩
  have htw : tx = (t.drop a).takeWhile digC := by rw [← htx, show E - a = ((t.drop a).takeWhile digC).length by omega, take_while]
  rw [htx] at hsub
  have HTW := Lib.hid htw
  have HEL := Lib.hid (show a1 ≤ E ∧ E ≤ t.length from ⟨by omega, hEl⟩)
  obtain ⟨k, hk⟩ : ∃ k, c.toNat = k := ⟨_, rfl⟩
  rw [hk] at hix
  have e10 : ((k : Int) == 10) = false := by rw [beq_eq_false_iff_ne]; omega
  have HL : Hid (∀ w, Calls Tryz.prog 14 #[.int .u8 (k : Int)] w fun e w' => e = .returned (.bool false) ∧ w' = w) := fun w => by
    have := let4_any k w
    rw [← hk, letK_let, hne.1] at this
    rw [← hk]; exact this
  have HD : Hid (∀ w, Calls Tryz.prog 15 #[.int .u8 (k : Int)] w fun e w' => e = .returned (.bool true) ∧ w' = w) := fun w => by
    have := dig4_any k w
    rw [← hk, digK_dig, hl] at this
    rw [← hk]; exact this
  have hmem : ∀ d ∈ tx, digC d = true := fun d hd => by rw [htw] at hd; exact List.all_eq_true.1 (List.all_takeWhile (p := digC) (l := t.drop a)) d hd
  have htl : (tx.length : Int) ≤ 4294967280 := by have := (List.takeWhile_prefix digC (l := t.drop a)).length_le; rw [← htw, List.length_drop] at this; omega
  obtain ⟨nn, hnn⟩ : ∃ n, numP tx = n := ⟨_, rfl⟩
  have HNN : Hid (∀ w, Calls Tryz.prog 17 #[.string (st tx)] w fun e w' => e = .returned (.int .i64 (nn : Int)) ∧ w' = w) := fun w => by rw [← hnn]; exact number4_any tx w htl hmem
  have HNV := Lib.hid hnn
  clear hk hne hf hl hE0 htx htw hE hEl hmem htl hnn
  clear ha1 hT ha hc
  go_enter Tryz.func10, Tryz.ntmps10
  go_upto_region 2 with fail
  refine name_world (fun W hW => ?_)
  obtain ⟨xq, xf, xx, hg, hs⟩ : boxAt W w.heap.size [.int .i64 0, .int .i64 0, .int .i64 0, .string { data := #[] }, .int .i64 0, .int .u64 0, .int .u64 0, .int .u64 0, .int .u64 0] ∧ boxAt W (w.heap.size + 1) [.int .i64 0, .int .i64 0, .int .i64 0, .int .i64 0, .slice none 0 0] ∧ boxAt W (w.heap.size + 2) [.int .i64 0, .int .i64 (a : Int), .int .i64 (a1 : Int), .string { data := #[] }, .int .i64 0, .int .u64 0, .int .u64 0, .int .u64 0, .int .u64 0] ∧ Gr w W ∧ W.heap.size = w.heap.size + 3 := by
    subst hW
    exact boxes3 w [.int .i64 0, .int .i64 0, .int .i64 0, .string { data := #[] }, .int .i64 0, .int .u64 0, .int .u64 0, .int .u64 0, .int .u64 0] [.int .i64 0, .int .i64 0, .int .i64 0, .int .i64 0, .slice none 0 0] [.int .i64 0, .int .i64 (a : Int), .int .i64 (a1 : Int), .string { data := #[] }, .int .i64 0, .int .u64 0, .int .u64 0, .int .u64 0, .int .u64 0] 38 25 38
  clear hW hw1
  obtain ⟨P, hP⟩ : ∃ P, w.heap.size + 1 + 1 = P := ⟨_, rfl⟩
  rw [hP]
  rw [show w.heap.size + 2 = P from hP] at xx
  have hqf : w.heap.size ≠ w.heap.size + 1 := by omega
  have hfq : w.heap.size + 1 ≠ w.heap.size := by omega
  have hxq : P ≠ w.heap.size := by omega
  have hxf : P ≠ w.heap.size + 1 := by omega
  have hlq : w.heap.size ≤ w.heap.size := Nat.le_refl _
  have hlf : w.heap.size ≤ w.heap.size + 1 := by omega
  have hlP : w.heap.size ≤ P := by omega
  clear hP hs
  go_upto_block 3 with (first   | (go_at_call 14; (with_reducible refine (HL.out _).mono ?_); rintro e w1 ⟨rfl, rfl⟩)   | (go_at_call 15; (with_reducible refine (HD.out _).mono ?_); rintro e w1 ⟨rfl, rfl⟩))
  clear hix HL HD
  go_cut [75] from 76 to 90 (fun _ wx => boxAt wx P [.int .i64 0, .int .i64 (a : Int), .int .i64 (E : Int), .string { data := #[] }, .int .i64 0, .int .u64 0, .int .u64 0, .int .u64 0, .int .u64 0] ∧ boxAt wx w.heap.size [.int .i64 0, .int .i64 0, .int .i64 0, .string { data := #[] }, .int .i64 0, .int .u64 0, .int .u64 0, .int .u64 0, .int .u64 0] ∧ boxAt wx (w.heap.size + 1) [.int .i64 0, .int .i64 0, .int .i64 0, .int .i64 0, .slice none 0 0] ∧ Gr w wx)
  case first =>
    clear hsub
    go_wp2_with fail
    go_loopw [75] (fun _ wr => ∃ j : Nat, j ≤ t.length ∧ Hid (j + ((t.drop j).takeWhile digC).length = E) ∧ boxAt wr P [.int .i64 0, .int .i64 (a : Int), .int .i64 (j : Int), .string { data := #[] }, .int .i64 0, .int .u64 0, .int .u64 0, .int .u64 0, .int .u64 0] ∧ boxAt wr w.heap.size [.int .i64 0, .int .i64 0, .int .i64 0, .string { data := #[] }, .int .i64 0, .int .u64 0, .int .u64 0, .int .u64 0, .int .u64 0] ∧ boxAt wr (w.heap.size + 1) [.int .i64 0, .int .i64 0, .int .i64 0, .int .i64 0, .slice none 0 0] ∧ Gr w wr) (fun _ wr => t.length - endOf P wr)
    case atStart => exact ⟨a1, by have := HA.out; omega, HE.out, xx, xq, xf, hg⟩
    case round =>
      clear xx xq xf hg
      obtain ⟨j, hj, hEj, xx, xq, xf, hg⟩ := hrel
      have HEN := Lib.hid (endOf_is xx (k := j) rfl)
      have c_x0 := xx.cell 0 _ rfl
      have c_x1 := xx.cell 1 _ rfl
      have c_x2 := xx.cell 2 _ rfl
      have c_x3 := xx.cell 3 _ rfl
      have c_x4 := xx.cell 4 _ rfl
      have c_x5 := xx.cell 5 _ rfl
      have c_x6 := xx.cell 6 _ rfl
      have c_x7 := xx.cell 7 _ rfl
      have c_x8 := xx.cell 8 _ rfl
      have m_x0 := xx.mark 0 _ rfl
      have m_x1 := xx.mark 1 _ rfl
      have m_x2 := xx.mark 2 _ rfl
      have m_x3 := xx.mark 3 _ rfl
      have m_x4 := xx.mark 4 _ rfl
      have m_x5 := xx.mark 5 _ rfl
      have m_x6 := xx.mark 6 _ rfl
      have m_x7 := xx.mark 7 _ rfl
      have m_x8 := xx.mark 8 _ rfl
      have l_x := xx.lt (Nat.succ_pos _)
      cases hcj : t[j]? with
      | none =>
        have hjl : j = t.length := by
          rcases Nat.lt_or_ge j t.length with h | h
          · rw [List.getElem?_eq_getElem h] at hcj; cases hcj
          · omega
        have hjI : ¬ (j : Int) < (t.length : Int) := by omega
        have hEE : E = j := by have := hEj.out; rw [hjl, List.drop_length] at this; simp at this; omega
        clear hcj hjl hj
        subst hEE
        go_wp2_with fail
        go_meet
        case rel => exact ⟨xx, xq, xf, hg⟩
      | some d =>
        have hjl : j < t.length := (List.getElem?_eq_some_iff.1 hcj).1
        have hjI : (j : Int) < (t.length : Int) := by omega
        have hjx := fun w' => run_at (P := Tryz.prog) w' 9 t j d .i64 Tryz.underlying9 hcj
        have hdj := drop_at t j d hcj
        obtain ⟨j1, hj1⟩ : ∃ x, j + 1 = x := ⟨_, rfl⟩
        have hwj : IntKind.i64.wrap ((j : Int) + 1) = (j1 : Int) := by rw [IntWalk.i64_in _ (by have := HT.out; omega)]; omega
        have HJ := Lib.hid (show j + 1 = j1 ∧ j < t.length from ⟨hj1, hjl⟩)
        rw [hj1] at hdj
        cases hfd : digC d with
        | true =>
          have hEj1 : Hid (j1 + ((t.drop j1).takeWhile digC).length = E) := Lib.hid (by have := hEj.out; rw [hdj, List.takeWhile_cons, if_pos hfd, List.length_cons] at this; omega)
          obtain ⟨kd, hkd⟩ : ∃ x, d.toNat = x := ⟨_, rfl⟩
          rw [hkd] at hjx
          have HDD : Hid (∀ w, Calls Tryz.prog 15 #[.int .u8 (kd : Int)] w fun e w' => e = .returned (.bool true) ∧ w' = w) := fun w => by
            have := dig4_any kd w
            rw [← hkd, digK_dig, hfd] at this
            rw [← hkd]; exact this
          clear hkd
          all_goals
            clear hcj hjl hj hj1 hdj hfd
            go_wp2_with (go_at_call 15; (with_reducible refine (HDD.out _).mono ?_); rintro e w1 ⟨rfl, rfl⟩)
            go_roundw
            case rel => exact ⟨j1, by have := HJ.out; omega, hEj1, xx.put 2 _ (by simp), xq.far ⟨P, 2, none⟩ _ hxq, xf.far ⟨P, 2, none⟩ _ hxf, set5 hg hlP 2 _⟩
            case measure =>
              rw [endOf_is (xx.put 2 (.int .i64 (j1 : Int)) (by simp)) (k := j1) rfl, HEN.out]; have := HJ.out; omega
        | false =>
          have hEE : E = j := by have := hEj.out; rw [hdj, List.takeWhile_cons, if_neg (by rw [hfd]; decide)] at this; simp at this; omega
          obtain ⟨kd, hkd⟩ : ∃ x, d.toNat = x := ⟨_, rfl⟩
          rw [hkd] at hjx
          have HDD : Hid (∀ w, Calls Tryz.prog 15 #[.int .u8 (kd : Int)] w fun e w' => e = .returned (.bool false) ∧ w' = w) := fun w => by
            have := dig4_any kd w
            rw [← hkd, digK_dig, hfd] at this
            rw [← hkd]; exact this
          clear hkd
          clear hcj hjl hj hj1 hdj hfd
          subst hEE
          go_wp2_with (go_at_call 15; (with_reducible refine (HDD.out _).mono ?_); rintro e w1 ⟨rfl, rfl⟩)
          go_meet
          case rel => exact ⟨xx, xq, xf, hg⟩
  case rest =>
    clear xx xq xf hg
    obtain ⟨xx, xq, xf, hg⟩ := hcut
    have c_x0 := xx.cell 0 _ rfl
    have c_x1 := xx.cell 1 _ rfl
    have c_x2 := xx.cell 2 _ rfl
    have c_x3 := xx.cell 3 _ rfl
    have c_x4 := xx.cell 4 _ rfl
    have c_x5 := xx.cell 5 _ rfl
    have c_x6 := xx.cell 6 _ rfl
    have c_x7 := xx.cell 7 _ rfl
    have c_x8 := xx.cell 8 _ rfl
    have m_x0 := xx.mark 0 _ rfl
    have m_x1 := xx.mark 1 _ rfl
    have m_x2 := xx.mark 2 _ rfl
    have m_x3 := xx.mark 3 _ rfl
    have m_x4 := xx.mark 4 _ rfl
    have m_x5 := xx.mark 5 _ rfl
    have m_x6 := xx.mark 6 _ rfl
    have m_x7 := xx.mark 7 _ rfl
    have m_x8 := xx.mark 8 _ rfl
    have l_x := xx.lt (Nat.succ_pos _)
    have c_q0 := xq.cell 0 _ rfl
    have c_q1 := xq.cell 1 _ rfl
    have c_q2 := xq.cell 2 _ rfl
    have c_q3 := xq.cell 3 _ rfl
    have c_q4 := xq.cell 4 _ rfl
    have c_q5 := xq.cell 5 _ rfl
    have c_q6 := xq.cell 6 _ rfl
    have c_q7 := xq.cell 7 _ rfl
    have c_q8 := xq.cell 8 _ rfl
    have m_q0 := xq.mark 0 _ rfl
    have m_q1 := xq.mark 1 _ rfl
    have m_q2 := xq.mark 2 _ rfl
    have m_q3 := xq.mark 3 _ rfl
    have m_q4 := xq.mark 4 _ rfl
    have m_q5 := xq.mark 5 _ rfl
    have m_q6 := xq.mark 6 _ rfl
    have m_q7 := xq.mark 7 _ rfl
    have m_q8 := xq.mark 8 _ rfl
    have l_q := xq.lt (Nat.succ_pos _)
    have c_f0 := xf.cell 0 _ rfl
    have c_f1 := xf.cell 1 _ rfl
    have c_f2 := xf.cell 2 _ rfl
    have c_f3 := xf.cell 3 _ rfl
    have c_f4 := xf.cell 4 _ rfl
    have m_f0 := xf.mark 0 _ rfl
    have m_f1 := xf.mark 1 _ rfl
    have m_f2 := xf.mark 2 _ rfl
    have m_f3 := xf.mark 3 _ rfl
    have m_f4 := xf.mark 4 _ rfl
    have l_f := xf.lt (Nat.succ_pos _)
    go_upto_region 35 with (go_at_call 17; (with_reducible refine (HNN.out _).mono ?_); rintro e w1 ⟨rfl, rfl⟩)
    clear c_x0 c_x1 c_x2 c_x3 c_x4 c_x5 c_x6 c_x7 c_x8 m_x0 m_x1 m_x2 m_x3 m_x4 m_x5 m_x6 m_x7 m_x8 l_x
    clear c_q0 c_q1 c_q2 c_q3 c_q4 c_q5 c_q6 c_q7 c_q8 m_q0 m_q1 m_q2 m_q3 m_q4 m_q5 m_q6 m_q7 m_q8 l_q
    clear c_f0 c_f1 c_f2 c_f3 c_f4 m_f0 m_f1 m_f2 m_f3 m_f4 l_f
    refine name_world (fun W7 hW => ?_)
    replace xx : boxAt W7 P [.int .i64 2, .int .i64 (a : Int), .int .i64 (E : Int), .string { data := #[] }, .int .i64 (nn : Int), .int .u64 0, .int .u64 0, .int .u64 0, .int .u64 0] := by rw [hW]; exact ((xx.put 0 _ (by simp)).put 4 _ (by simp))
    replace xq : boxAt W7 w.heap.size [.int .i64 0, .int .i64 0, .int .i64 0, .string { data := #[] }, .int .i64 0, .int .u64 0, .int .u64 0, .int .u64 0, .int .u64 0] := by rw [hW]; exact ((xq.far ⟨P, 0, none⟩ _ hxq).far ⟨P, 4, none⟩ _ hxq)
    replace xf : boxAt W7 (w.heap.size + 1) [.int .i64 0, .int .i64 0, .int .i64 0, .int .i64 0, .slice none 0 0] := by rw [hW]; exact ((xf.far ⟨P, 0, none⟩ _ hxf).far ⟨P, 4, none⟩ _ hxf)
    replace hg : Gr w W7 := by rw [hW]; exact set5 (set5 (hg) hlP 0 _) hlP 4 _
    clear hW
    have c_x0 := xx.cell 0 _ rfl
    have c_x1 := xx.cell 1 _ rfl
    have c_x2 := xx.cell 2 _ rfl
    have c_x3 := xx.cell 3 _ rfl
    have c_x4 := xx.cell 4 _ rfl
    have c_x5 := xx.cell 5 _ rfl
    have c_x6 := xx.cell 6 _ rfl
    have c_x7 := xx.cell 7 _ rfl
    have c_x8 := xx.cell 8 _ rfl
    have m_x0 := xx.mark 0 _ rfl
    have m_x1 := xx.mark 1 _ rfl
    have m_x2 := xx.mark 2 _ rfl
    have m_x3 := xx.mark 3 _ rfl
    have m_x4 := xx.mark 4 _ rfl
    have m_x5 := xx.mark 5 _ rfl
    have m_x6 := xx.mark 6 _ rfl
    have m_x7 := xx.mark 7 _ rfl
    have m_x8 := xx.mark 8 _ rfl
    have l_x := xx.lt (Nat.succ_pos _)
    have c_q0 := xq.cell 0 _ rfl
    have c_q1 := xq.cell 1 _ rfl
    have c_q2 := xq.cell 2 _ rfl
    have c_q3 := xq.cell 3 _ rfl
    have c_q4 := xq.cell 4 _ rfl
    have c_q5 := xq.cell 5 _ rfl
    have c_q6 := xq.cell 6 _ rfl
    have c_q7 := xq.cell 7 _ rfl
    have c_q8 := xq.cell 8 _ rfl
    have m_q0 := xq.mark 0 _ rfl
    have m_q1 := xq.mark 1 _ rfl
    have m_q2 := xq.mark 2 _ rfl
    have m_q3 := xq.mark 3 _ rfl
    have m_q4 := xq.mark 4 _ rfl
    have m_q5 := xq.mark 5 _ rfl
    have m_q6 := xq.mark 6 _ rfl
    have m_q7 := xq.mark 7 _ rfl
    have m_q8 := xq.mark 8 _ rfl
    have l_q := xq.lt (Nat.succ_pos _)
    have c_f0 := xf.cell 0 _ rfl
    have c_f1 := xf.cell 1 _ rfl
    have c_f2 := xf.cell 2 _ rfl
    have c_f3 := xf.cell 3 _ rfl
    have c_f4 := xf.cell 4 _ rfl
    have m_f0 := xf.mark 0 _ rfl
    have m_f1 := xf.mark 1 _ rfl
    have m_f2 := xf.mark 2 _ rfl
    have m_f3 := xf.mark 3 _ rfl
    have m_f4 := xf.mark 4 _ rfl
    have l_f := xf.lt (Nat.succ_pos _)
    go_wp2_with fail
    refine name_end (fun W9 hW => ?_)
    have y9 : boxAt W9 (w.heap.size + 1) [.int .i64 0, .int .i64 0, .int .i64 0, .int .i64 0, .slice none 0 0] := by rw [hW]; exact ((boxFar9 xf hqf _ _ _ _ _ _ _ _ _).put5 _ _ _ _ _)
    have x9 : boxAt W9 (w.heap.size) [.int .i64 2, .int .i64 (a : Int), .int .i64 (E : Int), .string { data := #[] }, .int .i64 (nn : Int), .int .u64 0, .int .u64 0, .int .u64 0, .int .u64 0] := by rw [hW]; exact ((xq.puts9 rfl _ _ _ _ _ _ _ _ _).far5 hfq _ _ _ _ _)
    have hg9 : Gr w W9 := by rw [hW]; exact (Below.put5 (Gr.puts9 hg hlq _ _ _ _ _ _ _ _ _) hlf _ _ _ _ _)
    clear hW
    have c_y0 := y9.cell 0 _ rfl
    have c_y1 := y9.cell 1 _ rfl
    have c_y2 := y9.cell 2 _ rfl
    have c_y3 := y9.cell 3 _ rfl
    have c_y4 := y9.cell 4 _ rfl
    have m_y0 := y9.mark 0 _ rfl
    have m_y1 := y9.mark 1 _ rfl
    have m_y2 := y9.mark 2 _ rfl
    have m_y3 := y9.mark 3 _ rfl
    have m_y4 := y9.mark 4 _ rfl
    have l_y := y9.lt (Nat.succ_pos _)
    have c_z0 := x9.cell 0 _ rfl
    have c_z1 := x9.cell 1 _ rfl
    have c_z2 := x9.cell 2 _ rfl
    have c_z3 := x9.cell 3 _ rfl
    have c_z4 := x9.cell 4 _ rfl
    have c_z5 := x9.cell 5 _ rfl
    have c_z6 := x9.cell 6 _ rfl
    have c_z7 := x9.cell 7 _ rfl
    have c_z8 := x9.cell 8 _ rfl
    have m_z0 := x9.mark 0 _ rfl
    have m_z1 := x9.mark 1 _ rfl
    have m_z2 := x9.mark 2 _ rfl
    have m_z3 := x9.mark 3 _ rfl
    have m_z4 := x9.mark 4 _ rfl
    have m_z5 := x9.mark 5 _ rfl
    have m_z6 := x9.mark 6 _ rfl
    have m_z7 := x9.mark 7 _ rfl
    have m_z8 := x9.mark 8 _ rfl
    have l_z := x9.lt (Nat.succ_pos _)
    refine bodyPost_ret (v := .tuple #[.agg #[.int .i64 2, .int .i64 (a : Int), .int .i64 (E : Int), .string { data := #[] }, .int .i64 (nn : Int), .int .u64 0, .int .u64 0, .int .u64 0, .int .u64 0], .agg #[.int .i64 0, .int .i64 0, .int .i64 0, .int .i64 0, .slice none 0 0]]) (by simp [results, Tryz.results10, go_sem, c_y0, c_y1, c_y2, c_y3, c_y4, c_z0, c_z1, c_z2, c_z3, c_z4, c_z5, c_z6, c_z7, c_z8]) rfl ?_
    rw [← HTW.out, HNV.out]
    exact ⟨rfl, hg9⟩

end Go.Proofs.YtdjankfcmoblhaaGreatDoor

/- bolterref4: one: a part. No condition but a length's bound. Printed by gen_ref4.py. -/
namespace Go.Proofs.YtdjankfcmoblhaaGreatDoor
open Go Go.RowKit

set_option maxRecDepth 100000 in
set_option maxHeartbeats 8000000 in
theorem one4_text_ok (t : List UInt8) (a a1 : Nat) (w : World) (hT : (t.length : Int) ≤ 4294967280) (ha1 : a + 1 = a1) (hc : t[a]? = some 34) (s r : List UInt8) (hX : unquoteP t (a : Int) = .ok s r) :
    Calls Tryz.prog 10 #[.string (st t), .int .i64 (a : Int)] w fun e w' => e = .returned (.tuple #[.agg #[.int .i64 3, .int .i64 (a : Int), .int .i64 ((t.length - r.length : Nat) : Int), .string (st s), .int .i64 0, .int .u64 0, .int .u64 0, .int .u64 0, .int .u64 0], .agg #[.int .i64 0, .int .i64 0, .int .i64 0, .int .i64 0, .slice none 0 0]]) ∧ Gr w w' := by
  have hsz := st_size t
  have ha := (List.getElem?_eq_some_iff.1 hc).1
  have hix := fun w' => run_at (P := Tryz.prog) w' 9 t a 34 .i64 Tryz.underlying9 hc
  have hw1 : IntKind.i64.wrap ((a : Int) + 1) = (a1 : Int) := by rw [IntWalk.i64_in _ (by omega)]; omega
  have HA := Lib.hid (show a < t.length ∧ a + 1 = a1 from ⟨ha, ha1⟩)
  have HT := Lib.hid hT
  simp only [show ((34 : UInt8).toNat : Int) = 34 from rfl] at hix
  obtain ⟨E, hE⟩ : ∃ E, t.length - r.length = E := ⟨_, rfl⟩
  have HU : Hid (∀ w, Calls Tryz.prog 18 #[.string (st t), .int .i64 (a : Int)] w fun e w' => e = .returned (.tuple #[.string (st s), .int .i64 (E : Int), .agg #[.int .i64 0, .int .i64 0, .int .i64 0, .int .i64 0, .slice none 0 0]]) ∧ Gr w w') := fun w => by
    have := unquote3_any t (a : Int) w HT.out
    rw [hX] at this
    refine this.mono ?_
    rintro e w' ⟨hg, h⟩
    simp only [hE] at h
    exact ⟨h, hg⟩
  have HEE := Lib.hid hE
  have HLL := Lib.hid no4_let_34
  have HDL := Lib.hid no4_dig_34
  clear hX hE
  clear ha1 hT ha hc
  go_enter Tryz.func10, Tryz.ntmps10
  go_upto_region 2 with fail
  refine name_world (fun W hW => ?_)
  obtain ⟨xq, xf, xx, hg, hs⟩ : boxAt W w.heap.size [.int .i64 0, .int .i64 0, .int .i64 0, .string { data := #[] }, .int .i64 0, .int .u64 0, .int .u64 0, .int .u64 0, .int .u64 0] ∧ boxAt W (w.heap.size + 1) [.int .i64 0, .int .i64 0, .int .i64 0, .int .i64 0, .slice none 0 0] ∧ boxAt W (w.heap.size + 2) [.int .i64 0, .int .i64 (a : Int), .int .i64 (a1 : Int), .string { data := #[] }, .int .i64 0, .int .u64 0, .int .u64 0, .int .u64 0, .int .u64 0] ∧ Gr w W ∧ W.heap.size = w.heap.size + 3 := by
    subst hW
    exact boxes3 w [.int .i64 0, .int .i64 0, .int .i64 0, .string { data := #[] }, .int .i64 0, .int .u64 0, .int .u64 0, .int .u64 0, .int .u64 0] [.int .i64 0, .int .i64 0, .int .i64 0, .int .i64 0, .slice none 0 0] [.int .i64 0, .int .i64 (a : Int), .int .i64 (a1 : Int), .string { data := #[] }, .int .i64 0, .int .u64 0, .int .u64 0, .int .u64 0, .int .u64 0] 38 25 38
  clear hW hw1
  obtain ⟨P, hP⟩ : ∃ P, w.heap.size + 1 + 1 = P := ⟨_, rfl⟩
  rw [hP]
  rw [show w.heap.size + 2 = P from hP] at xx
  have hqf : w.heap.size ≠ w.heap.size + 1 := by omega
  have hfq : w.heap.size + 1 ≠ w.heap.size := by omega
  have hxq : P ≠ w.heap.size := by omega
  have hxf : P ≠ w.heap.size + 1 := by omega
  have hlq : w.heap.size ≤ w.heap.size := Nat.le_refl _
  have hlf : w.heap.size ≤ w.heap.size + 1 := by omega
  have hlP : w.heap.size ≤ P := by omega
  clear hP hs
  go_wp2_with first
    | (go_at_call 14; (with_reducible refine (HLL.out _).mono ?_); rintro e w1 ⟨rfl, rfl⟩)
    | (go_at_call 15; (with_reducible refine (HDL.out _).mono ?_); rintro e w1 ⟨rfl, rfl⟩)
  go_at_call 18
  refine (HU.out _).mono ?_; rintro e w2 ⟨rfl, hb⟩
  replace xx := xx.later hb
  replace xq := xq.later hb
  replace xf := xf.later hb
  replace hg := hg.trans hb
  clear hb hix
  have c_x0 := xx.cell 0 _ rfl
  have c_x1 := xx.cell 1 _ rfl
  have c_x2 := xx.cell 2 _ rfl
  have c_x3 := xx.cell 3 _ rfl
  have c_x4 := xx.cell 4 _ rfl
  have c_x5 := xx.cell 5 _ rfl
  have c_x6 := xx.cell 6 _ rfl
  have c_x7 := xx.cell 7 _ rfl
  have c_x8 := xx.cell 8 _ rfl
  have m_x0 := xx.mark 0 _ rfl
  have m_x1 := xx.mark 1 _ rfl
  have m_x2 := xx.mark 2 _ rfl
  have m_x3 := xx.mark 3 _ rfl
  have m_x4 := xx.mark 4 _ rfl
  have m_x5 := xx.mark 5 _ rfl
  have m_x6 := xx.mark 6 _ rfl
  have m_x7 := xx.mark 7 _ rfl
  have m_x8 := xx.mark 8 _ rfl
  have l_x := xx.lt (Nat.succ_pos _)
  have c_q0 := xq.cell 0 _ rfl
  have c_q1 := xq.cell 1 _ rfl
  have c_q2 := xq.cell 2 _ rfl
  have c_q3 := xq.cell 3 _ rfl
  have c_q4 := xq.cell 4 _ rfl
  have c_q5 := xq.cell 5 _ rfl
  have c_q6 := xq.cell 6 _ rfl
  have c_q7 := xq.cell 7 _ rfl
  have c_q8 := xq.cell 8 _ rfl
  have m_q0 := xq.mark 0 _ rfl
  have m_q1 := xq.mark 1 _ rfl
  have m_q2 := xq.mark 2 _ rfl
  have m_q3 := xq.mark 3 _ rfl
  have m_q4 := xq.mark 4 _ rfl
  have m_q5 := xq.mark 5 _ rfl
  have m_q6 := xq.mark 6 _ rfl
  have m_q7 := xq.mark 7 _ rfl
  have m_q8 := xq.mark 8 _ rfl
  have l_q := xq.lt (Nat.succ_pos _)
  have c_f0 := xf.cell 0 _ rfl
  have c_f1 := xf.cell 1 _ rfl
  have c_f2 := xf.cell 2 _ rfl
  have c_f3 := xf.cell 3 _ rfl
  have c_f4 := xf.cell 4 _ rfl
  have m_f0 := xf.mark 0 _ rfl
  have m_f1 := xf.mark 1 _ rfl
  have m_f2 := xf.mark 2 _ rfl
  have m_f3 := xf.mark 3 _ rfl
  have m_f4 := xf.mark 4 _ rfl
  have l_f := xf.lt (Nat.succ_pos _)
  go_upto_region 35 with fail
  clear c_x0 c_x1 c_x2 c_x3 c_x4 c_x5 c_x6 c_x7 c_x8 m_x0 m_x1 m_x2 m_x3 m_x4 m_x5 m_x6 m_x7 m_x8 l_x
  clear c_q0 c_q1 c_q2 c_q3 c_q4 c_q5 c_q6 c_q7 c_q8 m_q0 m_q1 m_q2 m_q3 m_q4 m_q5 m_q6 m_q7 m_q8 l_q
  clear c_f0 c_f1 c_f2 c_f3 c_f4 m_f0 m_f1 m_f2 m_f3 m_f4 l_f
  refine name_world (fun W7 hW => ?_)
  replace xx : boxAt W7 P [.int .i64 3, .int .i64 (a : Int), .int .i64 (E : Int), .string (st s), .int .i64 0, .int .u64 0, .int .u64 0, .int .u64 0, .int .u64 0] := by rw [hW]; first | exact ((((xx.put 0 _ (by simp)).put 3 _ (by simp)).put 2 _ (by simp))).later (Gr.alloc _ _) | exact (((((xx).later (Gr.alloc _ _)).put 0 _ (by simp)).put 3 _ (by simp)).put 2 _ (by simp))
  replace xq : boxAt W7 w.heap.size [.int .i64 0, .int .i64 0, .int .i64 0, .string { data := #[] }, .int .i64 0, .int .u64 0, .int .u64 0, .int .u64 0, .int .u64 0] := by rw [hW]; first | exact ((((xq.far ⟨P, 0, none⟩ _ hxq).far ⟨P, 3, none⟩ _ hxq).far ⟨P, 2, none⟩ _ hxq)).later (Gr.alloc _ _) | exact (((((xq).later (Gr.alloc _ _)).far ⟨P, 0, none⟩ _ hxq).far ⟨P, 3, none⟩ _ hxq).far ⟨P, 2, none⟩ _ hxq)
  replace xf : boxAt W7 (w.heap.size + 1) [.int .i64 0, .int .i64 0, .int .i64 0, .int .i64 0, .slice none 0 0] := by rw [hW]; first | exact ((((xf.far ⟨P, 0, none⟩ _ hxf).far ⟨P, 3, none⟩ _ hxf).far ⟨P, 2, none⟩ _ hxf)).later (Gr.alloc _ _) | exact (((((xf).later (Gr.alloc _ _)).far ⟨P, 0, none⟩ _ hxf).far ⟨P, 3, none⟩ _ hxf).far ⟨P, 2, none⟩ _ hxf)
  replace hg : Gr w W7 := by rw [hW]; first | exact Gr.trans (set5 (set5 (set5 (hg) hlP 0 _) hlP 3 _) hlP 2 _) (Gr.alloc _ _) | exact set5 (set5 (set5 (Gr.trans (hg) (Gr.alloc _ _)) hlP 0 _) hlP 3 _) hlP 2 _
  clear hW
  have c_x0 := xx.cell 0 _ rfl
  have c_x1 := xx.cell 1 _ rfl
  have c_x2 := xx.cell 2 _ rfl
  have c_x3 := xx.cell 3 _ rfl
  have c_x4 := xx.cell 4 _ rfl
  have c_x5 := xx.cell 5 _ rfl
  have c_x6 := xx.cell 6 _ rfl
  have c_x7 := xx.cell 7 _ rfl
  have c_x8 := xx.cell 8 _ rfl
  have m_x0 := xx.mark 0 _ rfl
  have m_x1 := xx.mark 1 _ rfl
  have m_x2 := xx.mark 2 _ rfl
  have m_x3 := xx.mark 3 _ rfl
  have m_x4 := xx.mark 4 _ rfl
  have m_x5 := xx.mark 5 _ rfl
  have m_x6 := xx.mark 6 _ rfl
  have m_x7 := xx.mark 7 _ rfl
  have m_x8 := xx.mark 8 _ rfl
  have l_x := xx.lt (Nat.succ_pos _)
  have c_q0 := xq.cell 0 _ rfl
  have c_q1 := xq.cell 1 _ rfl
  have c_q2 := xq.cell 2 _ rfl
  have c_q3 := xq.cell 3 _ rfl
  have c_q4 := xq.cell 4 _ rfl
  have c_q5 := xq.cell 5 _ rfl
  have c_q6 := xq.cell 6 _ rfl
  have c_q7 := xq.cell 7 _ rfl
  have c_q8 := xq.cell 8 _ rfl
  have m_q0 := xq.mark 0 _ rfl
  have m_q1 := xq.mark 1 _ rfl
  have m_q2 := xq.mark 2 _ rfl
  have m_q3 := xq.mark 3 _ rfl
  have m_q4 := xq.mark 4 _ rfl
  have m_q5 := xq.mark 5 _ rfl
  have m_q6 := xq.mark 6 _ rfl
  have m_q7 := xq.mark 7 _ rfl
  have m_q8 := xq.mark 8 _ rfl
  have l_q := xq.lt (Nat.succ_pos _)
  have c_f0 := xf.cell 0 _ rfl
  have c_f1 := xf.cell 1 _ rfl
  have c_f2 := xf.cell 2 _ rfl
  have c_f3 := xf.cell 3 _ rfl
  have c_f4 := xf.cell 4 _ rfl
  have m_f0 := xf.mark 0 _ rfl
  have m_f1 := xf.mark 1 _ rfl
  have m_f2 := xf.mark 2 _ rfl
  have m_f3 := xf.mark 3 _ rfl
  have m_f4 := xf.mark 4 _ rfl
  have l_f := xf.lt (Nat.succ_pos _)
  go_wp2_with fail
  refine name_end (fun W9 hW => ?_)
  have y9 : boxAt W9 (w.heap.size + 1) [.int .i64 0, .int .i64 0, .int .i64 0, .int .i64 0, .slice none 0 0] := by rw [hW]; exact ((boxFar9 xf hqf _ _ _ _ _ _ _ _ _).put5 _ _ _ _ _)
  have x9 : boxAt W9 (w.heap.size) [.int .i64 3, .int .i64 (a : Int), .int .i64 (E : Int), .string (st s), .int .i64 0, .int .u64 0, .int .u64 0, .int .u64 0, .int .u64 0] := by rw [hW]; exact ((xq.puts9 rfl _ _ _ _ _ _ _ _ _).far5 hfq _ _ _ _ _)
  have hg9 : Gr w W9 := by rw [hW]; exact (Below.put5 (Gr.puts9 hg hlq _ _ _ _ _ _ _ _ _) hlf _ _ _ _ _)
  clear hW
  have c_y0 := y9.cell 0 _ rfl
  have c_y1 := y9.cell 1 _ rfl
  have c_y2 := y9.cell 2 _ rfl
  have c_y3 := y9.cell 3 _ rfl
  have c_y4 := y9.cell 4 _ rfl
  have m_y0 := y9.mark 0 _ rfl
  have m_y1 := y9.mark 1 _ rfl
  have m_y2 := y9.mark 2 _ rfl
  have m_y3 := y9.mark 3 _ rfl
  have m_y4 := y9.mark 4 _ rfl
  have l_y := y9.lt (Nat.succ_pos _)
  have c_z0 := x9.cell 0 _ rfl
  have c_z1 := x9.cell 1 _ rfl
  have c_z2 := x9.cell 2 _ rfl
  have c_z3 := x9.cell 3 _ rfl
  have c_z4 := x9.cell 4 _ rfl
  have c_z5 := x9.cell 5 _ rfl
  have c_z6 := x9.cell 6 _ rfl
  have c_z7 := x9.cell 7 _ rfl
  have c_z8 := x9.cell 8 _ rfl
  have m_z0 := x9.mark 0 _ rfl
  have m_z1 := x9.mark 1 _ rfl
  have m_z2 := x9.mark 2 _ rfl
  have m_z3 := x9.mark 3 _ rfl
  have m_z4 := x9.mark 4 _ rfl
  have m_z5 := x9.mark 5 _ rfl
  have m_z6 := x9.mark 6 _ rfl
  have m_z7 := x9.mark 7 _ rfl
  have m_z8 := x9.mark 8 _ rfl
  have l_z := x9.lt (Nat.succ_pos _)
  refine bodyPost_ret (v := .tuple #[.agg #[.int .i64 3, .int .i64 (a : Int), .int .i64 (E : Int), .string (st s), .int .i64 0, .int .u64 0, .int .u64 0, .int .u64 0, .int .u64 0], .agg #[.int .i64 0, .int .i64 0, .int .i64 0, .int .i64 0, .slice none 0 0]]) (by simp [results, Tryz.results10, go_sem, c_y0, c_y1, c_y2, c_y3, c_y4, c_z0, c_z1, c_z2, c_z3, c_z4, c_z5, c_z6, c_z7, c_z8]) rfl ?_
  rw [HEE.out]
  exact ⟨rfl, hg9⟩

end Go.Proofs.YtdjankfcmoblhaaGreatDoor

/- bolterref4: one: a part. No condition but a length's bound. Printed by gen_ref4.py. -/
namespace Go.Proofs.YtdjankfcmoblhaaGreatDoor
open Go Go.RowKit

set_option maxRecDepth 100000 in
set_option maxHeartbeats 8000000 in
theorem one4_text_bad (t : List UInt8) (a a1 : Nat) (w : World) (hT : (t.length : Int) ≤ 4294967280) (ha1 : a + 1 = a1) (hc : t[a]? = some 34) (r : List UInt8) (hX : unquoteP t (a : Int) = .bad r) :
    Calls Tryz.prog 10 #[.string (st t), .int .i64 (a : Int)] w fun e w' => (∃ (f : Int) (tx : ByteArray), e = .returned (.tuple #[.agg #[.int .i64 0, .int .i64 (a : Int), .int .i64 f, .string tx, .int .i64 0, .int .u64 0, .int .u64 0, .int .u64 0, .int .u64 0], .agg #[.int .i64 3, .int .i64 0, .int .i64 0, .int .i64 ((t.length - r.length : Nat) : Int), .slice none 0 0]])) ∧ Gr w w' := by
  have hsz := st_size t
  have ha := (List.getElem?_eq_some_iff.1 hc).1
  have hix := fun w' => run_at (P := Tryz.prog) w' 9 t a 34 .i64 Tryz.underlying9 hc
  have hw1 : IntKind.i64.wrap ((a : Int) + 1) = (a1 : Int) := by rw [IntWalk.i64_in _ (by omega)]; omega
  have HA := Lib.hid (show a < t.length ∧ a + 1 = a1 from ⟨ha, ha1⟩)
  have HT := Lib.hid hT
  simp only [show ((34 : UInt8).toNat : Int) = 34 from rfl] at hix
  obtain ⟨cd, hcd⟩ : ∃ x : Nat, x = 3 := ⟨_, rfl⟩
  have hcd0 : ((cd : Int) != 0) = true := by rw [bne_iff_ne]; omega
  have hcdI : (cd : Int) = 3 := by omega
  have HCD := Lib.hid hcd
  obtain ⟨E, hE⟩ : ∃ E, t.length - r.length = E := ⟨_, rfl⟩
  have HU : Hid (∀ w, Calls Tryz.prog 18 #[.string (st t), .int .i64 (a : Int)] w fun e w' => e = .returned (.tuple #[.string { data := #[] }, .int .i64 0, .agg #[.int .i64 (cd : Int), .int .i64 0, .int .i64 0, .int .i64 (E : Int), .slice none 0 0]]) ∧ Gr w w') := fun w => by
    have := unquote3_any t (a : Int) w HT.out
    rw [hX] at this
    refine this.mono ?_
    rintro e w' ⟨hg, h⟩
    simp only [hE] at h
    rw [← hcdI] at h
    exact ⟨h, hg⟩
  have HEE := Lib.hid hE
  have HLL := Lib.hid no4_let_34
  have HDL := Lib.hid no4_dig_34
  clear hX hE hcd hcdI
  clear ha1 hT ha hc
  go_enter Tryz.func10, Tryz.ntmps10
  go_upto_region 2 with fail
  refine name_world (fun W hW => ?_)
  obtain ⟨xq, xf, xx, hg, hs⟩ : boxAt W w.heap.size [.int .i64 0, .int .i64 0, .int .i64 0, .string { data := #[] }, .int .i64 0, .int .u64 0, .int .u64 0, .int .u64 0, .int .u64 0] ∧ boxAt W (w.heap.size + 1) [.int .i64 0, .int .i64 0, .int .i64 0, .int .i64 0, .slice none 0 0] ∧ boxAt W (w.heap.size + 2) [.int .i64 0, .int .i64 (a : Int), .int .i64 (a1 : Int), .string { data := #[] }, .int .i64 0, .int .u64 0, .int .u64 0, .int .u64 0, .int .u64 0] ∧ Gr w W ∧ W.heap.size = w.heap.size + 3 := by
    subst hW
    exact boxes3 w [.int .i64 0, .int .i64 0, .int .i64 0, .string { data := #[] }, .int .i64 0, .int .u64 0, .int .u64 0, .int .u64 0, .int .u64 0] [.int .i64 0, .int .i64 0, .int .i64 0, .int .i64 0, .slice none 0 0] [.int .i64 0, .int .i64 (a : Int), .int .i64 (a1 : Int), .string { data := #[] }, .int .i64 0, .int .u64 0, .int .u64 0, .int .u64 0, .int .u64 0] 38 25 38
  clear hW hw1
  obtain ⟨P, hP⟩ : ∃ P, w.heap.size + 1 + 1 = P := ⟨_, rfl⟩
  rw [hP]
  rw [show w.heap.size + 2 = P from hP] at xx
  have hqf : w.heap.size ≠ w.heap.size + 1 := by omega
  have hfq : w.heap.size + 1 ≠ w.heap.size := by omega
  have hxq : P ≠ w.heap.size := by omega
  have hxf : P ≠ w.heap.size + 1 := by omega
  have hlq : w.heap.size ≤ w.heap.size := Nat.le_refl _
  have hlf : w.heap.size ≤ w.heap.size + 1 := by omega
  have hlP : w.heap.size ≤ P := by omega
  clear hP hs
  go_wp2_with first
    | (go_at_call 14; (with_reducible refine (HLL.out _).mono ?_); rintro e w1 ⟨rfl, rfl⟩)
    | (go_at_call 15; (with_reducible refine (HDL.out _).mono ?_); rintro e w1 ⟨rfl, rfl⟩)
  go_at_call 18
  refine (HU.out _).mono ?_; rintro e w2 ⟨rfl, hb⟩
  replace xx := xx.later hb
  replace xq := xq.later hb
  replace xf := xf.later hb
  replace hg := hg.trans hb
  clear hb hix
  have hl2 : w.heap.size + 1 < w2.heap.size := xf.lt (by simp)
  have hn1 : w2.heap.size ≠ w.heap.size := by omega
  have hn2 : w2.heap.size ≠ w.heap.size + 1 := by omega
  have hn3 : w.heap.size ≠ w2.heap.size := by omega
  have hn4 : w.heap.size + 1 ≠ w2.heap.size := by omega
  go_upto_region 21 with fail
  refine name_world (fun W3 hW => ?_)
  have xn : boxAt W3 w2.heap.size [.int .i64 (cd : Int), .int .i64 0, .int .i64 0, .int .i64 (E : Int), .slice none 0 0] := boxAt.new _ _ hW
  have hb : Gr w2 W3 := by rw [hW]; exact Gr.alloc _ _
  replace xx := xx.later hb
  replace xq := xq.later hb
  replace xf := xf.later hb
  replace hg := hg.trans hb
  clear hb hW
  have c_x0 := xx.cell 0 _ rfl
  have c_x1 := xx.cell 1 _ rfl
  have c_x2 := xx.cell 2 _ rfl
  have c_x3 := xx.cell 3 _ rfl
  have c_x4 := xx.cell 4 _ rfl
  have c_x5 := xx.cell 5 _ rfl
  have c_x6 := xx.cell 6 _ rfl
  have c_x7 := xx.cell 7 _ rfl
  have c_x8 := xx.cell 8 _ rfl
  have m_x0 := xx.mark 0 _ rfl
  have m_x1 := xx.mark 1 _ rfl
  have m_x2 := xx.mark 2 _ rfl
  have m_x3 := xx.mark 3 _ rfl
  have m_x4 := xx.mark 4 _ rfl
  have m_x5 := xx.mark 5 _ rfl
  have m_x6 := xx.mark 6 _ rfl
  have m_x7 := xx.mark 7 _ rfl
  have m_x8 := xx.mark 8 _ rfl
  have l_x := xx.lt (Nat.succ_pos _)
  have c_q0 := xq.cell 0 _ rfl
  have c_q1 := xq.cell 1 _ rfl
  have c_q2 := xq.cell 2 _ rfl
  have c_q3 := xq.cell 3 _ rfl
  have c_q4 := xq.cell 4 _ rfl
  have c_q5 := xq.cell 5 _ rfl
  have c_q6 := xq.cell 6 _ rfl
  have c_q7 := xq.cell 7 _ rfl
  have c_q8 := xq.cell 8 _ rfl
  have m_q0 := xq.mark 0 _ rfl
  have m_q1 := xq.mark 1 _ rfl
  have m_q2 := xq.mark 2 _ rfl
  have m_q3 := xq.mark 3 _ rfl
  have m_q4 := xq.mark 4 _ rfl
  have m_q5 := xq.mark 5 _ rfl
  have m_q6 := xq.mark 6 _ rfl
  have m_q7 := xq.mark 7 _ rfl
  have m_q8 := xq.mark 8 _ rfl
  have l_q := xq.lt (Nat.succ_pos _)
  have c_f0 := xf.cell 0 _ rfl
  have c_f1 := xf.cell 1 _ rfl
  have c_f2 := xf.cell 2 _ rfl
  have c_f3 := xf.cell 3 _ rfl
  have c_f4 := xf.cell 4 _ rfl
  have m_f0 := xf.mark 0 _ rfl
  have m_f1 := xf.mark 1 _ rfl
  have m_f2 := xf.mark 2 _ rfl
  have m_f3 := xf.mark 3 _ rfl
  have m_f4 := xf.mark 4 _ rfl
  have l_f := xf.lt (Nat.succ_pos _)
  have c_n0 := xn.cell 0 _ rfl
  have c_n1 := xn.cell 1 _ rfl
  have c_n2 := xn.cell 2 _ rfl
  have c_n3 := xn.cell 3 _ rfl
  have c_n4 := xn.cell 4 _ rfl
  have m_n0 := xn.mark 0 _ rfl
  have m_n1 := xn.mark 1 _ rfl
  have m_n2 := xn.mark 2 _ rfl
  have m_n3 := xn.mark 3 _ rfl
  have m_n4 := xn.mark 4 _ rfl
  have l_n := xn.lt (Nat.succ_pos _)
  go_region_with fail
  all_goals
    go_wp2
    refine name_end (fun W9 hW => ?_)
    have y9 : boxAt W9 (w.heap.size + 1) [.int .i64 (cd : Int), .int .i64 0, .int .i64 0, .int .i64 (E : Int), .slice none 0 0] := by rw [hW]; exact boxAt.later ((boxFar9 xf hqf _ _ _ _ _ _ _ _ _).put5 _ _ _ _ _) (Gr.drew _)
    have x9 : boxAt W9 (w.heap.size) [.int .i64 0, .int .i64 (a : Int), .int .i64 (a1 : Int), .string { data := #[] }, .int .i64 0, .int .u64 0, .int .u64 0, .int .u64 0, .int .u64 0] := by rw [hW]; exact boxAt.later ((xq.puts9 rfl _ _ _ _ _ _ _ _ _).far5 hfq _ _ _ _ _) (Gr.drew _)
    have hg9 : Gr w W9 := by rw [hW]; exact Gr.trans (Below.put5 (Gr.puts9 hg hlq _ _ _ _ _ _ _ _ _) hlf _ _ _ _ _) (Gr.drew _)
    clear hW
    have c_y0 := y9.cell 0 _ rfl
    have c_y1 := y9.cell 1 _ rfl
    have c_y2 := y9.cell 2 _ rfl
    have c_y3 := y9.cell 3 _ rfl
    have c_y4 := y9.cell 4 _ rfl
    have m_y0 := y9.mark 0 _ rfl
    have m_y1 := y9.mark 1 _ rfl
    have m_y2 := y9.mark 2 _ rfl
    have m_y3 := y9.mark 3 _ rfl
    have m_y4 := y9.mark 4 _ rfl
    have l_y := y9.lt (Nat.succ_pos _)
    have c_z0 := x9.cell 0 _ rfl
    have c_z1 := x9.cell 1 _ rfl
    have c_z2 := x9.cell 2 _ rfl
    have c_z3 := x9.cell 3 _ rfl
    have c_z4 := x9.cell 4 _ rfl
    have c_z5 := x9.cell 5 _ rfl
    have c_z6 := x9.cell 6 _ rfl
    have c_z7 := x9.cell 7 _ rfl
    have c_z8 := x9.cell 8 _ rfl
    have m_z0 := x9.mark 0 _ rfl
    have m_z1 := x9.mark 1 _ rfl
    have m_z2 := x9.mark 2 _ rfl
    have m_z3 := x9.mark 3 _ rfl
    have m_z4 := x9.mark 4 _ rfl
    have m_z5 := x9.mark 5 _ rfl
    have m_z6 := x9.mark 6 _ rfl
    have m_z7 := x9.mark 7 _ rfl
    have m_z8 := x9.mark 8 _ rfl
    have l_z := x9.lt (Nat.succ_pos _)
    refine bodyPost_ret (v := .tuple #[.agg #[.int .i64 0, .int .i64 (a : Int), .int .i64 (a1 : Int), .string { data := #[] }, .int .i64 0, .int .u64 0, .int .u64 0, .int .u64 0, .int .u64 0], .agg #[.int .i64 (cd : Int), .int .i64 0, .int .i64 0, .int .i64 (E : Int), .slice none 0 0]]) (by simp [results, Tryz.results10, go_sem, c_y0, c_y1, c_y2, c_y3, c_y4, c_z0, c_z1, c_z2, c_z3, c_z4, c_z5, c_z6, c_z7, c_z8]) rfl ?_
    rw [HEE.out]
    obtain rfl := HCD.out
    exact ⟨⟨_, _, rfl⟩, hg9⟩

end Go.Proofs.YtdjankfcmoblhaaGreatDoor

/- bolterref4: one: a part. No condition but a length's bound. Printed by gen_ref4.py. -/
namespace Go.Proofs.YtdjankfcmoblhaaGreatDoor
open Go Go.RowKit

set_option maxRecDepth 100000 in
set_option maxHeartbeats 8000000 in
theorem one4_set_ok (t : List UInt8) (a a1 : Nat) (w : World) (hT : (t.length : Int) ≤ 4294967280) (ha1 : a + 1 = a1) (hc : t[a]? = some 91) (s : BitVec 256) (r : List UInt8) (hX : parseP t (a : Int) = .ok s r) :
    Calls Tryz.prog 10 #[.string (st t), .int .i64 (a : Int)] w fun e w' => e = .returned (.tuple #[.agg #[.int .i64 4, .int .i64 (a : Int), .int .i64 ((t.length - r.length : Nat) : Int), .string { data := #[] }, .int .i64 0, .int .u64 (wd s 0), .int .u64 (wd s 1), .int .u64 (wd s 2), .int .u64 (wd s 3)], .agg #[.int .i64 0, .int .i64 0, .int .i64 0, .int .i64 0, .slice none 0 0]]) ∧ Gr w w' := by
  have hsz := st_size t
  have ha := (List.getElem?_eq_some_iff.1 hc).1
  have hix := fun w' => run_at (P := Tryz.prog) w' 9 t a 91 .i64 Tryz.underlying9 hc
  have hw1 : IntKind.i64.wrap ((a : Int) + 1) = (a1 : Int) := by rw [IntWalk.i64_in _ (by omega)]; omega
  have HA := Lib.hid (show a < t.length ∧ a + 1 = a1 from ⟨ha, ha1⟩)
  have HT := Lib.hid hT
  simp only [show ((91 : UInt8).toNat : Int) = 91 from rfl] at hix
  obtain ⟨E, hE⟩ : ∃ E, t.length - r.length = E := ⟨_, rfl⟩
  have HU : Hid (∀ w, Calls Tryz.prog 19 #[.string (st t), .int .i64 (a : Int)] w fun e w' => e = .returned (.tuple #[.agg #[.int .u64 (wd s 0), .int .u64 (wd s 1), .int .u64 (wd s 2), .int .u64 (wd s 3)], .int .i64 (E : Int), .agg #[.int .i64 0, .int .i64 0, .int .i64 0, .int .i64 0, .slice none 0 0]]) ∧ Gr w w') := fun w => by
    have := parse3_any t (a : Int) w HT.out
    rw [hX] at this
    refine this.mono ?_
    rintro e w' ⟨hg, h⟩
    simp only [hE] at h
    exact ⟨h, hg⟩
  have HEE := Lib.hid hE
  have HLL := Lib.hid no4_let_91
  have HDL := Lib.hid no4_dig_91
  clear hX hE
  clear ha1 hT ha hc
  go_enter Tryz.func10, Tryz.ntmps10
  go_upto_region 2 with fail
  refine name_world (fun W hW => ?_)
  obtain ⟨xq, xf, xx, hg, hs⟩ : boxAt W w.heap.size [.int .i64 0, .int .i64 0, .int .i64 0, .string { data := #[] }, .int .i64 0, .int .u64 0, .int .u64 0, .int .u64 0, .int .u64 0] ∧ boxAt W (w.heap.size + 1) [.int .i64 0, .int .i64 0, .int .i64 0, .int .i64 0, .slice none 0 0] ∧ boxAt W (w.heap.size + 2) [.int .i64 0, .int .i64 (a : Int), .int .i64 (a1 : Int), .string { data := #[] }, .int .i64 0, .int .u64 0, .int .u64 0, .int .u64 0, .int .u64 0] ∧ Gr w W ∧ W.heap.size = w.heap.size + 3 := by
    subst hW
    exact boxes3 w [.int .i64 0, .int .i64 0, .int .i64 0, .string { data := #[] }, .int .i64 0, .int .u64 0, .int .u64 0, .int .u64 0, .int .u64 0] [.int .i64 0, .int .i64 0, .int .i64 0, .int .i64 0, .slice none 0 0] [.int .i64 0, .int .i64 (a : Int), .int .i64 (a1 : Int), .string { data := #[] }, .int .i64 0, .int .u64 0, .int .u64 0, .int .u64 0, .int .u64 0] 38 25 38
  clear hW hw1
  obtain ⟨P, hP⟩ : ∃ P, w.heap.size + 1 + 1 = P := ⟨_, rfl⟩
  rw [hP]
  rw [show w.heap.size + 2 = P from hP] at xx
  have hqf : w.heap.size ≠ w.heap.size + 1 := by omega
  have hfq : w.heap.size + 1 ≠ w.heap.size := by omega
  have hxq : P ≠ w.heap.size := by omega
  have hxf : P ≠ w.heap.size + 1 := by omega
  have hlq : w.heap.size ≤ w.heap.size := Nat.le_refl _
  have hlf : w.heap.size ≤ w.heap.size + 1 := by omega
  have hlP : w.heap.size ≤ P := by omega
  clear hP hs
  go_wp2_with first
    | (go_at_call 14; (with_reducible refine (HLL.out _).mono ?_); rintro e w1 ⟨rfl, rfl⟩)
    | (go_at_call 15; (with_reducible refine (HDL.out _).mono ?_); rintro e w1 ⟨rfl, rfl⟩)
  go_at_call 19
  refine (HU.out _).mono ?_; rintro e w2 ⟨rfl, hb⟩
  replace xx := xx.later hb
  replace xq := xq.later hb
  replace xf := xf.later hb
  replace hg := hg.trans hb
  clear hb hix
  have c_x0 := xx.cell 0 _ rfl
  have c_x1 := xx.cell 1 _ rfl
  have c_x2 := xx.cell 2 _ rfl
  have c_x3 := xx.cell 3 _ rfl
  have c_x4 := xx.cell 4 _ rfl
  have c_x5 := xx.cell 5 _ rfl
  have c_x6 := xx.cell 6 _ rfl
  have c_x7 := xx.cell 7 _ rfl
  have c_x8 := xx.cell 8 _ rfl
  have m_x0 := xx.mark 0 _ rfl
  have m_x1 := xx.mark 1 _ rfl
  have m_x2 := xx.mark 2 _ rfl
  have m_x3 := xx.mark 3 _ rfl
  have m_x4 := xx.mark 4 _ rfl
  have m_x5 := xx.mark 5 _ rfl
  have m_x6 := xx.mark 6 _ rfl
  have m_x7 := xx.mark 7 _ rfl
  have m_x8 := xx.mark 8 _ rfl
  have l_x := xx.lt (Nat.succ_pos _)
  have c_q0 := xq.cell 0 _ rfl
  have c_q1 := xq.cell 1 _ rfl
  have c_q2 := xq.cell 2 _ rfl
  have c_q3 := xq.cell 3 _ rfl
  have c_q4 := xq.cell 4 _ rfl
  have c_q5 := xq.cell 5 _ rfl
  have c_q6 := xq.cell 6 _ rfl
  have c_q7 := xq.cell 7 _ rfl
  have c_q8 := xq.cell 8 _ rfl
  have m_q0 := xq.mark 0 _ rfl
  have m_q1 := xq.mark 1 _ rfl
  have m_q2 := xq.mark 2 _ rfl
  have m_q3 := xq.mark 3 _ rfl
  have m_q4 := xq.mark 4 _ rfl
  have m_q5 := xq.mark 5 _ rfl
  have m_q6 := xq.mark 6 _ rfl
  have m_q7 := xq.mark 7 _ rfl
  have m_q8 := xq.mark 8 _ rfl
  have l_q := xq.lt (Nat.succ_pos _)
  have c_f0 := xf.cell 0 _ rfl
  have c_f1 := xf.cell 1 _ rfl
  have c_f2 := xf.cell 2 _ rfl
  have c_f3 := xf.cell 3 _ rfl
  have c_f4 := xf.cell 4 _ rfl
  have m_f0 := xf.mark 0 _ rfl
  have m_f1 := xf.mark 1 _ rfl
  have m_f2 := xf.mark 2 _ rfl
  have m_f3 := xf.mark 3 _ rfl
  have m_f4 := xf.mark 4 _ rfl
  have l_f := xf.lt (Nat.succ_pos _)
  go_upto_region 35 with fail
  clear c_x0 c_x1 c_x2 c_x3 c_x4 c_x5 c_x6 c_x7 c_x8 m_x0 m_x1 m_x2 m_x3 m_x4 m_x5 m_x6 m_x7 m_x8 l_x
  clear c_q0 c_q1 c_q2 c_q3 c_q4 c_q5 c_q6 c_q7 c_q8 m_q0 m_q1 m_q2 m_q3 m_q4 m_q5 m_q6 m_q7 m_q8 l_q
  clear c_f0 c_f1 c_f2 c_f3 c_f4 m_f0 m_f1 m_f2 m_f3 m_f4 l_f
  refine name_world (fun W7 hW => ?_)
  replace xx : boxAt W7 P [.int .i64 4, .int .i64 (a : Int), .int .i64 (E : Int), .string { data := #[] }, .int .i64 0, .int .u64 (wd s 0), .int .u64 (wd s 1), .int .u64 (wd s 2), .int .u64 (wd s 3)] := by rw [hW]; first | exact ((((((((xx.put 0 _ (by simp)).put 5 _ (by simp)).put 6 _ (by simp)).put 7 _ (by simp)).put 8 _ (by simp)).put 2 _ (by simp))).later (Gr.alloc _ _)).later (Gr.alloc _ _) | exact (((((((((xx).later (Gr.alloc _ _)).later (Gr.alloc _ _)).put 0 _ (by simp)).put 5 _ (by simp)).put 6 _ (by simp)).put 7 _ (by simp)).put 8 _ (by simp)).put 2 _ (by simp))
  replace xq : boxAt W7 w.heap.size [.int .i64 0, .int .i64 0, .int .i64 0, .string { data := #[] }, .int .i64 0, .int .u64 0, .int .u64 0, .int .u64 0, .int .u64 0] := by rw [hW]; first | exact ((((((((xq.far ⟨P, 0, none⟩ _ hxq).far ⟨P, 5, none⟩ _ hxq).far ⟨P, 6, none⟩ _ hxq).far ⟨P, 7, none⟩ _ hxq).far ⟨P, 8, none⟩ _ hxq).far ⟨P, 2, none⟩ _ hxq)).later (Gr.alloc _ _)).later (Gr.alloc _ _) | exact (((((((((xq).later (Gr.alloc _ _)).later (Gr.alloc _ _)).far ⟨P, 0, none⟩ _ hxq).far ⟨P, 5, none⟩ _ hxq).far ⟨P, 6, none⟩ _ hxq).far ⟨P, 7, none⟩ _ hxq).far ⟨P, 8, none⟩ _ hxq).far ⟨P, 2, none⟩ _ hxq)
  replace xf : boxAt W7 (w.heap.size + 1) [.int .i64 0, .int .i64 0, .int .i64 0, .int .i64 0, .slice none 0 0] := by rw [hW]; first | exact ((((((((xf.far ⟨P, 0, none⟩ _ hxf).far ⟨P, 5, none⟩ _ hxf).far ⟨P, 6, none⟩ _ hxf).far ⟨P, 7, none⟩ _ hxf).far ⟨P, 8, none⟩ _ hxf).far ⟨P, 2, none⟩ _ hxf)).later (Gr.alloc _ _)).later (Gr.alloc _ _) | exact (((((((((xf).later (Gr.alloc _ _)).later (Gr.alloc _ _)).far ⟨P, 0, none⟩ _ hxf).far ⟨P, 5, none⟩ _ hxf).far ⟨P, 6, none⟩ _ hxf).far ⟨P, 7, none⟩ _ hxf).far ⟨P, 8, none⟩ _ hxf).far ⟨P, 2, none⟩ _ hxf)
  replace hg : Gr w W7 := by rw [hW]; first | exact Gr.trans (Gr.trans (set5 (set5 (set5 (set5 (set5 (set5 (hg) hlP 0 _) hlP 5 _) hlP 6 _) hlP 7 _) hlP 8 _) hlP 2 _) (Gr.alloc _ _)) (Gr.alloc _ _) | exact set5 (set5 (set5 (set5 (set5 (set5 (Gr.trans (Gr.trans (hg) (Gr.alloc _ _)) (Gr.alloc _ _)) hlP 0 _) hlP 5 _) hlP 6 _) hlP 7 _) hlP 8 _) hlP 2 _
  clear hW
  have c_x0 := xx.cell 0 _ rfl
  have c_x1 := xx.cell 1 _ rfl
  have c_x2 := xx.cell 2 _ rfl
  have c_x3 := xx.cell 3 _ rfl
  have c_x4 := xx.cell 4 _ rfl
  have c_x5 := xx.cell 5 _ rfl
  have c_x6 := xx.cell 6 _ rfl
  have c_x7 := xx.cell 7 _ rfl
  have c_x8 := xx.cell 8 _ rfl
  have m_x0 := xx.mark 0 _ rfl
  have m_x1 := xx.mark 1 _ rfl
  have m_x2 := xx.mark 2 _ rfl
  have m_x3 := xx.mark 3 _ rfl
  have m_x4 := xx.mark 4 _ rfl
  have m_x5 := xx.mark 5 _ rfl
  have m_x6 := xx.mark 6 _ rfl
  have m_x7 := xx.mark 7 _ rfl
  have m_x8 := xx.mark 8 _ rfl
  have l_x := xx.lt (Nat.succ_pos _)
  have c_q0 := xq.cell 0 _ rfl
  have c_q1 := xq.cell 1 _ rfl
  have c_q2 := xq.cell 2 _ rfl
  have c_q3 := xq.cell 3 _ rfl
  have c_q4 := xq.cell 4 _ rfl
  have c_q5 := xq.cell 5 _ rfl
  have c_q6 := xq.cell 6 _ rfl
  have c_q7 := xq.cell 7 _ rfl
  have c_q8 := xq.cell 8 _ rfl
  have m_q0 := xq.mark 0 _ rfl
  have m_q1 := xq.mark 1 _ rfl
  have m_q2 := xq.mark 2 _ rfl
  have m_q3 := xq.mark 3 _ rfl
  have m_q4 := xq.mark 4 _ rfl
  have m_q5 := xq.mark 5 _ rfl
  have m_q6 := xq.mark 6 _ rfl
  have m_q7 := xq.mark 7 _ rfl
  have m_q8 := xq.mark 8 _ rfl
  have l_q := xq.lt (Nat.succ_pos _)
  have c_f0 := xf.cell 0 _ rfl
  have c_f1 := xf.cell 1 _ rfl
  have c_f2 := xf.cell 2 _ rfl
  have c_f3 := xf.cell 3 _ rfl
  have c_f4 := xf.cell 4 _ rfl
  have m_f0 := xf.mark 0 _ rfl
  have m_f1 := xf.mark 1 _ rfl
  have m_f2 := xf.mark 2 _ rfl
  have m_f3 := xf.mark 3 _ rfl
  have m_f4 := xf.mark 4 _ rfl
  have l_f := xf.lt (Nat.succ_pos _)
  go_wp2_with fail
  refine name_end (fun W9 hW => ?_)
  have y9 : boxAt W9 (w.heap.size + 1) [.int .i64 0, .int .i64 0, .int .i64 0, .int .i64 0, .slice none 0 0] := by rw [hW]; exact ((boxFar9 xf hqf _ _ _ _ _ _ _ _ _).put5 _ _ _ _ _)
  have x9 : boxAt W9 (w.heap.size) [.int .i64 4, .int .i64 (a : Int), .int .i64 (E : Int), .string { data := #[] }, .int .i64 0, .int .u64 (wd s 0), .int .u64 (wd s 1), .int .u64 (wd s 2), .int .u64 (wd s 3)] := by rw [hW]; exact ((xq.puts9 rfl _ _ _ _ _ _ _ _ _).far5 hfq _ _ _ _ _)
  have hg9 : Gr w W9 := by rw [hW]; exact (Below.put5 (Gr.puts9 hg hlq _ _ _ _ _ _ _ _ _) hlf _ _ _ _ _)
  clear hW
  have c_y0 := y9.cell 0 _ rfl
  have c_y1 := y9.cell 1 _ rfl
  have c_y2 := y9.cell 2 _ rfl
  have c_y3 := y9.cell 3 _ rfl
  have c_y4 := y9.cell 4 _ rfl
  have m_y0 := y9.mark 0 _ rfl
  have m_y1 := y9.mark 1 _ rfl
  have m_y2 := y9.mark 2 _ rfl
  have m_y3 := y9.mark 3 _ rfl
  have m_y4 := y9.mark 4 _ rfl
  have l_y := y9.lt (Nat.succ_pos _)
  have c_z0 := x9.cell 0 _ rfl
  have c_z1 := x9.cell 1 _ rfl
  have c_z2 := x9.cell 2 _ rfl
  have c_z3 := x9.cell 3 _ rfl
  have c_z4 := x9.cell 4 _ rfl
  have c_z5 := x9.cell 5 _ rfl
  have c_z6 := x9.cell 6 _ rfl
  have c_z7 := x9.cell 7 _ rfl
  have c_z8 := x9.cell 8 _ rfl
  have m_z0 := x9.mark 0 _ rfl
  have m_z1 := x9.mark 1 _ rfl
  have m_z2 := x9.mark 2 _ rfl
  have m_z3 := x9.mark 3 _ rfl
  have m_z4 := x9.mark 4 _ rfl
  have m_z5 := x9.mark 5 _ rfl
  have m_z6 := x9.mark 6 _ rfl
  have m_z7 := x9.mark 7 _ rfl
  have m_z8 := x9.mark 8 _ rfl
  have l_z := x9.lt (Nat.succ_pos _)
  refine bodyPost_ret (v := .tuple #[.agg #[.int .i64 4, .int .i64 (a : Int), .int .i64 (E : Int), .string { data := #[] }, .int .i64 0, .int .u64 (wd s 0), .int .u64 (wd s 1), .int .u64 (wd s 2), .int .u64 (wd s 3)], .agg #[.int .i64 0, .int .i64 0, .int .i64 0, .int .i64 0, .slice none 0 0]]) (by simp [results, Tryz.results10, go_sem, c_y0, c_y1, c_y2, c_y3, c_y4, c_z0, c_z1, c_z2, c_z3, c_z4, c_z5, c_z6, c_z7, c_z8]) rfl ?_
  rw [HEE.out]
  exact ⟨rfl, hg9⟩

end Go.Proofs.YtdjankfcmoblhaaGreatDoor

/- bolterref4: one: a part. No condition but a length's bound. Printed by gen_ref4.py. -/
namespace Go.Proofs.YtdjankfcmoblhaaGreatDoor
open Go Go.RowKit

set_option maxRecDepth 100000 in
set_option maxHeartbeats 8000000 in
theorem one4_set_bad (t : List UInt8) (a a1 : Nat) (w : World) (hT : (t.length : Int) ≤ 4294967280) (ha1 : a + 1 = a1) (hc : t[a]? = some 91) (d : Bool) (r : List UInt8) (hX : parseP t (a : Int) = .bad d r) :
    Calls Tryz.prog 10 #[.string (st t), .int .i64 (a : Int)] w fun e w' => (∃ (f : Int) (tx : ByteArray), e = .returned (.tuple #[.agg #[.int .i64 0, .int .i64 (a : Int), .int .i64 f, .string tx, .int .i64 0, .int .u64 0, .int .u64 0, .int .u64 0, .int .u64 0], .agg #[.int .i64 (codeB d : Int), .int .i64 0, .int .i64 0, .int .i64 ((t.length - r.length : Nat) : Int), .slice none 0 0]])) ∧ Gr w w' := by
  have hsz := st_size t
  have ha := (List.getElem?_eq_some_iff.1 hc).1
  have hix := fun w' => run_at (P := Tryz.prog) w' 9 t a 91 .i64 Tryz.underlying9 hc
  have hw1 : IntKind.i64.wrap ((a : Int) + 1) = (a1 : Int) := by rw [IntWalk.i64_in _ (by omega)]; omega
  have HA := Lib.hid (show a < t.length ∧ a + 1 = a1 from ⟨ha, ha1⟩)
  have HT := Lib.hid hT
  simp only [show ((91 : UInt8).toNat : Int) = 91 from rfl] at hix
  obtain ⟨cd, hcd⟩ : ∃ x, codeB d = x := ⟨_, rfl⟩
  have hcd0 : ((cd : Int) != 0) = true := by rw [bne_iff_ne]; have := (codeB_is d).1; omega
  have HCD := Lib.hid hcd
  obtain ⟨E, hE⟩ : ∃ E, t.length - r.length = E := ⟨_, rfl⟩
  have HU : Hid (∀ w, Calls Tryz.prog 19 #[.string (st t), .int .i64 (a : Int)] w fun e w' => e = .returned (.tuple #[.agg #[.int .u64 0, .int .u64 0, .int .u64 0, .int .u64 0], .int .i64 0, .agg #[.int .i64 (cd : Int), .int .i64 0, .int .i64 0, .int .i64 (E : Int), .slice none 0 0]]) ∧ Gr w w') := fun w => by
    have := parse3_any t (a : Int) w HT.out
    rw [hX] at this
    refine this.mono ?_
    rintro e w' ⟨hg, h⟩
    simp only [wd_zero, hE, hcd] at h
    exact ⟨h, hg⟩
  have HEE := Lib.hid hE
  have HLL := Lib.hid no4_let_91
  have HDL := Lib.hid no4_dig_91
  clear hX hE hcd
  clear ha1 hT ha hc
  go_enter Tryz.func10, Tryz.ntmps10
  go_upto_region 2 with fail
  refine name_world (fun W hW => ?_)
  obtain ⟨xq, xf, xx, hg, hs⟩ : boxAt W w.heap.size [.int .i64 0, .int .i64 0, .int .i64 0, .string { data := #[] }, .int .i64 0, .int .u64 0, .int .u64 0, .int .u64 0, .int .u64 0] ∧ boxAt W (w.heap.size + 1) [.int .i64 0, .int .i64 0, .int .i64 0, .int .i64 0, .slice none 0 0] ∧ boxAt W (w.heap.size + 2) [.int .i64 0, .int .i64 (a : Int), .int .i64 (a1 : Int), .string { data := #[] }, .int .i64 0, .int .u64 0, .int .u64 0, .int .u64 0, .int .u64 0] ∧ Gr w W ∧ W.heap.size = w.heap.size + 3 := by
    subst hW
    exact boxes3 w [.int .i64 0, .int .i64 0, .int .i64 0, .string { data := #[] }, .int .i64 0, .int .u64 0, .int .u64 0, .int .u64 0, .int .u64 0] [.int .i64 0, .int .i64 0, .int .i64 0, .int .i64 0, .slice none 0 0] [.int .i64 0, .int .i64 (a : Int), .int .i64 (a1 : Int), .string { data := #[] }, .int .i64 0, .int .u64 0, .int .u64 0, .int .u64 0, .int .u64 0] 38 25 38
  clear hW hw1
  obtain ⟨P, hP⟩ : ∃ P, w.heap.size + 1 + 1 = P := ⟨_, rfl⟩
  rw [hP]
  rw [show w.heap.size + 2 = P from hP] at xx
  have hqf : w.heap.size ≠ w.heap.size + 1 := by omega
  have hfq : w.heap.size + 1 ≠ w.heap.size := by omega
  have hxq : P ≠ w.heap.size := by omega
  have hxf : P ≠ w.heap.size + 1 := by omega
  have hlq : w.heap.size ≤ w.heap.size := Nat.le_refl _
  have hlf : w.heap.size ≤ w.heap.size + 1 := by omega
  have hlP : w.heap.size ≤ P := by omega
  clear hP hs
  go_wp2_with first
    | (go_at_call 14; (with_reducible refine (HLL.out _).mono ?_); rintro e w1 ⟨rfl, rfl⟩)
    | (go_at_call 15; (with_reducible refine (HDL.out _).mono ?_); rintro e w1 ⟨rfl, rfl⟩)
  go_at_call 19
  refine (HU.out _).mono ?_; rintro e w2 ⟨rfl, hb⟩
  replace xx := xx.later hb
  replace xq := xq.later hb
  replace xf := xf.later hb
  replace hg := hg.trans hb
  clear hb hix
  go_upto_region 28 with fail
  refine name_world (fun W3 hW => ?_)
  obtain ⟨_, xn, hb, _⟩ : boxAt W3 w2.heap.size [.int .u64 0, .int .u64 0, .int .u64 0, .int .u64 0] ∧ boxAt W3 (w2.heap.size + 1) [.int .i64 (cd : Int), .int .i64 0, .int .i64 0, .int .i64 (E : Int), .slice none 0 0] ∧ Gr w2 W3 ∧ W3.heap.size = w2.heap.size + 2 := by subst hW; exact boxes2 _ _ _ _ _
  replace xx := xx.later hb
  replace xq := xq.later hb
  replace xf := xf.later hb
  replace hg := hg.trans hb
  clear hb hW
  have c_x0 := xx.cell 0 _ rfl
  have c_x1 := xx.cell 1 _ rfl
  have c_x2 := xx.cell 2 _ rfl
  have c_x3 := xx.cell 3 _ rfl
  have c_x4 := xx.cell 4 _ rfl
  have c_x5 := xx.cell 5 _ rfl
  have c_x6 := xx.cell 6 _ rfl
  have c_x7 := xx.cell 7 _ rfl
  have c_x8 := xx.cell 8 _ rfl
  have m_x0 := xx.mark 0 _ rfl
  have m_x1 := xx.mark 1 _ rfl
  have m_x2 := xx.mark 2 _ rfl
  have m_x3 := xx.mark 3 _ rfl
  have m_x4 := xx.mark 4 _ rfl
  have m_x5 := xx.mark 5 _ rfl
  have m_x6 := xx.mark 6 _ rfl
  have m_x7 := xx.mark 7 _ rfl
  have m_x8 := xx.mark 8 _ rfl
  have l_x := xx.lt (Nat.succ_pos _)
  have c_q0 := xq.cell 0 _ rfl
  have c_q1 := xq.cell 1 _ rfl
  have c_q2 := xq.cell 2 _ rfl
  have c_q3 := xq.cell 3 _ rfl
  have c_q4 := xq.cell 4 _ rfl
  have c_q5 := xq.cell 5 _ rfl
  have c_q6 := xq.cell 6 _ rfl
  have c_q7 := xq.cell 7 _ rfl
  have c_q8 := xq.cell 8 _ rfl
  have m_q0 := xq.mark 0 _ rfl
  have m_q1 := xq.mark 1 _ rfl
  have m_q2 := xq.mark 2 _ rfl
  have m_q3 := xq.mark 3 _ rfl
  have m_q4 := xq.mark 4 _ rfl
  have m_q5 := xq.mark 5 _ rfl
  have m_q6 := xq.mark 6 _ rfl
  have m_q7 := xq.mark 7 _ rfl
  have m_q8 := xq.mark 8 _ rfl
  have l_q := xq.lt (Nat.succ_pos _)
  have c_f0 := xf.cell 0 _ rfl
  have c_f1 := xf.cell 1 _ rfl
  have c_f2 := xf.cell 2 _ rfl
  have c_f3 := xf.cell 3 _ rfl
  have c_f4 := xf.cell 4 _ rfl
  have m_f0 := xf.mark 0 _ rfl
  have m_f1 := xf.mark 1 _ rfl
  have m_f2 := xf.mark 2 _ rfl
  have m_f3 := xf.mark 3 _ rfl
  have m_f4 := xf.mark 4 _ rfl
  have l_f := xf.lt (Nat.succ_pos _)
  have c_n0 := xn.cell 0 _ rfl
  have c_n1 := xn.cell 1 _ rfl
  have c_n2 := xn.cell 2 _ rfl
  have c_n3 := xn.cell 3 _ rfl
  have c_n4 := xn.cell 4 _ rfl
  have m_n0 := xn.mark 0 _ rfl
  have m_n1 := xn.mark 1 _ rfl
  have m_n2 := xn.mark 2 _ rfl
  have m_n3 := xn.mark 3 _ rfl
  have m_n4 := xn.mark 4 _ rfl
  have l_n := xn.lt (Nat.succ_pos _)
  go_region_with fail
  all_goals
    go_wp2
    refine name_end (fun W9 hW => ?_)
    have y9 : boxAt W9 (w.heap.size + 1) [.int .i64 (cd : Int), .int .i64 0, .int .i64 0, .int .i64 (E : Int), .slice none 0 0] := by rw [hW]; exact boxAt.later ((boxFar9 xf hqf _ _ _ _ _ _ _ _ _).put5 _ _ _ _ _) (Gr.drew _)
    have x9 : boxAt W9 (w.heap.size) [.int .i64 0, .int .i64 (a : Int), .int .i64 (a1 : Int), .string { data := #[] }, .int .i64 0, .int .u64 0, .int .u64 0, .int .u64 0, .int .u64 0] := by rw [hW]; exact boxAt.later ((xq.puts9 rfl _ _ _ _ _ _ _ _ _).far5 hfq _ _ _ _ _) (Gr.drew _)
    have hg9 : Gr w W9 := by rw [hW]; exact Gr.trans (Below.put5 (Gr.puts9 hg hlq _ _ _ _ _ _ _ _ _) hlf _ _ _ _ _) (Gr.drew _)
    clear hW
    have c_y0 := y9.cell 0 _ rfl
    have c_y1 := y9.cell 1 _ rfl
    have c_y2 := y9.cell 2 _ rfl
    have c_y3 := y9.cell 3 _ rfl
    have c_y4 := y9.cell 4 _ rfl
    have m_y0 := y9.mark 0 _ rfl
    have m_y1 := y9.mark 1 _ rfl
    have m_y2 := y9.mark 2 _ rfl
    have m_y3 := y9.mark 3 _ rfl
    have m_y4 := y9.mark 4 _ rfl
    have l_y := y9.lt (Nat.succ_pos _)
    have c_z0 := x9.cell 0 _ rfl
    have c_z1 := x9.cell 1 _ rfl
    have c_z2 := x9.cell 2 _ rfl
    have c_z3 := x9.cell 3 _ rfl
    have c_z4 := x9.cell 4 _ rfl
    have c_z5 := x9.cell 5 _ rfl
    have c_z6 := x9.cell 6 _ rfl
    have c_z7 := x9.cell 7 _ rfl
    have c_z8 := x9.cell 8 _ rfl
    have m_z0 := x9.mark 0 _ rfl
    have m_z1 := x9.mark 1 _ rfl
    have m_z2 := x9.mark 2 _ rfl
    have m_z3 := x9.mark 3 _ rfl
    have m_z4 := x9.mark 4 _ rfl
    have m_z5 := x9.mark 5 _ rfl
    have m_z6 := x9.mark 6 _ rfl
    have m_z7 := x9.mark 7 _ rfl
    have m_z8 := x9.mark 8 _ rfl
    have l_z := x9.lt (Nat.succ_pos _)
    refine bodyPost_ret (v := .tuple #[.agg #[.int .i64 0, .int .i64 (a : Int), .int .i64 (a1 : Int), .string { data := #[] }, .int .i64 0, .int .u64 0, .int .u64 0, .int .u64 0, .int .u64 0], .agg #[.int .i64 (cd : Int), .int .i64 0, .int .i64 0, .int .i64 (E : Int), .slice none 0 0]]) (by simp [results, Tryz.results10, go_sem, c_y0, c_y1, c_y2, c_y3, c_y4, c_z0, c_z1, c_z2, c_z3, c_z4, c_z5, c_z6, c_z7, c_z8]) rfl ?_
    rw [HEE.out, HCD.out]
    exact ⟨⟨_, _, rfl⟩, hg9⟩

end Go.Proofs.YtdjankfcmoblhaaGreatDoor

/- bolterref4: one: a part. No condition but a length's bound. Printed by gen_ref4.py. -/
namespace Go.Proofs.YtdjankfcmoblhaaGreatDoor
open Go Go.RowKit

set_option maxRecDepth 100000 in
set_option maxHeartbeats 8000000 in
theorem one4_point (t : List UInt8) (a a1 : Nat) (w : World) (hT : (t.length : Int) ≤ 4294967280) (ha1 : a + 1 = a1) (hc : t[a]? = some 46) :
    Calls Tryz.prog 10 #[.string (st t), .int .i64 (a : Int)] w fun e w' => e = .returned (.tuple #[.agg #[.int .i64 4, .int .i64 (a : Int), .int .i64 (a1 : Int), .string { data := #[] }, .int .i64 0, .int .u64 (wd (~~~ofList [10]) 0), .int .u64 (wd (~~~ofList [10]) 1), .int .u64 (wd (~~~ofList [10]) 2), .int .u64 (wd (~~~ofList [10]) 3)], .agg #[.int .i64 0, .int .i64 0, .int .i64 0, .int .i64 0, .slice none 0 0]]) ∧ Gr w w' := by
  have hsz := st_size t
  have ha := (List.getElem?_eq_some_iff.1 hc).1
  have hix := fun w' => run_at (P := Tryz.prog) w' 9 t a 46 .i64 Tryz.underlying9 hc
  have hw1 : IntKind.i64.wrap ((a : Int) + 1) = (a1 : Int) := by rw [IntWalk.i64_in _ (by omega)]; omega
  have HA := Lib.hid (show a < t.length ∧ a + 1 = a1 from ⟨ha, ha1⟩)
  have HT := Lib.hid hT
  simp only [show ((46 : UInt8).toNat : Int) = 46 from rfl] at hix
  have HLL := Lib.hid no4_let_46
  have HDL := Lib.hid no4_dig_46
  clear ha1 hT ha hc
  go_enter Tryz.func10, Tryz.ntmps10
  go_upto_region 2 with fail
  refine name_world (fun W hW => ?_)
  obtain ⟨xq, xf, xx, hg, hs⟩ : boxAt W w.heap.size [.int .i64 0, .int .i64 0, .int .i64 0, .string { data := #[] }, .int .i64 0, .int .u64 0, .int .u64 0, .int .u64 0, .int .u64 0] ∧ boxAt W (w.heap.size + 1) [.int .i64 0, .int .i64 0, .int .i64 0, .int .i64 0, .slice none 0 0] ∧ boxAt W (w.heap.size + 2) [.int .i64 0, .int .i64 (a : Int), .int .i64 (a1 : Int), .string { data := #[] }, .int .i64 0, .int .u64 0, .int .u64 0, .int .u64 0, .int .u64 0] ∧ Gr w W ∧ W.heap.size = w.heap.size + 3 := by
    subst hW
    exact boxes3 w [.int .i64 0, .int .i64 0, .int .i64 0, .string { data := #[] }, .int .i64 0, .int .u64 0, .int .u64 0, .int .u64 0, .int .u64 0] [.int .i64 0, .int .i64 0, .int .i64 0, .int .i64 0, .slice none 0 0] [.int .i64 0, .int .i64 (a : Int), .int .i64 (a1 : Int), .string { data := #[] }, .int .i64 0, .int .u64 0, .int .u64 0, .int .u64 0, .int .u64 0] 38 25 38
  clear hW hw1
  obtain ⟨P, hP⟩ : ∃ P, w.heap.size + 1 + 1 = P := ⟨_, rfl⟩
  rw [hP]
  rw [show w.heap.size + 2 = P from hP] at xx
  have hqf : w.heap.size ≠ w.heap.size + 1 := by omega
  have hfq : w.heap.size + 1 ≠ w.heap.size := by omega
  have hxq : P ≠ w.heap.size := by omega
  have hxf : P ≠ w.heap.size + 1 := by omega
  have hlq : w.heap.size ≤ w.heap.size := Nat.le_refl _
  have hlf : w.heap.size ≤ w.heap.size + 1 := by omega
  have hlP : w.heap.size ≤ P := by omega
  clear hP hs
  have c_x0 := xx.cell 0 _ rfl
  have c_x1 := xx.cell 1 _ rfl
  have c_x2 := xx.cell 2 _ rfl
  have c_x3 := xx.cell 3 _ rfl
  have c_x4 := xx.cell 4 _ rfl
  have c_x5 := xx.cell 5 _ rfl
  have c_x6 := xx.cell 6 _ rfl
  have c_x7 := xx.cell 7 _ rfl
  have c_x8 := xx.cell 8 _ rfl
  have m_x0 := xx.mark 0 _ rfl
  have m_x1 := xx.mark 1 _ rfl
  have m_x2 := xx.mark 2 _ rfl
  have m_x3 := xx.mark 3 _ rfl
  have m_x4 := xx.mark 4 _ rfl
  have m_x5 := xx.mark 5 _ rfl
  have m_x6 := xx.mark 6 _ rfl
  have m_x7 := xx.mark 7 _ rfl
  have m_x8 := xx.mark 8 _ rfl
  have l_x := xx.lt (Nat.succ_pos _)
  have c_q0 := xq.cell 0 _ rfl
  have c_q1 := xq.cell 1 _ rfl
  have c_q2 := xq.cell 2 _ rfl
  have c_q3 := xq.cell 3 _ rfl
  have c_q4 := xq.cell 4 _ rfl
  have c_q5 := xq.cell 5 _ rfl
  have c_q6 := xq.cell 6 _ rfl
  have c_q7 := xq.cell 7 _ rfl
  have c_q8 := xq.cell 8 _ rfl
  have m_q0 := xq.mark 0 _ rfl
  have m_q1 := xq.mark 1 _ rfl
  have m_q2 := xq.mark 2 _ rfl
  have m_q3 := xq.mark 3 _ rfl
  have m_q4 := xq.mark 4 _ rfl
  have m_q5 := xq.mark 5 _ rfl
  have m_q6 := xq.mark 6 _ rfl
  have m_q7 := xq.mark 7 _ rfl
  have m_q8 := xq.mark 8 _ rfl
  have l_q := xq.lt (Nat.succ_pos _)
  have c_f0 := xf.cell 0 _ rfl
  have c_f1 := xf.cell 1 _ rfl
  have c_f2 := xf.cell 2 _ rfl
  have c_f3 := xf.cell 3 _ rfl
  have c_f4 := xf.cell 4 _ rfl
  have m_f0 := xf.mark 0 _ rfl
  have m_f1 := xf.mark 1 _ rfl
  have m_f2 := xf.mark 2 _ rfl
  have m_f3 := xf.mark 3 _ rfl
  have m_f4 := xf.mark 4 _ rfl
  have l_f := xf.lt (Nat.succ_pos _)

  go_wp2_with first
    | (go_at_call 14; (with_reducible refine (HLL.out _).mono ?_); rintro e w1 ⟨rfl, h⟩; obtain rfl := h.symm)
    | (go_at_call 15; (with_reducible refine (HDL.out _).mono ?_); rintro e w1 ⟨rfl, h⟩; obtain rfl := h.symm)
  go_at_call 21
  refine name_calls (fun W5 hW => ?_)
  clear c_x0 c_x1 c_x2 c_x3 c_x4 c_x5 c_x6 c_x7 c_x8 m_x0 m_x1 m_x2 m_x3 m_x4 m_x5 m_x6 m_x7 m_x8 l_x
  clear c_q0 c_q1 c_q2 c_q3 c_q4 c_q5 c_q6 c_q7 c_q8 m_q0 m_q1 m_q2 m_q3 m_q4 m_q5 m_q6 m_q7 m_q8 l_q
  clear c_f0 c_f1 c_f2 c_f3 c_f4 m_f0 m_f1 m_f2 m_f3 m_f4 l_f
  obtain ⟨W4, hW4⟩ : ∃ W4, W4 = W.setCell ⟨P, 0, none⟩ (.int .i64 4) := ⟨_, rfl⟩
  have hs4 : W4.heap.size = W.heap.size := by rw [hW4, size_set]
  have hsl := Sl.lit1 10 10 W4 W5 rfl (by rw [hW, hW4])
  rw [hs4] at hsl
  have hb : Gr W4 W5 := by rw [hW, hW4]; exact Gr.alloc _ _
  replace xx : boxAt W5 P [.int .i64 4, .int .i64 (a : Int), .int .i64 (a1 : Int), .string { data := #[] }, .int .i64 0, .int .u64 0, .int .u64 0, .int .u64 0, .int .u64 0] := boxAt.later (by rw [hW4]; exact xx.put 0 _ (by simp)) hb
  replace xq := boxAt.later (show boxAt W4 w.heap.size _ from by rw [hW4]; exact xq.far ⟨P, 0, none⟩ _ hxq) hb
  replace xf := boxAt.later (show boxAt W4 (w.heap.size + 1) _ from by rw [hW4]; exact xf.far ⟨P, 0, none⟩ _ hxf) hb
  replace hg : Gr w W5 := Gr.trans (show Gr w W4 from by rw [hW4]; exact set5 hg hlP 0 _) hb
  clear hW hW4 hs4 hb
  refine (r1of [10] _ W5 hsl).mono ?_; rintro e w6 ⟨rfl, hb⟩
  obtain ⟨s, hs⟩ : ∃ s, ofList [10] = s := ⟨_, rfl⟩
  rw [hs]
  have HS := Lib.hid hs
  replace xx := xx.later hb
  replace xq := xq.later hb
  replace xf := xf.later hb
  replace hg := hg.trans hb
  clear hs hb hsl
  go_wp2_with fail
  go_at_call 20
  refine (r1compl s w6).mono ?_; rintro e w8 ⟨rfl, hb⟩
  replace xx := xx.later hb
  replace xq := xq.later hb
  replace xf := xf.later hb
  replace hg := hg.trans hb
  clear hb
  have c_x0 := xx.cell 0 _ rfl
  have c_x1 := xx.cell 1 _ rfl
  have c_x2 := xx.cell 2 _ rfl
  have c_x3 := xx.cell 3 _ rfl
  have c_x4 := xx.cell 4 _ rfl
  have c_x5 := xx.cell 5 _ rfl
  have c_x6 := xx.cell 6 _ rfl
  have c_x7 := xx.cell 7 _ rfl
  have c_x8 := xx.cell 8 _ rfl
  have m_x0 := xx.mark 0 _ rfl
  have m_x1 := xx.mark 1 _ rfl
  have m_x2 := xx.mark 2 _ rfl
  have m_x3 := xx.mark 3 _ rfl
  have m_x4 := xx.mark 4 _ rfl
  have m_x5 := xx.mark 5 _ rfl
  have m_x6 := xx.mark 6 _ rfl
  have m_x7 := xx.mark 7 _ rfl
  have m_x8 := xx.mark 8 _ rfl
  have l_x := xx.lt (Nat.succ_pos _)
  have c_q0 := xq.cell 0 _ rfl
  have c_q1 := xq.cell 1 _ rfl
  have c_q2 := xq.cell 2 _ rfl
  have c_q3 := xq.cell 3 _ rfl
  have c_q4 := xq.cell 4 _ rfl
  have c_q5 := xq.cell 5 _ rfl
  have c_q6 := xq.cell 6 _ rfl
  have c_q7 := xq.cell 7 _ rfl
  have c_q8 := xq.cell 8 _ rfl
  have m_q0 := xq.mark 0 _ rfl
  have m_q1 := xq.mark 1 _ rfl
  have m_q2 := xq.mark 2 _ rfl
  have m_q3 := xq.mark 3 _ rfl
  have m_q4 := xq.mark 4 _ rfl
  have m_q5 := xq.mark 5 _ rfl
  have m_q6 := xq.mark 6 _ rfl
  have m_q7 := xq.mark 7 _ rfl
  have m_q8 := xq.mark 8 _ rfl
  have l_q := xq.lt (Nat.succ_pos _)
  have c_f0 := xf.cell 0 _ rfl
  have c_f1 := xf.cell 1 _ rfl
  have c_f2 := xf.cell 2 _ rfl
  have c_f3 := xf.cell 3 _ rfl
  have c_f4 := xf.cell 4 _ rfl
  have m_f0 := xf.mark 0 _ rfl
  have m_f1 := xf.mark 1 _ rfl
  have m_f2 := xf.mark 2 _ rfl
  have m_f3 := xf.mark 3 _ rfl
  have m_f4 := xf.mark 4 _ rfl
  have l_f := xf.lt (Nat.succ_pos _)
  go_upto_region 35 with fail
  clear c_x0 c_x1 c_x2 c_x3 c_x4 c_x5 c_x6 c_x7 c_x8 m_x0 m_x1 m_x2 m_x3 m_x4 m_x5 m_x6 m_x7 m_x8 l_x
  clear c_q0 c_q1 c_q2 c_q3 c_q4 c_q5 c_q6 c_q7 c_q8 m_q0 m_q1 m_q2 m_q3 m_q4 m_q5 m_q6 m_q7 m_q8 l_q
  clear c_f0 c_f1 c_f2 c_f3 c_f4 m_f0 m_f1 m_f2 m_f3 m_f4 l_f
  refine name_world (fun W7 hW => ?_)
  replace xx : boxAt W7 P [.int .i64 4, .int .i64 (a : Int), .int .i64 (a1 : Int), .string { data := #[] }, .int .i64 0, .int .u64 (wd (~~~s) 0), .int .u64 (wd (~~~s) 1), .int .u64 (wd (~~~s) 2), .int .u64 (wd (~~~s) 3)] := by rw [hW]; exact ((((xx.put 5 _ (by simp)).put 6 _ (by simp)).put 7 _ (by simp)).put 8 _ (by simp))
  replace xq : boxAt W7 w.heap.size [.int .i64 0, .int .i64 0, .int .i64 0, .string { data := #[] }, .int .i64 0, .int .u64 0, .int .u64 0, .int .u64 0, .int .u64 0] := by rw [hW]; exact ((((xq.far ⟨P, 5, none⟩ _ hxq).far ⟨P, 6, none⟩ _ hxq).far ⟨P, 7, none⟩ _ hxq).far ⟨P, 8, none⟩ _ hxq)
  replace xf : boxAt W7 (w.heap.size + 1) [.int .i64 0, .int .i64 0, .int .i64 0, .int .i64 0, .slice none 0 0] := by rw [hW]; exact ((((xf.far ⟨P, 5, none⟩ _ hxf).far ⟨P, 6, none⟩ _ hxf).far ⟨P, 7, none⟩ _ hxf).far ⟨P, 8, none⟩ _ hxf)
  replace hg : Gr w W7 := by rw [hW]; exact set5 (set5 (set5 (set5 (hg) hlP 5 _) hlP 6 _) hlP 7 _) hlP 8 _
  clear hW
  have c_x0 := xx.cell 0 _ rfl
  have c_x1 := xx.cell 1 _ rfl
  have c_x2 := xx.cell 2 _ rfl
  have c_x3 := xx.cell 3 _ rfl
  have c_x4 := xx.cell 4 _ rfl
  have c_x5 := xx.cell 5 _ rfl
  have c_x6 := xx.cell 6 _ rfl
  have c_x7 := xx.cell 7 _ rfl
  have c_x8 := xx.cell 8 _ rfl
  have m_x0 := xx.mark 0 _ rfl
  have m_x1 := xx.mark 1 _ rfl
  have m_x2 := xx.mark 2 _ rfl
  have m_x3 := xx.mark 3 _ rfl
  have m_x4 := xx.mark 4 _ rfl
  have m_x5 := xx.mark 5 _ rfl
  have m_x6 := xx.mark 6 _ rfl
  have m_x7 := xx.mark 7 _ rfl
  have m_x8 := xx.mark 8 _ rfl
  have l_x := xx.lt (Nat.succ_pos _)
  have c_q0 := xq.cell 0 _ rfl
  have c_q1 := xq.cell 1 _ rfl
  have c_q2 := xq.cell 2 _ rfl
  have c_q3 := xq.cell 3 _ rfl
  have c_q4 := xq.cell 4 _ rfl
  have c_q5 := xq.cell 5 _ rfl
  have c_q6 := xq.cell 6 _ rfl
  have c_q7 := xq.cell 7 _ rfl
  have c_q8 := xq.cell 8 _ rfl
  have m_q0 := xq.mark 0 _ rfl
  have m_q1 := xq.mark 1 _ rfl
  have m_q2 := xq.mark 2 _ rfl
  have m_q3 := xq.mark 3 _ rfl
  have m_q4 := xq.mark 4 _ rfl
  have m_q5 := xq.mark 5 _ rfl
  have m_q6 := xq.mark 6 _ rfl
  have m_q7 := xq.mark 7 _ rfl
  have m_q8 := xq.mark 8 _ rfl
  have l_q := xq.lt (Nat.succ_pos _)
  have c_f0 := xf.cell 0 _ rfl
  have c_f1 := xf.cell 1 _ rfl
  have c_f2 := xf.cell 2 _ rfl
  have c_f3 := xf.cell 3 _ rfl
  have c_f4 := xf.cell 4 _ rfl
  have m_f0 := xf.mark 0 _ rfl
  have m_f1 := xf.mark 1 _ rfl
  have m_f2 := xf.mark 2 _ rfl
  have m_f3 := xf.mark 3 _ rfl
  have m_f4 := xf.mark 4 _ rfl
  have l_f := xf.lt (Nat.succ_pos _)
  go_wp2_with fail
  refine name_end (fun W9 hW => ?_)
  have y9 : boxAt W9 (w.heap.size + 1) [.int .i64 0, .int .i64 0, .int .i64 0, .int .i64 0, .slice none 0 0] := by rw [hW]; exact ((boxFar9 xf hqf _ _ _ _ _ _ _ _ _).put5 _ _ _ _ _)
  have x9 : boxAt W9 (w.heap.size) [.int .i64 4, .int .i64 (a : Int), .int .i64 (a1 : Int), .string { data := #[] }, .int .i64 0, .int .u64 (wd (~~~s) 0), .int .u64 (wd (~~~s) 1), .int .u64 (wd (~~~s) 2), .int .u64 (wd (~~~s) 3)] := by rw [hW]; exact ((xq.puts9 rfl _ _ _ _ _ _ _ _ _).far5 hfq _ _ _ _ _)
  have hg9 : Gr w W9 := by rw [hW]; exact (Below.put5 (Gr.puts9 hg hlq _ _ _ _ _ _ _ _ _) hlf _ _ _ _ _)
  clear hW
  have c_y0 := y9.cell 0 _ rfl
  have c_y1 := y9.cell 1 _ rfl
  have c_y2 := y9.cell 2 _ rfl
  have c_y3 := y9.cell 3 _ rfl
  have c_y4 := y9.cell 4 _ rfl
  have m_y0 := y9.mark 0 _ rfl
  have m_y1 := y9.mark 1 _ rfl
  have m_y2 := y9.mark 2 _ rfl
  have m_y3 := y9.mark 3 _ rfl
  have m_y4 := y9.mark 4 _ rfl
  have l_y := y9.lt (Nat.succ_pos _)
  have c_z0 := x9.cell 0 _ rfl
  have c_z1 := x9.cell 1 _ rfl
  have c_z2 := x9.cell 2 _ rfl
  have c_z3 := x9.cell 3 _ rfl
  have c_z4 := x9.cell 4 _ rfl
  have c_z5 := x9.cell 5 _ rfl
  have c_z6 := x9.cell 6 _ rfl
  have c_z7 := x9.cell 7 _ rfl
  have c_z8 := x9.cell 8 _ rfl
  have m_z0 := x9.mark 0 _ rfl
  have m_z1 := x9.mark 1 _ rfl
  have m_z2 := x9.mark 2 _ rfl
  have m_z3 := x9.mark 3 _ rfl
  have m_z4 := x9.mark 4 _ rfl
  have m_z5 := x9.mark 5 _ rfl
  have m_z6 := x9.mark 6 _ rfl
  have m_z7 := x9.mark 7 _ rfl
  have m_z8 := x9.mark 8 _ rfl
  have l_z := x9.lt (Nat.succ_pos _)
  refine bodyPost_ret (v := .tuple #[.agg #[.int .i64 4, .int .i64 (a : Int), .int .i64 (a1 : Int), .string { data := #[] }, .int .i64 0, .int .u64 (wd (~~~s) 0), .int .u64 (wd (~~~s) 1), .int .u64 (wd (~~~s) 2), .int .u64 (wd (~~~s) 3)], .agg #[.int .i64 0, .int .i64 0, .int .i64 0, .int .i64 0, .slice none 0 0]]) (by simp [results, Tryz.results10, go_sem, c_y0, c_y1, c_y2, c_y3, c_y4, c_z0, c_z1, c_z2, c_z3, c_z4, c_z5, c_z6, c_z7, c_z8]) rfl ?_
  rw [HS.out]
  exact ⟨rfl, hg9⟩

end Go.Proofs.YtdjankfcmoblhaaGreatDoor

/- bolterref4: one: a part. No condition but a length's bound. Printed by gen_ref4.py. -/
namespace Go.Proofs.YtdjankfcmoblhaaGreatDoor
open Go Go.RowKit

set_option maxRecDepth 100000 in
set_option maxHeartbeats 8000000 in
theorem one4_mark_ok (t : List UInt8) (a a1 : Nat) (w : World) (hT : (t.length : Int) ≤ 4294967280) (ha1 : a + 1 = a1) (c : UInt8) (hc : t[a]? = some c) (hr : restC c = true) (n : Nat) (hn : markP (t.drop a) = n) (h0 : 0 < n) :
    Calls Tryz.prog 10 #[.string (st t), .int .i64 (a : Int)] w fun e w' => e = .returned (.tuple #[.agg #[.int .i64 5, .int .i64 (a : Int), .int .i64 ((a + n : Nat) : Int), .string (st ((t.drop a).take n)), .int .i64 0, .int .u64 0, .int .u64 0, .int .u64 0, .int .u64 0], .agg #[.int .i64 0, .int .i64 0, .int .i64 0, .int .i64 0, .slice none 0 0]]) ∧ Gr w w' := by
  have hne := rest_ne hr
  have hsz := st_size t
  have ha := (List.getElem?_eq_some_iff.1 hc).1
  have hix := fun w' => run_at (P := Tryz.prog) w' 9 t a c .i64 Tryz.underlying9 hc
  have hw1 : IntKind.i64.wrap ((a : Int) + 1) = (a1 : Int) := by rw [IntWalk.i64_in _ (by omega)]; omega
  have HA := Lib.hid (show a < t.length ∧ a + 1 = a1 from ⟨ha, ha1⟩)
  have HT := Lib.hid hT
  obtain ⟨E, hE⟩ : ∃ E, a + n = E := ⟨_, rfl⟩
  obtain ⟨tx, htx⟩ : ∃ x, (t.drop a).take n = x := ⟨_, rfl⟩
  have HEE := Lib.hid (And.intro hE htx)
  have HM : Hid (∀ w, Calls Tryz.prog 22 #[.string (st t), .int .i64 (a : Int), .agg #[.int .i64 0, .int .i64 (a : Int), .int .i64 (a1 : Int), .string { data := #[] }, .int .i64 0, .int .u64 0, .int .u64 0, .int .u64 0, .int .u64 0]] w fun e w' => e = .returned (.tuple #[.agg #[.int .i64 5, .int .i64 (a : Int), .int .i64 (E : Int), .string (st tx), .int .i64 0, .int .u64 0, .int .u64 0, .int .u64 0, .int .u64 0], .agg #[.int .i64 0, .int .i64 0, .int .i64 0, .int .i64 0, .slice none 0 0]]) ∧ Gr w w') := fun w => by
    have := mark4_ok t a a1 c w hT hc ha1 n hn h0
    rw [hE, htx] at this; exact this
  obtain ⟨k, hk⟩ : ∃ k, c.toNat = k := ⟨_, rfl⟩
  rw [hk] at hix hne
  obtain ⟨hl, hd, _, _, _, _, h10, h34, h91, h46⟩ := hne
  have e10 : ((k : Int) == 10) = false := by rw [beq_eq_false_iff_ne]; omega
  have e34 : ((k : Int) == 34) = false := by rw [beq_eq_false_iff_ne]; omega
  have e91 : ((k : Int) == 91) = false := by rw [beq_eq_false_iff_ne]; omega
  have e46 : ((k : Int) == 46) = false := by rw [beq_eq_false_iff_ne]; omega
  have HL : Hid (∀ w, Calls Tryz.prog 14 #[.int .u8 (k : Int)] w fun e w' => e = .returned (.bool false) ∧ w' = w) := fun w => by
    have := let4_any k w
    rw [← hk, letK_let, hl] at this
    rw [← hk]; exact this
  have HD : Hid (∀ w, Calls Tryz.prog 15 #[.int .u8 (k : Int)] w fun e w' => e = .returned (.bool false) ∧ w' = w) := fun w => by
    have := dig4_any k w
    rw [← hk, digK_dig, hd] at this
    rw [← hk]; exact this
  clear hr hk hl hd h10 h34 h91 h46 hn hE htx h0
  clear ha1 hT ha hc
  go_enter Tryz.func10, Tryz.ntmps10
  go_upto_region 2 with fail
  refine name_world (fun W hW => ?_)
  obtain ⟨xq, xf, xx, hg, hs⟩ : boxAt W w.heap.size [.int .i64 0, .int .i64 0, .int .i64 0, .string { data := #[] }, .int .i64 0, .int .u64 0, .int .u64 0, .int .u64 0, .int .u64 0] ∧ boxAt W (w.heap.size + 1) [.int .i64 0, .int .i64 0, .int .i64 0, .int .i64 0, .slice none 0 0] ∧ boxAt W (w.heap.size + 2) [.int .i64 0, .int .i64 (a : Int), .int .i64 (a1 : Int), .string { data := #[] }, .int .i64 0, .int .u64 0, .int .u64 0, .int .u64 0, .int .u64 0] ∧ Gr w W ∧ W.heap.size = w.heap.size + 3 := by
    subst hW
    exact boxes3 w [.int .i64 0, .int .i64 0, .int .i64 0, .string { data := #[] }, .int .i64 0, .int .u64 0, .int .u64 0, .int .u64 0, .int .u64 0] [.int .i64 0, .int .i64 0, .int .i64 0, .int .i64 0, .slice none 0 0] [.int .i64 0, .int .i64 (a : Int), .int .i64 (a1 : Int), .string { data := #[] }, .int .i64 0, .int .u64 0, .int .u64 0, .int .u64 0, .int .u64 0] 38 25 38
  clear hW hw1
  obtain ⟨P, hP⟩ : ∃ P, w.heap.size + 1 + 1 = P := ⟨_, rfl⟩
  rw [hP]
  rw [show w.heap.size + 2 = P from hP] at xx
  have hqf : w.heap.size ≠ w.heap.size + 1 := by omega
  have hfq : w.heap.size + 1 ≠ w.heap.size := by omega
  have hxq : P ≠ w.heap.size := by omega
  have hxf : P ≠ w.heap.size + 1 := by omega
  have hlq : w.heap.size ≤ w.heap.size := Nat.le_refl _
  have hlf : w.heap.size ≤ w.heap.size + 1 := by omega
  have hlP : w.heap.size ≤ P := by omega
  clear hP hs
  have c_x0 := xx.cell 0 _ rfl
  have c_x1 := xx.cell 1 _ rfl
  have c_x2 := xx.cell 2 _ rfl
  have c_x3 := xx.cell 3 _ rfl
  have c_x4 := xx.cell 4 _ rfl
  have c_x5 := xx.cell 5 _ rfl
  have c_x6 := xx.cell 6 _ rfl
  have c_x7 := xx.cell 7 _ rfl
  have c_x8 := xx.cell 8 _ rfl
  have m_x0 := xx.mark 0 _ rfl
  have m_x1 := xx.mark 1 _ rfl
  have m_x2 := xx.mark 2 _ rfl
  have m_x3 := xx.mark 3 _ rfl
  have m_x4 := xx.mark 4 _ rfl
  have m_x5 := xx.mark 5 _ rfl
  have m_x6 := xx.mark 6 _ rfl
  have m_x7 := xx.mark 7 _ rfl
  have m_x8 := xx.mark 8 _ rfl
  have l_x := xx.lt (Nat.succ_pos _)
  have c_q0 := xq.cell 0 _ rfl
  have c_q1 := xq.cell 1 _ rfl
  have c_q2 := xq.cell 2 _ rfl
  have c_q3 := xq.cell 3 _ rfl
  have c_q4 := xq.cell 4 _ rfl
  have c_q5 := xq.cell 5 _ rfl
  have c_q6 := xq.cell 6 _ rfl
  have c_q7 := xq.cell 7 _ rfl
  have c_q8 := xq.cell 8 _ rfl
  have m_q0 := xq.mark 0 _ rfl
  have m_q1 := xq.mark 1 _ rfl
  have m_q2 := xq.mark 2 _ rfl
  have m_q3 := xq.mark 3 _ rfl
  have m_q4 := xq.mark 4 _ rfl
  have m_q5 := xq.mark 5 _ rfl
  have m_q6 := xq.mark 6 _ rfl
  have m_q7 := xq.mark 7 _ rfl
  have m_q8 := xq.mark 8 _ rfl
  have l_q := xq.lt (Nat.succ_pos _)
  have c_f0 := xf.cell 0 _ rfl
  have c_f1 := xf.cell 1 _ rfl
  have c_f2 := xf.cell 2 _ rfl
  have c_f3 := xf.cell 3 _ rfl
  have c_f4 := xf.cell 4 _ rfl
  have m_f0 := xf.mark 0 _ rfl
  have m_f1 := xf.mark 1 _ rfl
  have m_f2 := xf.mark 2 _ rfl
  have m_f3 := xf.mark 3 _ rfl
  have m_f4 := xf.mark 4 _ rfl
  have l_f := xf.lt (Nat.succ_pos _)

  go_wp2_with first
    | (go_at_call 14; (with_reducible refine (HL.out _).mono ?_); rintro e w1 ⟨rfl, rfl⟩)
    | (go_at_call 15; (with_reducible refine (HD.out _).mono ?_); rintro e w1 ⟨rfl, rfl⟩)
  go_at_call 22
  refine (HM.out _).mono ?_; rintro e w2 ⟨rfl, hb⟩
  clear c_x0 c_x1 c_x2 c_x3 c_x4 c_x5 c_x6 c_x7 c_x8 m_x0 m_x1 m_x2 m_x3 m_x4 m_x5 m_x6 m_x7 m_x8 l_x
  clear c_q0 c_q1 c_q2 c_q3 c_q4 c_q5 c_q6 c_q7 c_q8 m_q0 m_q1 m_q2 m_q3 m_q4 m_q5 m_q6 m_q7 m_q8 l_q
  clear c_f0 c_f1 c_f2 c_f3 c_f4 m_f0 m_f1 m_f2 m_f3 m_f4 l_f
  replace xq := xq.later hb
  replace xf := xf.later hb
  replace hg := hg.trans hb
  clear hb hix xx
  have c_q0 := xq.cell 0 _ rfl
  have c_q1 := xq.cell 1 _ rfl
  have c_q2 := xq.cell 2 _ rfl
  have c_q3 := xq.cell 3 _ rfl
  have c_q4 := xq.cell 4 _ rfl
  have c_q5 := xq.cell 5 _ rfl
  have c_q6 := xq.cell 6 _ rfl
  have c_q7 := xq.cell 7 _ rfl
  have c_q8 := xq.cell 8 _ rfl
  have m_q0 := xq.mark 0 _ rfl
  have m_q1 := xq.mark 1 _ rfl
  have m_q2 := xq.mark 2 _ rfl
  have m_q3 := xq.mark 3 _ rfl
  have m_q4 := xq.mark 4 _ rfl
  have m_q5 := xq.mark 5 _ rfl
  have m_q6 := xq.mark 6 _ rfl
  have m_q7 := xq.mark 7 _ rfl
  have m_q8 := xq.mark 8 _ rfl
  have l_q := xq.lt (Nat.succ_pos _)
  have c_f0 := xf.cell 0 _ rfl
  have c_f1 := xf.cell 1 _ rfl
  have c_f2 := xf.cell 2 _ rfl
  have c_f3 := xf.cell 3 _ rfl
  have c_f4 := xf.cell 4 _ rfl
  have m_f0 := xf.mark 0 _ rfl
  have m_f1 := xf.mark 1 _ rfl
  have m_f2 := xf.mark 2 _ rfl
  have m_f3 := xf.mark 3 _ rfl
  have m_f4 := xf.mark 4 _ rfl
  have l_f := xf.lt (Nat.succ_pos _)
  go_wp2_with fail
  refine name_end (fun W9 hW => ?_)
  have y9 : boxAt W9 (w.heap.size + 1) [.int .i64 0, .int .i64 0, .int .i64 0, .int .i64 0, .slice none 0 0] := by rw [hW]; exact ((boxFar9 xf hqf _ _ _ _ _ _ _ _ _).put5 _ _ _ _ _)
  have x9 : boxAt W9 (w.heap.size) [.int .i64 5, .int .i64 (a : Int), .int .i64 (E : Int), .string (st tx), .int .i64 0, .int .u64 0, .int .u64 0, .int .u64 0, .int .u64 0] := by rw [hW]; exact ((xq.puts9 rfl _ _ _ _ _ _ _ _ _).far5 hfq _ _ _ _ _)
  have hg9 : Gr w W9 := by rw [hW]; exact (Below.put5 (Gr.puts9 hg hlq _ _ _ _ _ _ _ _ _) hlf _ _ _ _ _)
  clear hW
  have c_y0 := y9.cell 0 _ rfl
  have c_y1 := y9.cell 1 _ rfl
  have c_y2 := y9.cell 2 _ rfl
  have c_y3 := y9.cell 3 _ rfl
  have c_y4 := y9.cell 4 _ rfl
  have m_y0 := y9.mark 0 _ rfl
  have m_y1 := y9.mark 1 _ rfl
  have m_y2 := y9.mark 2 _ rfl
  have m_y3 := y9.mark 3 _ rfl
  have m_y4 := y9.mark 4 _ rfl
  have l_y := y9.lt (Nat.succ_pos _)
  have c_z0 := x9.cell 0 _ rfl
  have c_z1 := x9.cell 1 _ rfl
  have c_z2 := x9.cell 2 _ rfl
  have c_z3 := x9.cell 3 _ rfl
  have c_z4 := x9.cell 4 _ rfl
  have c_z5 := x9.cell 5 _ rfl
  have c_z6 := x9.cell 6 _ rfl
  have c_z7 := x9.cell 7 _ rfl
  have c_z8 := x9.cell 8 _ rfl
  have m_z0 := x9.mark 0 _ rfl
  have m_z1 := x9.mark 1 _ rfl
  have m_z2 := x9.mark 2 _ rfl
  have m_z3 := x9.mark 3 _ rfl
  have m_z4 := x9.mark 4 _ rfl
  have m_z5 := x9.mark 5 _ rfl
  have m_z6 := x9.mark 6 _ rfl
  have m_z7 := x9.mark 7 _ rfl
  have m_z8 := x9.mark 8 _ rfl
  have l_z := x9.lt (Nat.succ_pos _)
  refine bodyPost_ret (v := .tuple #[.agg #[.int .i64 5, .int .i64 (a : Int), .int .i64 (E : Int), .string (st tx), .int .i64 0, .int .u64 0, .int .u64 0, .int .u64 0, .int .u64 0], .agg #[.int .i64 0, .int .i64 0, .int .i64 0, .int .i64 0, .slice none 0 0]]) (by simp [results, Tryz.results10, go_sem, c_y0, c_y1, c_y2, c_y3, c_y4, c_z0, c_z1, c_z2, c_z3, c_z4, c_z5, c_z6, c_z7, c_z8]) rfl ?_
  rw [HEE.out.1, HEE.out.2]
  exact ⟨rfl, hg9⟩

set_option maxRecDepth 100000 in
set_option maxHeartbeats 8000000 in
theorem one4_mark_bad (t : List UInt8) (a a1 : Nat) (w : World) (hT : (t.length : Int) ≤ 4294967280) (ha1 : a + 1 = a1) (c : UInt8) (hc : t[a]? = some c) (hr : restC c = true) (hn : markP (t.drop a) = 0) :
    Calls Tryz.prog 10 #[.string (st t), .int .i64 (a : Int)] w fun e w' => (∃ (f : Int) (tx : ByteArray), e = .returned (.tuple #[.agg #[.int .i64 5, .int .i64 (a : Int), .int .i64 f, .string tx, .int .i64 0, .int .u64 0, .int .u64 0, .int .u64 0, .int .u64 0], .agg #[.int .i64 3, .int .i64 0, .int .i64 0, .int .i64 (a : Int), .slice none 0 0]])) ∧ Gr w w' := by
  have hne := rest_ne hr
  have hsz := st_size t
  have ha := (List.getElem?_eq_some_iff.1 hc).1
  have hix := fun w' => run_at (P := Tryz.prog) w' 9 t a c .i64 Tryz.underlying9 hc
  have hw1 : IntKind.i64.wrap ((a : Int) + 1) = (a1 : Int) := by rw [IntWalk.i64_in _ (by omega)]; omega
  have HA := Lib.hid (show a < t.length ∧ a + 1 = a1 from ⟨ha, ha1⟩)
  have HT := Lib.hid hT
  have HM : Hid (∀ w, Calls Tryz.prog 22 #[.string (st t), .int .i64 (a : Int), .agg #[.int .i64 0, .int .i64 (a : Int), .int .i64 (a1 : Int), .string { data := #[] }, .int .i64 0, .int .u64 0, .int .u64 0, .int .u64 0, .int .u64 0]] w fun e w' => (∃ (f : Int) (tx : ByteArray), e = .returned (.tuple #[.agg #[.int .i64 5, .int .i64 (a : Int), .int .i64 f, .string tx, .int .i64 0, .int .u64 0, .int .u64 0, .int .u64 0, .int .u64 0], .agg #[.int .i64 3, .int .i64 0, .int .i64 0, .int .i64 (a : Int), .slice none 0 0]])) ∧ Gr w w') := fun w => by
    have := mark4_bad t a a1 c w hT hc ha1 hn
    exact this
  obtain ⟨k, hk⟩ : ∃ k, c.toNat = k := ⟨_, rfl⟩
  rw [hk] at hix hne
  obtain ⟨hl, hd, _, _, _, _, h10, h34, h91, h46⟩ := hne
  have e10 : ((k : Int) == 10) = false := by rw [beq_eq_false_iff_ne]; omega
  have e34 : ((k : Int) == 34) = false := by rw [beq_eq_false_iff_ne]; omega
  have e91 : ((k : Int) == 91) = false := by rw [beq_eq_false_iff_ne]; omega
  have e46 : ((k : Int) == 46) = false := by rw [beq_eq_false_iff_ne]; omega
  have HL : Hid (∀ w, Calls Tryz.prog 14 #[.int .u8 (k : Int)] w fun e w' => e = .returned (.bool false) ∧ w' = w) := fun w => by
    have := let4_any k w
    rw [← hk, letK_let, hl] at this
    rw [← hk]; exact this
  have HD : Hid (∀ w, Calls Tryz.prog 15 #[.int .u8 (k : Int)] w fun e w' => e = .returned (.bool false) ∧ w' = w) := fun w => by
    have := dig4_any k w
    rw [← hk, digK_dig, hd] at this
    rw [← hk]; exact this
  clear hr hk hl hd h10 h34 h91 h46 hn
  clear ha1 hT ha hc
  go_enter Tryz.func10, Tryz.ntmps10
  go_upto_region 2 with fail
  refine name_world (fun W hW => ?_)
  obtain ⟨xq, xf, xx, hg, hs⟩ : boxAt W w.heap.size [.int .i64 0, .int .i64 0, .int .i64 0, .string { data := #[] }, .int .i64 0, .int .u64 0, .int .u64 0, .int .u64 0, .int .u64 0] ∧ boxAt W (w.heap.size + 1) [.int .i64 0, .int .i64 0, .int .i64 0, .int .i64 0, .slice none 0 0] ∧ boxAt W (w.heap.size + 2) [.int .i64 0, .int .i64 (a : Int), .int .i64 (a1 : Int), .string { data := #[] }, .int .i64 0, .int .u64 0, .int .u64 0, .int .u64 0, .int .u64 0] ∧ Gr w W ∧ W.heap.size = w.heap.size + 3 := by
    subst hW
    exact boxes3 w [.int .i64 0, .int .i64 0, .int .i64 0, .string { data := #[] }, .int .i64 0, .int .u64 0, .int .u64 0, .int .u64 0, .int .u64 0] [.int .i64 0, .int .i64 0, .int .i64 0, .int .i64 0, .slice none 0 0] [.int .i64 0, .int .i64 (a : Int), .int .i64 (a1 : Int), .string { data := #[] }, .int .i64 0, .int .u64 0, .int .u64 0, .int .u64 0, .int .u64 0] 38 25 38
  clear hW hw1
  obtain ⟨P, hP⟩ : ∃ P, w.heap.size + 1 + 1 = P := ⟨_, rfl⟩
  rw [hP]
  rw [show w.heap.size + 2 = P from hP] at xx
  have hqf : w.heap.size ≠ w.heap.size + 1 := by omega
  have hfq : w.heap.size + 1 ≠ w.heap.size := by omega
  have hxq : P ≠ w.heap.size := by omega
  have hxf : P ≠ w.heap.size + 1 := by omega
  have hlq : w.heap.size ≤ w.heap.size := Nat.le_refl _
  have hlf : w.heap.size ≤ w.heap.size + 1 := by omega
  have hlP : w.heap.size ≤ P := by omega
  clear hP hs
  have c_x0 := xx.cell 0 _ rfl
  have c_x1 := xx.cell 1 _ rfl
  have c_x2 := xx.cell 2 _ rfl
  have c_x3 := xx.cell 3 _ rfl
  have c_x4 := xx.cell 4 _ rfl
  have c_x5 := xx.cell 5 _ rfl
  have c_x6 := xx.cell 6 _ rfl
  have c_x7 := xx.cell 7 _ rfl
  have c_x8 := xx.cell 8 _ rfl
  have m_x0 := xx.mark 0 _ rfl
  have m_x1 := xx.mark 1 _ rfl
  have m_x2 := xx.mark 2 _ rfl
  have m_x3 := xx.mark 3 _ rfl
  have m_x4 := xx.mark 4 _ rfl
  have m_x5 := xx.mark 5 _ rfl
  have m_x6 := xx.mark 6 _ rfl
  have m_x7 := xx.mark 7 _ rfl
  have m_x8 := xx.mark 8 _ rfl
  have l_x := xx.lt (Nat.succ_pos _)
  have c_q0 := xq.cell 0 _ rfl
  have c_q1 := xq.cell 1 _ rfl
  have c_q2 := xq.cell 2 _ rfl
  have c_q3 := xq.cell 3 _ rfl
  have c_q4 := xq.cell 4 _ rfl
  have c_q5 := xq.cell 5 _ rfl
  have c_q6 := xq.cell 6 _ rfl
  have c_q7 := xq.cell 7 _ rfl
  have c_q8 := xq.cell 8 _ rfl
  have m_q0 := xq.mark 0 _ rfl
  have m_q1 := xq.mark 1 _ rfl
  have m_q2 := xq.mark 2 _ rfl
  have m_q3 := xq.mark 3 _ rfl
  have m_q4 := xq.mark 4 _ rfl
  have m_q5 := xq.mark 5 _ rfl
  have m_q6 := xq.mark 6 _ rfl
  have m_q7 := xq.mark 7 _ rfl
  have m_q8 := xq.mark 8 _ rfl
  have l_q := xq.lt (Nat.succ_pos _)
  have c_f0 := xf.cell 0 _ rfl
  have c_f1 := xf.cell 1 _ rfl
  have c_f2 := xf.cell 2 _ rfl
  have c_f3 := xf.cell 3 _ rfl
  have c_f4 := xf.cell 4 _ rfl
  have m_f0 := xf.mark 0 _ rfl
  have m_f1 := xf.mark 1 _ rfl
  have m_f2 := xf.mark 2 _ rfl
  have m_f3 := xf.mark 3 _ rfl
  have m_f4 := xf.mark 4 _ rfl
  have l_f := xf.lt (Nat.succ_pos _)

  go_wp2_with first
    | (go_at_call 14; (with_reducible refine (HL.out _).mono ?_); rintro e w1 ⟨rfl, rfl⟩)
    | (go_at_call 15; (with_reducible refine (HD.out _).mono ?_); rintro e w1 ⟨rfl, rfl⟩)
  go_at_call 22
  refine (HM.out _).mono ?_; rintro e w2 ⟨⟨f, tx, rfl⟩, hb⟩
  clear c_x0 c_x1 c_x2 c_x3 c_x4 c_x5 c_x6 c_x7 c_x8 m_x0 m_x1 m_x2 m_x3 m_x4 m_x5 m_x6 m_x7 m_x8 l_x
  clear c_q0 c_q1 c_q2 c_q3 c_q4 c_q5 c_q6 c_q7 c_q8 m_q0 m_q1 m_q2 m_q3 m_q4 m_q5 m_q6 m_q7 m_q8 l_q
  clear c_f0 c_f1 c_f2 c_f3 c_f4 m_f0 m_f1 m_f2 m_f3 m_f4 l_f
  replace xq := xq.later hb
  replace xf := xf.later hb
  replace hg := hg.trans hb
  clear hb hix xx
  have c_q0 := xq.cell 0 _ rfl
  have c_q1 := xq.cell 1 _ rfl
  have c_q2 := xq.cell 2 _ rfl
  have c_q3 := xq.cell 3 _ rfl
  have c_q4 := xq.cell 4 _ rfl
  have c_q5 := xq.cell 5 _ rfl
  have c_q6 := xq.cell 6 _ rfl
  have c_q7 := xq.cell 7 _ rfl
  have c_q8 := xq.cell 8 _ rfl
  have m_q0 := xq.mark 0 _ rfl
  have m_q1 := xq.mark 1 _ rfl
  have m_q2 := xq.mark 2 _ rfl
  have m_q3 := xq.mark 3 _ rfl
  have m_q4 := xq.mark 4 _ rfl
  have m_q5 := xq.mark 5 _ rfl
  have m_q6 := xq.mark 6 _ rfl
  have m_q7 := xq.mark 7 _ rfl
  have m_q8 := xq.mark 8 _ rfl
  have l_q := xq.lt (Nat.succ_pos _)
  have c_f0 := xf.cell 0 _ rfl
  have c_f1 := xf.cell 1 _ rfl
  have c_f2 := xf.cell 2 _ rfl
  have c_f3 := xf.cell 3 _ rfl
  have c_f4 := xf.cell 4 _ rfl
  have m_f0 := xf.mark 0 _ rfl
  have m_f1 := xf.mark 1 _ rfl
  have m_f2 := xf.mark 2 _ rfl
  have m_f3 := xf.mark 3 _ rfl
  have m_f4 := xf.mark 4 _ rfl
  have l_f := xf.lt (Nat.succ_pos _)
  go_wp2_with fail
  refine name_end (fun W9 hW => ?_)
  have y9 : boxAt W9 (w.heap.size + 1) [.int .i64 3, .int .i64 0, .int .i64 0, .int .i64 (a : Int), .slice none 0 0] := by rw [hW]; exact ((boxFar9 xf hqf _ _ _ _ _ _ _ _ _).put5 _ _ _ _ _)
  have x9 : boxAt W9 (w.heap.size) [.int .i64 5, .int .i64 (a : Int), .int .i64 f, .string tx, .int .i64 0, .int .u64 0, .int .u64 0, .int .u64 0, .int .u64 0] := by rw [hW]; exact ((xq.puts9 rfl _ _ _ _ _ _ _ _ _).far5 hfq _ _ _ _ _)
  have hg9 : Gr w W9 := by rw [hW]; exact (Below.put5 (Gr.puts9 hg hlq _ _ _ _ _ _ _ _ _) hlf _ _ _ _ _)
  clear hW
  have c_y0 := y9.cell 0 _ rfl
  have c_y1 := y9.cell 1 _ rfl
  have c_y2 := y9.cell 2 _ rfl
  have c_y3 := y9.cell 3 _ rfl
  have c_y4 := y9.cell 4 _ rfl
  have m_y0 := y9.mark 0 _ rfl
  have m_y1 := y9.mark 1 _ rfl
  have m_y2 := y9.mark 2 _ rfl
  have m_y3 := y9.mark 3 _ rfl
  have m_y4 := y9.mark 4 _ rfl
  have l_y := y9.lt (Nat.succ_pos _)
  have c_z0 := x9.cell 0 _ rfl
  have c_z1 := x9.cell 1 _ rfl
  have c_z2 := x9.cell 2 _ rfl
  have c_z3 := x9.cell 3 _ rfl
  have c_z4 := x9.cell 4 _ rfl
  have c_z5 := x9.cell 5 _ rfl
  have c_z6 := x9.cell 6 _ rfl
  have c_z7 := x9.cell 7 _ rfl
  have c_z8 := x9.cell 8 _ rfl
  have m_z0 := x9.mark 0 _ rfl
  have m_z1 := x9.mark 1 _ rfl
  have m_z2 := x9.mark 2 _ rfl
  have m_z3 := x9.mark 3 _ rfl
  have m_z4 := x9.mark 4 _ rfl
  have m_z5 := x9.mark 5 _ rfl
  have m_z6 := x9.mark 6 _ rfl
  have m_z7 := x9.mark 7 _ rfl
  have m_z8 := x9.mark 8 _ rfl
  have l_z := x9.lt (Nat.succ_pos _)
  refine bodyPost_ret (v := .tuple #[.agg #[.int .i64 5, .int .i64 (a : Int), .int .i64 f, .string tx, .int .i64 0, .int .u64 0, .int .u64 0, .int .u64 0, .int .u64 0], .agg #[.int .i64 3, .int .i64 0, .int .i64 0, .int .i64 (a : Int), .slice none 0 0]]) (by simp [results, Tryz.results10, go_sem, c_y0, c_y1, c_y2, c_y3, c_y4, c_z0, c_z1, c_z2, c_z3, c_z4, c_z5, c_z6, c_z7, c_z8]) rfl ?_
  exact ⟨⟨_, _, rfl⟩, hg9⟩

end Go.Proofs.YtdjankfcmoblhaaGreatDoor

/- bolterref4: one: its parts together. No condition. Printed by gen_ref4.py. -/
namespace Go.Proofs.YtdjankfcmoblhaaGreatDoor
open Go Go.RowKit

end Go.Proofs.YtdjankfcmoblhaaGreatDoor

/- bolterref4: one lexeme, Lex. No condition but a length's bound. Printed by gen_lex4.py. -/
namespace Go.Proofs.YtdjankfcmoblhaaGreatDoor
open Go Go.RowKit

/-- What one tells. -/
def OneEnd4 (a : Nat) (w : World) (o : One) (e : Ending) (w' : World) : Prop :=
  Gr w w' ∧ match o with
    | .skip _ => True
    | .tok kd k tx n s => e = .returned (.tuple #[lxV kd a (a + k : Nat) (st tx) n s, .agg #[.int .i64 0, .int .i64 0, .int .i64 0, .int .i64 0, .slice none 0 0]])
    | .bad d k => ∃ (kd f : Int) (tx : ByteArray), e = .returned (.tuple #[lxV kd a f tx 0 emptyS, .agg #[.int .i64 (codeB d : Int), .int .i64 0, .int .i64 0, .int .i64 ((a + k : Nat) : Int), .slice none 0 0]])
theorem one4_any (t : List UInt8) (a : Nat) (c : UInt8) (w : World) (hT : (t.length : Int) ≤ 4294967280) (hc : t[a]? = some c) (hbl : blankC c = false) (h35 : c ≠ 35) :
    Calls Tryz.prog 10 #[.string (st t), .int .i64 (a : Int)] w (OneEnd4 a w (oneP (t.drop a))) := by
  have ha := (List.getElem?_eq_some_iff.1 hc).1
  have hd := drop_at t a c hc
  have hlen : (t.drop a).length = t.length - a := List.length_drop
  rcases byte_cases c with hb | rfl | rfl | hb | hb | rfl | rfl | rfl | hb
  · rw [hbl] at hb; cases hb
  · exact absurd rfl h35
  · rw [hd, oneP_cons, if_neg (by decide), if_neg (by decide), if_pos rfl]
    refine (one4_lf t a (a + 1) w hT rfl hc).mono ?_
    rintro e w' ⟨rfl, hg⟩
    refine ⟨hg, ?_⟩
    simp only
    rw [lxV_zero]; rfl
  · rw [hd, oneP_let _ hb, ← hd]
    split
    · rename_i hl
      refine (one4_long t a (a + 1) w hT rfl c _ hc hb rfl (by omega)).mono ?_
      rintro e w' ⟨⟨f, tx, rfl⟩, hg⟩
      refine ⟨hg, 0, f, tx, ?_⟩
      rw [lxV_zero]; rfl
    · rename_i hl
      refine (one4_name t a (a + 1) w hT rfl c _ hc hb rfl (by omega)).mono ?_
      rintro e w' ⟨rfl, hg⟩
      refine ⟨hg, ?_⟩
      simp only
      rw [lxV_zero]; rfl
  · rw [hd, oneP_dig _ hb, ← hd]
    refine (one4_num t a (a + 1) w hT rfl c _ hc hb rfl).mono ?_
    rintro e w' ⟨rfl, hg⟩
    refine ⟨hg, ?_⟩
    simp only
    rw [lxV_zero]; rfl
  · rw [hd, oneP_text]
    unfold textP
    rw [List.drop_succ_cons, List.drop_zero]
    have hu := unq_le t a ha hd
    have hle := quoted_le (l := t.drop (a + 1)) (acc := [])
    have hl1 : (t.drop (a + 1)).length = t.length - (a + 1) := List.length_drop
    have hl2 : (34 :: t.drop (a + 1)).length = t.length - a := by rw [← hd]; exact hlen
    cases hq : quotedF (t.drop (a + 1)) [] with
    | ok s r =>
      rw [hq] at hu
      have := hle.1 s r hq
      refine (one4_text_ok t a (a + 1) w hT rfl hc s r hu).mono ?_
      rintro e w' ⟨rfl, hg⟩
      refine ⟨hg, ?_⟩
      simp only
      rw [hl2, show a + (t.length - a - r.length) = t.length - r.length by omega, lxV_zero]; rfl
    | bad r =>
      rw [hq] at hu
      have := hle.2 r hq
      refine (one4_text_bad t a (a + 1) w hT rfl hc r hu).mono ?_
      rintro e w' ⟨⟨f, tx, rfl⟩, hg⟩
      refine ⟨hg, 0, f, tx, ?_⟩
      try simp only
      rw [hl2, show a + (t.length - a - r.length) = t.length - r.length by omega, lxV_zero]; rfl
  · rw [hd, oneP_set, ← hd]
    unfold setP
    have hu : parseP t (a : Int) = classF 0 (t.drop a) := by rw [parseP_eq, if_neg (by omega), Int.toNat_natCast]
    have hle := class_le (t.drop a)
    rw [hlen] at hle ⊢
    cases hq : classF 0 (t.drop a) with
    | ok s r =>
      rw [hq] at hu
      have := hle.1 s r hq
      refine (one4_set_ok t a (a + 1) w hT rfl hc s r hu).mono ?_
      rintro e w' ⟨rfl, hg⟩
      refine ⟨hg, ?_⟩
      simp only
      rw [show a + (t.length - a - r.length) = t.length - r.length by omega]; rfl
    | bad d r =>
      rw [hq] at hu
      have := hle.2 d r hq
      refine (one4_set_bad t a (a + 1) w hT rfl hc d r hu).mono ?_
      rintro e w' ⟨⟨f, tx, rfl⟩, hg⟩
      refine ⟨hg, 0, f, tx, ?_⟩
      try simp only
      rw [show a + (t.length - a - r.length) = t.length - r.length by omega, lxV_zero]
  · rw [hd, oneP_cons, if_neg (by decide), if_neg (by decide), if_neg (by decide), if_neg (by decide), if_neg (by decide), if_neg (by decide), if_neg (by decide), if_pos rfl]
    refine (one4_point t a (a + 1) w hT rfl hc).mono ?_
    rintro e w' ⟨rfl, hg⟩
    exact ⟨hg, rfl⟩
  · rw [hd, oneP_mark _ hb, ← hd]
    split
    · rename_i h0
      refine (one4_mark_bad t a (a + 1) w hT rfl c hc hb h0).mono ?_
      rintro e w' ⟨⟨f, tx, rfl⟩, hg⟩
      refine ⟨hg, 5, f, tx, ?_⟩
      rw [lxV_zero]; rfl
    · rename_i h0
      refine (one4_mark_ok t a (a + 1) w hT rfl c hc hb _ rfl (by omega)).mono ?_
      rintro e w' ⟨rfl, hg⟩
      refine ⟨hg, ?_⟩
      simp only
      rw [lxV_zero]; rfl
theorem owns_put5 {w : World} {B e n k : Nat} {v : Value} {xs : List Value} (h : w.ownsRow B e k v n xs) (b : Nat) (hb : b < B) (v0 v1 v2 v3 v4 : Value) :
    (((((w.setCell ⟨b, 0, none⟩ v0).setCell ⟨b, 1, none⟩ v1).setCell ⟨b, 2, none⟩ v2).setCell ⟨b, 3, none⟩ v3).setCell ⟨b, 4, none⟩ v4).ownsRow B e k v n xs := by
  have hk : Kp b w (((((w.setCell ⟨b, 0, none⟩ v0).setCell ⟨b, 1, none⟩ v1).setCell ⟨b, 2, none⟩ v2).setCell ⟨b, 3, none⟩ v3).setCell ⟨b, 4, none⟩ v4) :=
    (((((Kp.refl b w).at_p 0 v0).at_p 1 v1).at_p 2 v2).at_p 3 v3).at_p 4 v4
  exact owns_kp h hk hb
/-- What the reference's Lex tells. -/
def Lex4Ans (w : World) (x : List Tok × Option (Bool × Nat)) (e : Ending) (w' : World) : Prop :=
  Gr w w' ∧ ∃ v, w'.ownsRow w.heap.size 38 9 v x.1.length (x.1.flatMap tokC) ∧ e = .returned (.tuple #[v, .agg #[.int .i64 (codeO x.2 : Int), .int .i64 0, .int .i64 0, .int .i64 (placeO x.2 : Int), .slice none 0 0]])
theorem is0_any (c : Int) (w : World) : Calls Tryz.prog 9 #[.int .i64 c] w fun e w' => e = .returned (.agg #[.int .i64 c, .int .i64 0, .int .i64 0, .int .i64 0, .slice none 0 0]) ∧ Gr w w' := by
  go_enter Tryz.func9, Tryz.ntmps9
  go_wp2_with fail
  refine bodyPost_ret (v := .agg #[.int .i64 c, .int .i64 0, .int .i64 0, .int .i64 0, .slice none 0 0]) (by simp [results, Tryz.results9, go_sem]) rfl ⟨rfl, Gr.alloc _ _⟩
set_option maxRecDepth 100000 in
set_option maxHeartbeats 4000000 in
/-- A text that is too long. -/
theorem lex4_long (t : List UInt8) (w : World) (hl : (65536 : Int) < (t.length : Int)) :
    Calls Tryz.prog 4 #[.string (st t)] w fun e w' => e = .returned (.tuple #[.slice none 0 0, .agg #[.int .i64 2, .int .i64 0, .int .i64 0, .int .i64 0, .slice none 0 0]]) ∧ Gr w w' := by
  have hsz := st_size t
  go_enter Tryz.func4, Tryz.ntmps4
  go_wp2_with fail
  go_at_call 9
  refine name_calls (fun W hW => ?_)
  have xf : boxAt W w.heap.size [.int .i64 0, .int .i64 0, .int .i64 0, .int .i64 0, .slice none 0 0] := boxAt.new _ _ hW
  have hg : Gr w W := Gr.of_alloc hW
  clear hW
  refine (is0_any 2 W).mono ?_; rintro e w7 ⟨rfl, hb⟩
  replace xf := xf.later hb
  replace hg := hg.trans hb
  have c_f0 := xf.cell 0 _ rfl
  have c_f1 := xf.cell 1 _ rfl
  have c_f2 := xf.cell 2 _ rfl
  have c_f3 := xf.cell 3 _ rfl
  have c_f4 := xf.cell 4 _ rfl
  have m_f0 := xf.mark 0 _ rfl
  have m_f1 := xf.mark 1 _ rfl
  have m_f2 := xf.mark 2 _ rfl
  have m_f3 := xf.mark 3 _ rfl
  have m_f4 := xf.mark 4 _ rfl
  have l_f := xf.lt (Nat.succ_pos _)
  go_wp2_with fail
  refine name_end (fun W9 hW => ?_)
  have y9 : boxAt W9 w.heap.size [.int .i64 2, .int .i64 0, .int .i64 0, .int .i64 0, .slice none 0 0] := by rw [hW]; exact xf.put5 _ _ _ _ _
  have hg9 : Gr w W9 := by rw [hW]; exact Below.put5 hg (Nat.le_refl _) _ _ _ _ _
  clear hW
  have c_y0 := y9.cell 0 _ rfl
  have c_y1 := y9.cell 1 _ rfl
  have c_y2 := y9.cell 2 _ rfl
  have c_y3 := y9.cell 3 _ rfl
  have c_y4 := y9.cell 4 _ rfl
  have m_y0 := y9.mark 0 _ rfl
  have m_y1 := y9.mark 1 _ rfl
  have m_y2 := y9.mark 2 _ rfl
  have m_y3 := y9.mark 3 _ rfl
  have m_y4 := y9.mark 4 _ rfl
  have l_y := y9.lt (Nat.succ_pos _)
  refine bodyPost_ret (v := .tuple #[.slice none 0 0, .agg #[.int .i64 2, .int .i64 0, .int .i64 0, .int .i64 0, .slice none 0 0]]) (by simp [results, Tryz.results4, go_sem, c_y0, c_y1, c_y2, c_y3, c_y4]) rfl ⟨rfl, hg9⟩

set_option maxRecDepth 100000 in
set_option maxHeartbeats 8000000 in
theorem lex4_any (t : List UInt8) (w : World) (hT : (t.length : Int) ≤ 65536) :
    Calls Tryz.prog 4 #[.string (st t)] w (Lex4Ans w (lexF t 0)) := by
  obtain ⟨i0, hi, hz0, hz1, hz2⟩ := info_parts info_lex
  have hsz := st_size t
  obtain ⟨X, hX⟩ : ∃ X, lexF t 0 = X := ⟨_, rfl⟩
  rw [hX]
  have HX := Lib.hid hX
  have HT := Lib.hid hT
  have hTI : ¬ (65536 : Int) < (t.length : Int) := by omega
  clear hX hT
  go_enter Tryz.func4, Tryz.ntmps4
  go_upto_block 0 with fail
  refine name_world (fun W hW => ?_)
  have xf : boxAt W w.heap.size [.int .i64 0, .int .i64 0, .int .i64 0, .int .i64 0, .slice none 0 0] := boxAt.new _ _ hW
  have hg : Gr w W := Gr.of_alloc hW
  clear hW
  go_wp2_with fail
  go_loopw [4, 5] (fun v nx wr => ∃ (n : Nat) (L : List Tok), nx = .int .i64 (n : Int) ∧ n ≤ t.length ∧ L.length ≤ n ∧ Hid (X = (L ++ (lexF (t.drop n) n).1, (lexF (t.drop n) n).2)) ∧ wr.ownsRow (w.heap.size + 1) 38 9 v L.length (L.flatMap tokC) ∧ boxAt wr w.heap.size [.int .i64 0, .int .i64 0, .int .i64 0, .int .i64 0, .slice none 0 0] ∧ Gr w wr) (fun _ nx _ => t.length - (intOf nx).toNat)
  case atStart => exact ⟨0, [], rfl, Nat.zero_le _, Nat.zero_le _, Lib.hid HX.out.symm, World.ownsRow_nil _ _ _ _, xf, hg⟩
  case round =>
    clear xf hg
    obtain ⟨n, L, rfl, hn, hLn, hX, hown, xf, hg⟩ := hrel
    have HO := Lib.hid hown
    obtain ⟨ap, cp, rfl⟩ := (Sl.of_owns hown).len
    clear hown
    cases hc : t[n]? with
    | none =>
      have hnl : n = t.length := by
        rcases Nat.lt_or_ge n t.length with h | h
        · rw [List.getElem?_eq_getElem h] at hc; cases hc
        · omega
      have hnI : ¬ (n : Int) < (t.length : Int) := by omega
      have HXX : Hid (X = (L, none)) := Lib.hid (by rw [hX.out, hnl, List.drop_length, lexF_nil, List.append_nil])
      clear hc hn hnl hLn
      have c_f0 := xf.cell 0 _ rfl
      have c_f1 := xf.cell 1 _ rfl
      have c_f2 := xf.cell 2 _ rfl
      have c_f3 := xf.cell 3 _ rfl
      have c_f4 := xf.cell 4 _ rfl
      have m_f0 := xf.mark 0 _ rfl
      have m_f1 := xf.mark 1 _ rfl
      have m_f2 := xf.mark 2 _ rfl
      have m_f3 := xf.mark 3 _ rfl
      have m_f4 := xf.mark 4 _ rfl
      have l_f := xf.lt (Nat.succ_pos _)
      go_wp2_with fail
      refine name_end (fun W9 hW => ?_)
      have y9 : boxAt W9 w.heap.size [.int .i64 0, .int .i64 0, .int .i64 0, .int .i64 0, .slice none 0 0] := by rw [hW]; exact xf.put5 _ _ _ _ _
      have hg9 : Gr w W9 := by rw [hW]; exact Below.put5 hg (Nat.le_refl _) _ _ _ _ _
      have ho9 : W9.ownsRow (w.heap.size + 1) 38 9 (.slice ap L.length cp) L.length (L.flatMap tokC) := by rw [hW]; exact owns_put5 HO.out w.heap.size (Nat.lt_succ_self _) _ _ _ _ _
      clear hW
      have c_y0 := y9.cell 0 _ rfl
      have c_y1 := y9.cell 1 _ rfl
      have c_y2 := y9.cell 2 _ rfl
      have c_y3 := y9.cell 3 _ rfl
      have c_y4 := y9.cell 4 _ rfl
      have m_y0 := y9.mark 0 _ rfl
      have m_y1 := y9.mark 1 _ rfl
      have m_y2 := y9.mark 2 _ rfl
      have m_y3 := y9.mark 3 _ rfl
      have m_y4 := y9.mark 4 _ rfl
      have l_y := y9.lt (Nat.succ_pos _)
      refine bodyPost_ret (v := .tuple #[.slice ap L.length cp, .agg #[.int .i64 0, .int .i64 0, .int .i64 0, .int .i64 0, .slice none 0 0]]) (by simp [results, Tryz.results4, go_sem, c_y0, c_y1, c_y2, c_y3, c_y4]) rfl ?_
      rw [HXX.out]
      exact ⟨hg9, _, owns_mono ho9 (Nat.le_succ _), rfl⟩
    | some c =>
      have hlt := (List.getElem?_eq_some_iff.1 hc).1
      have hnI : (n : Int) < (t.length : Int) := by omega
      have hix := fun w' => run_at (P := Tryz.prog) w' 9 t n c .i64 Tryz.underlying9 hc
      have hd := drop_at t n c hc
      have hne : t.drop n ≠ [] := by rw [hd]; simp
      obtain ⟨n1, hn1⟩ : ∃ x, n + 1 = x := ⟨_, rfl⟩
      have hw1 : IntKind.i64.wrap ((n : Int) + 1) = (n1 : Int) := by rw [IntWalk.i64_in _ (by omega)]; omega
      have HN1 := Lib.hid (show n + 1 = n1 ∧ n < t.length ∧ L.length ≤ n from ⟨hn1, hlt, hLn⟩)
      cases hbl : blankC c with
      | true =>
        have ho : oneP (t.drop n) = .skip 1 := by rw [hd, oneP_blank _ hbl]
        have hX2 : Hid (X = (L ++ (lexF (t.drop n1) n1).1, (lexF (t.drop n1) n1).2)) := Lib.hid (by rw [hX.out, lexF_skip n ho hne (List.drop_drop ..), hn1])
        have hk := blank_is hbl
        clear hc hn hLn hlt hd hne hn1 ho hbl
        rcases hk with hk | hk | hk
        all_goals
          rw [hk] at hix
          simp only [Int.cast_ofNat_Int] at hix
          clear hk
          go_wp2_with fail
          go_roundw
          case rel => exact ⟨n1, L, rfl, by have := HN1.out; omega, by have := HN1.out; omega, hX2, HO.out, xf, hg⟩
          case measure => have := HN1.out; simp [intOf]; omega
      | false =>
        by_cases h35 : c = 35
        · subst h35
          have ho : oneP (t.drop n) = .skip ((t.drop n).takeWhile notLF).length := by rw [hd, oneP_cons, if_neg (by decide), if_pos rfl]
          obtain ⟨E, hE⟩ : ∃ E, n + ((t.drop n).takeWhile notLF).length = E := ⟨_, rfl⟩
          have hX2 : Hid (X = (L ++ (lexF (t.drop E) E).1, (lexF (t.drop E) E).2)) := Lib.hid (by rw [hX.out, lexF_skip n ho hne (List.drop_drop ..), hE])
          have hEl : E ≤ t.length := by have := (List.takeWhile_prefix notLF (l := t.drop n)).length_le; rw [List.length_drop] at this; omega
          have hEn : n < E := by rw [hd, List.takeWhile_cons, if_pos (by decide), List.length_cons] at hE; omega
          have HE := Lib.hid (show E ≤ t.length ∧ n < E ∧ L.length ≤ n from ⟨hEl, hEn, hLn⟩)
          have HE0 := Lib.hid hE
          simp only [show ((35 : UInt8).toNat : Int) = 35 from rfl] at hix
          clear hc hlt hd hne hn1 ho hbl hE hEl hEn hLn hw1
          go_upto_block 3 with fail
          clear hix
          go_wp2_with fail
          go_loopw [5] (fun jv w2 => ∃ j : Nat, jv = .int .i64 (j : Int) ∧ j ≤ t.length ∧ Hid (j + ((t.drop j).takeWhile notLF).length = E) ∧ w2 = wr) (fun jv _ => t.length - (intOf jv).toNat)
          case atStart => exact ⟨n, rfl, hn, HE0.out, rfl⟩
          case round =>
            clear hn hnI
            obtain ⟨j, rfl, hj, hEj, rfl⟩ := hrel
            cases hcj : t[j]? with
            | none =>
              have hjl : j = t.length := by
                rcases Nat.lt_or_ge j t.length with h | h
                · rw [List.getElem?_eq_getElem h] at hcj; cases hcj
                · omega
              have hjI : ¬ (j : Int) < (t.length : Int) := by omega
              have hEE : E = j := by have := hEj.out; rw [hjl, List.drop_length] at this; simp at this; omega
              clear hcj hjl hj
              subst hEE
              go_wp2_with fail
              go_roundw
              case rel => exact ⟨E, L, rfl, HE.out.1, by have := HE.out; omega, hX2, HO.out, xf, hg⟩
              case measure => have := HE.out; simp [intOf]; omega
            | some d =>
              have hjl : j < t.length := (List.getElem?_eq_some_iff.1 hcj).1
              have hjI : (j : Int) < (t.length : Int) := by omega
              have hjx := fun w' => run_at (P := Tryz.prog) w' 9 t j d .i64 Tryz.underlying9 hcj
              have hdj := drop_at t j d hcj
              obtain ⟨j1, hj1⟩ : ∃ x, j + 1 = x := ⟨_, rfl⟩
              have hwj : IntKind.i64.wrap ((j : Int) + 1) = (j1 : Int) := by rw [IntWalk.i64_in _ (by have := HT.out; omega)]; omega
              have HJ := Lib.hid (show j + 1 = j1 ∧ j < t.length from ⟨hj1, hjl⟩)
              rw [hj1] at hdj
              by_cases hd10 : d = 10
              · subst hd10
                have hEE : E = j := by have := hEj.out; rw [hdj, List.takeWhile_cons, if_neg (by decide)] at this; simp at this; omega
                simp only [show ((10 : UInt8).toNat : Int) = 10 from rfl] at hjx
                clear hcj hjl hj hj1 hdj
                subst hEE
                go_wp2_with fail
                go_roundw
                case rel => exact ⟨E, L, rfl, HE.out.1, by have := HE.out; omega, hX2, HO.out, xf, hg⟩
                case measure => have := HE.out; simp [intOf]; omega
              · have hEj1 : Hid (j1 + ((t.drop j1).takeWhile notLF).length = E) := Lib.hid (by
                  have := hEj.out
                  rw [hdj, List.takeWhile_cons, if_pos (by unfold notLF; simp [hd10]), List.length_cons] at this; omega)
                have e10 : ((d.toNat : Int) != 10) = true := by
                  rw [bne_iff_ne]; intro h; exact hd10 ((u8_eq d 10 (by omega)).2 (by omega))
                clear hcj hjl hj hj1 hdj hd10
                go_wp2_with fail
                go_roundw
                case rel => exact ⟨j1, rfl, by have := HJ.out; omega, hEj1, trivial⟩
                case measure => have := HJ.out; simp [intOf]; omega
        · have hC := Lib.hid (fun W => one4_any t n c W (by have := HT.out; omega) hc hbl h35)
          obtain ⟨k, hk⟩ : ∃ k, c.toNat = k := ⟨_, rfl⟩
          have hnb : ¬ k = 32 ∧ ¬ k = 9 ∧ ¬ k = 13 := by
            rw [← hk]; rw [blank_eq] at hbl; simp at hbl; exact ⟨hbl.1.1, hbl.1.2, hbl.2⟩
          have h35k : ¬ k = 35 := fun h => h35 ((u8_eq c 35 (by omega)).2 (by omega))
          have e32 : ((k : Int) == 32) = false := by rw [beq_eq_false_iff_ne]; omega
          have e9 : ((k : Int) == 9) = false := by rw [beq_eq_false_iff_ne]; omega
          have e13 : ((k : Int) == 13) = false := by rw [beq_eq_false_iff_ne]; omega
          have e35 : ((k : Int) == 35) = false := by rw [beq_eq_false_iff_ne]; omega
          rw [hk] at hix
          cases ho : oneP (t.drop n) with
          | skip k' =>
            rcases oneP_skip ho with ⟨h, _⟩ | ⟨c', y, h, h2, _⟩ | ⟨p, y, h, _⟩
            · exact absurd h hne
            · rw [hd] at h; injection h with h _; subst h; rw [hbl] at h2; cases h2
            · rw [hd] at h; injection h with h _; exact absurd h h35
          | tok kd q tx m s =>
            obtain ⟨p, y, hp1, hp2, hP, _⟩ := oneP_app ho
            have hq1 : 1 ≤ q := by rw [← hp2]; exact hP.pos
            have hq2 : n + q ≤ t.length := by have := congrArg List.length hp1; rw [List.length_drop, List.length_append] at this; omega
            obtain ⟨n2, hn2⟩ : ∃ x, n + q = x := ⟨_, rfl⟩
            have hX2 : Hid (X = ((L ++ [⟨kd, n, n2, tx, m, s⟩]) ++ (lexF (t.drop n2) n2).1, (lexF (t.drop n2) n2).2)) := Lib.hid (by rw [hX.out, lexF_tok n ho (List.drop_drop ..), List.append_assoc, hn2]; rfl)
            have HC : Hid (∀ W, Calls Tryz.prog 10 #[.string (st t), .int .i64 (n : Int)] W fun e w' => e = .returned (.tuple #[.agg #[.int .i64 kd, .int .i64 (n : Int), .int .i64 (n2 : Int), .string (st tx), .int .i64 m, .int .u64 (wd s 0), .int .u64 (wd s 1), .int .u64 (wd s 2), .int .u64 (wd s 3)], .agg #[.int .i64 0, .int .i64 0, .int .i64 0, .int .i64 0, .slice none 0 0]]) ∧ Gr W w') := fun W => by
              have := hC.out W
              rw [ho] at this
              refine this.mono ?_
              rintro e w' ⟨hg, h⟩
              simp only [hn2] at h
              exact ⟨h, hg⟩
            have HN2 := Lib.hid (show n < n2 ∧ n2 ≤ t.length ∧ L.length + 1 ≤ n2 from by omega)
            clear hc hn hLn hlt hd hne hn1 hw1 ho hbl h35 hk hnb h35k hC hp1 hp2 hP hq1 hq2 hn2
            go_wp2_with first
              | (go_at_call 10; (with_reducible refine (HC.out _).mono ?_); rintro e w2 ⟨rfl, hb⟩)
              | (at_builtin; refine wpList_append_own _ rfl (.tmp 27) (.tmp 29) 23 rfl (w.heap.size + 1) 38 i0 (.agg #[.int .i64 0, .int .i64 0, .int .i64 0, .string { data := #[] }, .int .i64 0, .int .u64 0, .int .u64 0, .int .u64 0, .int .u64 0]) 9 80 Tryz.underlying23 hi hz0 hz1 hz2 rfl (by decide) _ _ _ rfl ((((owns_later HO.out hb).alloc _).alloc _).alloc _) ⟨w2.heap.size + 1 + 1, 0, none⟩ 1 1 (lxC kd n n2 (st tx) m s) rfl rfl ?c1 ?c2 ?c3 ?c4 ?c5 ?_)
            case c1 => exact new_cells' _ _ _ _ (by simp)
            case c2 => exact lxC_one _ _ _ _ _ _
            case c3 => have := HN2.out; have := HT.out; unfold maxLen; omega
            case c4 => have := HN2.out; have := HT.out; omega
            case c5 => have := (hg.trans hb).size; simp; omega
            intro v3 W3 hown3 hgrow _
            obtain ⟨WA, hgrow', hgA⟩ : ∃ WA, World.grownBy WA W3 _ ∧ Gr wr WA := ⟨_, hgrow, ((hb.trans (Gr.alloc w2 _)).trans (Gr.alloc _ _)).trans (Gr.alloc _ _)⟩
            have hg3 : Gr w W3 := Gr.grown (hg.trans hgA) hgrow' (fun g hgb => by have := (World.ownsRow.lt HO.out g hgb).1; omega)
            have xf3 : boxAt W3 w.heap.size [.int .i64 0, .int .i64 0, .int .i64 0, .int .i64 0, .slice none 0 0] := boxAt.grown (xf.later hgA) hgrow' (by simp) (fun e => by have := (World.ownsRow.lt HO.out _ e).1; omega)
            have hown3' : W3.ownsRow (w.heap.size + 1) 38 9 v3 (L ++ [(⟨kd, n, n2, tx, m, s⟩ : Tok)]).length ((L ++ [(⟨kd, n, n2, tx, m, s⟩ : Tok)]).flatMap tokC) := by
              rw [List.length_append, List.flatMap_append, List.flatMap_singleton]; exact hown3
            have xx3 : boxAt W3 w2.heap.size (lxC kd n n2 (st tx) m s) := by
              refine boxAt.grown ?_ hgrow (by simp [lxC]) (fun e => by have := (World.ownsRow.lt (owns_later HO.out hb) _ e).2; omega)
              exact boxAt.later (boxAt.new (w := w2) (lxC kd n n2 (st tx) m s) 38 rfl) ((Gr.alloc _ _).trans (Gr.alloc _ _))
            have c_q2 : W3.cell? ⟨w2.heap.size, 2, none⟩ = some (.int .i64 (n2 : Int)) := xx3.cell 2 _ rfl
            have l_q : w2.heap.size < W3.heap.size := xx3.lt (by simp [lxC])
            clear hown3 hgrow hgrow' hgA xx3 e32 e9 e13 e35 hix hnI
            go_wp2_with fail
            go_roundw
            case rel => exact ⟨n2, L ++ [⟨kd, n, n2, tx, m, s⟩], rfl, HN2.out.2.1, by rw [List.length_append]; exact HN2.out.2.2, hX2, hown3', xf3, hg3⟩
            case measure => have := HN2.out; simp [intOf]; omega
          | bad d q =>
            have hXX : Hid (X = (L, some (d, n + q))) := Lib.hid (by rw [hX.out, lexF_bad n ho, List.append_nil])
            obtain ⟨cd, hcd⟩ : ∃ x, codeB d = x := ⟨_, rfl⟩
            have hcd0 : ((cd : Int) != 0) = true := by rw [bne_iff_ne]; have := (codeB_is d).1; omega
            obtain ⟨E, hE⟩ : ∃ E, n + q = E := ⟨_, rfl⟩
            have HCD := Lib.hid (And.intro hcd hE)
            have HC : Hid (∀ W, Calls Tryz.prog 10 #[.string (st t), .int .i64 (n : Int)] W fun e w' => (∃ (kd f : Int) (tx : ByteArray), e = .returned (.tuple #[.agg #[.int .i64 kd, .int .i64 (n : Int), .int .i64 f, .string tx, .int .i64 0, .int .u64 0, .int .u64 0, .int .u64 0, .int .u64 0], .agg #[.int .i64 (cd : Int), .int .i64 0, .int .i64 0, .int .i64 (E : Int), .slice none 0 0]])) ∧ Gr W w') := fun W => by
              have := hC.out W
              rw [ho] at this
              refine this.mono ?_
              rintro e w' ⟨hg, kd, f, tx, h⟩
              rw [hcd, hE, lxV_zero] at h
              exact ⟨⟨kd, f, tx, h⟩, hg⟩
            clear hc hn hLn hlt hd hne hn1 hw1 ho hbl h35 hk hnb h35k hC hcd hE
            go_wp2_with fail
            go_at_call 10
            refine (HC.out _).mono ?_; rintro e w2 ⟨⟨kd, f, tx, rfl⟩, hb⟩
            have HO2 := Lib.hid (owns_later HO.out hb)
            replace xf := xf.later hb
            replace hg := hg.trans hb
            clear hb e32 e9 e13 e35 hix hnI HO
            go_upto_region 8 with fail
            refine name_world (fun W3 hW => ?_)
            obtain ⟨_, xn, hb, _⟩ : boxAt W3 w2.heap.size [.int .i64 kd, .int .i64 (n : Int), .int .i64 f, .string tx, .int .i64 0, .int .u64 0, .int .u64 0, .int .u64 0, .int .u64 0] ∧ boxAt W3 (w2.heap.size + 1) [.int .i64 (cd : Int), .int .i64 0, .int .i64 0, .int .i64 (E : Int), .slice none 0 0] ∧ Gr w2 W3 ∧ W3.heap.size = w2.heap.size + 2 := by subst hW; exact boxes2 _ _ _ _ _
            have HO3 := Lib.hid (owns_later HO2.out hb)
            replace xf := xf.later hb
            replace hg := hg.trans hb
            clear hb hW HO2
            have c_f0 := xf.cell 0 _ rfl
            have c_f1 := xf.cell 1 _ rfl
            have c_f2 := xf.cell 2 _ rfl
            have c_f3 := xf.cell 3 _ rfl
            have c_f4 := xf.cell 4 _ rfl
            have m_f0 := xf.mark 0 _ rfl
            have m_f1 := xf.mark 1 _ rfl
            have m_f2 := xf.mark 2 _ rfl
            have m_f3 := xf.mark 3 _ rfl
            have m_f4 := xf.mark 4 _ rfl
            have l_f := xf.lt (Nat.succ_pos _)
            have c_n0 := xn.cell 0 _ rfl
            have c_n1 := xn.cell 1 _ rfl
            have c_n2 := xn.cell 2 _ rfl
            have c_n3 := xn.cell 3 _ rfl
            have c_n4 := xn.cell 4 _ rfl
            have m_n0 := xn.mark 0 _ rfl
            have m_n1 := xn.mark 1 _ rfl
            have m_n2 := xn.mark 2 _ rfl
            have m_n3 := xn.mark 3 _ rfl
            have m_n4 := xn.mark 4 _ rfl
            have l_n := xn.lt (Nat.succ_pos _)
            go_region_with fail
            all_goals
              go_wp2
              refine name_end (fun W9 hW => ?_)
              have y9 : boxAt W9 w.heap.size [.int .i64 (cd : Int), .int .i64 0, .int .i64 0, .int .i64 (E : Int), .slice none 0 0] := by rw [hW]; exact boxAt.later (xf.put5 _ _ _ _ _) (Gr.drew _)
              have hg9 : Gr w W9 := by rw [hW]; exact Gr.trans (Below.put5 hg (Nat.le_refl _) _ _ _ _ _) (Gr.drew _)
              have ho9 : W9.ownsRow (w.heap.size + 1) 38 9 (.slice ap L.length cp) L.length (L.flatMap tokC) := by rw [hW]; exact owns_later (owns_put5 HO3.out w.heap.size (Nat.lt_succ_self _) _ _ _ _ _) (Gr.drew _)
              clear hW
              have c_y0 := y9.cell 0 _ rfl
              have c_y1 := y9.cell 1 _ rfl
              have c_y2 := y9.cell 2 _ rfl
              have c_y3 := y9.cell 3 _ rfl
              have c_y4 := y9.cell 4 _ rfl
              have m_y0 := y9.mark 0 _ rfl
              have m_y1 := y9.mark 1 _ rfl
              have m_y2 := y9.mark 2 _ rfl
              have m_y3 := y9.mark 3 _ rfl
              have m_y4 := y9.mark 4 _ rfl
              have l_y := y9.lt (Nat.succ_pos _)
              refine bodyPost_ret (v := .tuple #[.slice ap L.length cp, .agg #[.int .i64 (cd : Int), .int .i64 0, .int .i64 0, .int .i64 (E : Int), .slice none 0 0]]) (by simp [results, Tryz.results4, go_sem, c_y0, c_y1, c_y2, c_y3, c_y4]) rfl ?_
              rw [hXX.out, ← HCD.out.1, ← HCD.out.2]
              exact ⟨hg9, _, owns_mono ho9 (Nat.le_succ _), rfl⟩

end Go.Proofs.YtdjankfcmoblhaaGreatDoor
