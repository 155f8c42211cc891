/- class: escape. No condition but a length's bound. -/
import Derived.Test.YtihjmeoklbmnmaaDoorPKp
namespace Go.Proofs.YtihjmeoklbmnmaaDoor
open Go Go.RowKit

/-- How an escape ends. -/
def EscEnd (es : Value) (p k : Nat) (t : List UInt8) (w : World) (e : Ending) (w' : World) : Prop :=
  Kp p w w' ∧ match escP (t.drop (k + 1)) with
    | some (v, r) => e = .returned (.tuple #[.int .u8 (v.toNat : Int), .nilIface]) ∧ Rdr w' p t (t.length - r.length)
    | none => ∃ er, e = .returned (.tuple #[.int .u8 0, er]) ∧ Refused w' w.heap.size es er (k : Int) ∧ Any w' p t
theorem EscEnd.ok {es : Value} {p k j : Nat} {t : List UInt8} {w w' : World} {v : UInt8} (he : escP (t.drop (k + 1)) = some (v, t.drop j)) (hj : j ≤ t.length) (hK : Kp p w w') (hR : Rdr w' p t j) :
    EscEnd es p k t w (.returned (.tuple #[.int .u8 (v.toNat : Int), .nilIface])) w' := by
  refine ⟨hK, ?_⟩
  rw [he]
  refine ⟨rfl, ?_⟩
  rw [List.length_drop, show t.length - (t.length - j) = j by omega]; exact hR
theorem EscEnd.bad {es er : Value} {p k : Nat} {t : List UInt8} {w w1 w' : World} (he : escP (t.drop (k + 1)) = none) (hK : Kp p w w1) (hg : Gr w1 w') (hR : Refused w' w1.heap.size es er (k : Int)) (hA : Any w1 p t) :
    EscEnd es p k t w (.returned (.tuple #[.int .u8 0, er])) w' := by
  refine ⟨hK.trans (Kp.gr hg), ?_⟩
  rw [he]
  exact ⟨er, rfl, hR.mono hK.size, hA.later hg⟩
theorem drop_at (t : List UInt8) (k : Nat) (c : UInt8) (h : t[k]? = some c) : t.drop k = c :: t.drop (k + 1) := by
  obtain ⟨hl, rfl⟩ := List.getElem?_eq_some_iff.1 h
  exact List.drop_eq_getElem_cons hl
theorem letter_none (c : UInt8) (h114 : ¬ c.toNat = 114) (h102 : ¬ c.toNat = 102) (h118 : ¬ c.toNat = 118) (h110 : ¬ c.toNat = 110) (h116 : ¬ c.toNat = 116) (h98 : ¬ c.toNat = 98) (h97 : ¬ c.toNat = 97) (h101 : ¬ c.toNat = 101) (h48 : ¬ c.toNat = 48) : letterL c = none := by
  have eq : ∀ k, k < 256 → ¬ c.toNat = k → ¬ c = UInt8.ofNat k := fun k hk h e => h ((u8_eq c k hk).1 e)
  unfold letterL
  rw [if_neg (show ¬ c = 114 from eq 114 (by omega) h114), if_neg (show ¬ c = 102 from eq 102 (by omega) h102), if_neg (show ¬ c = 118 from eq 118 (by omega) h118), if_neg (show ¬ c = 110 from eq 110 (by omega) h110), if_neg (show ¬ c = 116 from eq 116 (by omega) h116), if_neg (show ¬ c = 98 from eq 98 (by omega) h98), if_neg (show ¬ c = 97 from eq 97 (by omega) h97), if_neg (show ¬ c = 101 from eq 101 (by omega) h101), if_neg (show ¬ c = 48 from eq 48 (by omega) h48)]
theorem hex_or (a b : UInt8) (ha : nibL a < 16) (hb : nibL b < 16) : bits .or .u8 ((nibL a : Int) * 16) (nibL b : Int) = ((UInt8.ofNat (16 * nibL a + nibL b)).toNat : Int) := by
  rw [UInt8.toNat_ofNat_of_lt' (by show _ < 256; omega)]
  have : ∀ (x y : Fin 16), bits .or .u8 (((x.1 : Nat) : Int) * 16) ((y.1 : Nat) : Int) = ((16 * x.1 + y.1 : Nat) : Int) := by decide
  exact this ⟨_, ha⟩ ⟨_, hb⟩

set_option maxRecDepth 100000 in
set_option maxHeartbeats 8000000 in
theorem escape_any (p k : Nat) (t : List UInt8) (es ed : Value) (w : World) (h : Rdr w p t k) (hk : k < t.length) (hT : (t.length : Int) ≤ 4294967280) (hS : Sy w p es ed) :
    Calls Tryd.prog 34 #[.pointer (some ⟨p, 0, none⟩)] w (EscEnd es p k t w) := by
  obtain ⟨k1, hk1⟩ : ∃ x, k + 1 = x := ⟨_, rfl⟩
  obtain ⟨k2, hk2⟩ : ∃ x, k + 2 = x := ⟨_, rfl⟩
  obtain ⟨k4, hk4⟩ : ∃ x, k + 4 = x := ⟨_, rfl⟩
  have hw1 : IntKind.i64.wrap ((k : Int) + 1) = (k1 : Int) := by rw [IntWalk.i64_in _ (by omega)]; omega
  have hw2 : IntKind.i64.wrap ((k1 : Int) + 1) = (k2 : Int) := by rw [IntWalk.i64_in _ (by omega)]; omega
  have hw4 : IntKind.i64.wrap ((k2 : Int) + 2) = (k4 : Int) := by rw [IntWalk.i64_in _ (by omega)]; omega
  have HK := Lib.hid (show k + 1 = k1 ∧ k + 2 = k2 ∧ k + 4 = k4 ∧ k < t.length from ⟨hk1, hk2, hk4, hk⟩)
  have hS' := Lib.hid hS
  have H0 := Lib.hid h
  have c0 := boxAt.cell h 0 _ rfl
  have c1 := boxAt.cell h 1 _ rfl
  have m1 := boxAt.mark h 1 _ rfl
  have lp := boxAt.lt h (Nat.succ_pos _)
  clear hk1 hk2 hk4 hS h hk
  go_enter Tryd.func34, Tryd.ntmps34
  go_wp2_with fail
  go_at_call 32
  refine name_calls (fun W hW => ?_)
  have hR1 : Rdr W p t k1 := by rw [hW]; exact boxAt.put H0.out 1 _ (by simp)
  have hK1 : Kp p w W := by rw [hW]; exact (Kp.refl _ _).at_p 1 _
  clear hW c0 c1 m1
  cases hc : t[k1]? with
  | none =>
    have hl : t.length ≤ k1 := by
      rcases Nat.lt_or_ge k1 t.length with h | h
      · rw [List.getElem?_eq_getElem h] at hc; cases hc
      · exact h
    refine (here_none p k1 t W hR1 hl).mono ?_; rintro e w1 ⟨rfl, hg⟩
    replace hK1 := hK1.trans (Kp.gr hg)
    have hS1 := Lib.hid (hS'.out.kept hK1)
    have lp1 : p < w1.heap.size := by have := hK1.size; omega
    have hA : Any w1 p t := ⟨_, boxAt.later hR1 hg⟩
    clear hg
    go_wp2_with (go_at_call 33; (with_reducible refine (syntax_any _ p es ed _ hS1.out lp1).mono ?_); rintro e w2 ⟨er, rfl, hr, hg2⟩)
    refine bodyPost_ret (v := .tuple #[.int .u8 0, er]) (by simp [results, Tryd.results34, go_sem]) rfl ?_
    refine EscEnd.bad ?_ hK1 hg2 hr hA
    rw [HK.out.1, List.drop_of_length_le hl]; rfl
  | some c =>
    have hl : k1 < t.length := (List.getElem?_eq_some_iff.1 hc).1
    have hd : escP (t.drop (k + 1)) = escP (c :: t.drop k2) := by
      have := HK.out
      rw [this.1, drop_at t k1 c hc, show k1 + 1 = k2 by omega]
    have HD := Lib.hid hd
    have HL := Lib.hid hl
    refine (here_some p k1 t c W hR1 hc).mono ?_; rintro e w1 ⟨rfl, hg⟩
    replace hK1 := hK1.trans (Kp.gr hg)
    have hR2 : Rdr w1 p t k1 := boxAt.later hR1 hg
    have HR2 := Lib.hid hR2
    have c0 := boxAt.cell hR2 0 _ rfl
    have c1 := boxAt.cell hR2 1 _ rfl
    have m1 := boxAt.mark hR2 1 _ rfl
    have lp1 : p < w1.heap.size := by have := hK1.size; omega
    have HK1 := Lib.hid hK1
    have HE : Hid (∀ v : UInt8, letterL c = some v → ∀ W2, W2 = w1.setCell ⟨p, 1, none⟩ (.int .i64 (k2 : Int)) → EscEnd es p k t w (.returned (.tuple #[.int .u8 (v.toNat : Int), .nilIface])) W2) := by
      intro v hv W2 hW2
      rw [hW2]
      refine EscEnd.ok (j := k2) ?_ (by have := HK.out; have := HL.out; omega) (HK1.out.at_p 1 _) (boxAt.put HR2.out 1 _ (by simp))
      rw [HD.out, escP_cons, hv]
    have hc256 := c.toNat_lt
    clear hd hg hR1 hR2 hK1 hl
    by_cases h114 : c.toNat = 114
    · obtain rfl : c = 114 := (u8_eq c 114 (by omega)).2 h114
      have hv : (((114 : UInt8).toNat : Nat) : Int) = 114 := rfl
      rw [hv]
      clear hc hc256 h114
      go_wp2_with fail
      refine bodyPost_ret (v := .tuple #[.int .u8 13, .nilIface]) (by simp [results, Tryd.results34, go_sem]) rfl ?_
      exact HE.out 13 rfl _ rfl
    have e114 : ((c.toNat : Int) == 114) = false := by simp; omega
    by_cases h102 : c.toNat = 102
    · obtain rfl : c = 102 := (u8_eq c 102 (by omega)).2 h102
      have hv : (((102 : UInt8).toNat : Nat) : Int) = 102 := rfl
      rw [hv]
      clear hc hc256 h102
      go_wp2_with fail
      refine bodyPost_ret (v := .tuple #[.int .u8 12, .nilIface]) (by simp [results, Tryd.results34, go_sem]) rfl ?_
      exact HE.out 12 rfl _ rfl
    have e102 : ((c.toNat : Int) == 102) = false := by simp; omega
    by_cases h118 : c.toNat = 118
    · obtain rfl : c = 118 := (u8_eq c 118 (by omega)).2 h118
      have hv : (((118 : UInt8).toNat : Nat) : Int) = 118 := rfl
      rw [hv]
      clear hc hc256 h118
      go_wp2_with fail
      refine bodyPost_ret (v := .tuple #[.int .u8 11, .nilIface]) (by simp [results, Tryd.results34, go_sem]) rfl ?_
      exact HE.out 11 rfl _ rfl
    have e118 : ((c.toNat : Int) == 118) = false := by simp; omega
    by_cases h110 : c.toNat = 110
    · obtain rfl : c = 110 := (u8_eq c 110 (by omega)).2 h110
      have hv : (((110 : UInt8).toNat : Nat) : Int) = 110 := rfl
      rw [hv]
      clear hc hc256 h110
      go_wp2_with fail
      refine bodyPost_ret (v := .tuple #[.int .u8 10, .nilIface]) (by simp [results, Tryd.results34, go_sem]) rfl ?_
      exact HE.out 10 rfl _ rfl
    have e110 : ((c.toNat : Int) == 110) = false := by simp; omega
    by_cases h116 : c.toNat = 116
    · obtain rfl : c = 116 := (u8_eq c 116 (by omega)).2 h116
      have hv : (((116 : UInt8).toNat : Nat) : Int) = 116 := rfl
      rw [hv]
      clear hc hc256 h116
      go_wp2_with fail
      refine bodyPost_ret (v := .tuple #[.int .u8 9, .nilIface]) (by simp [results, Tryd.results34, go_sem]) rfl ?_
      exact HE.out 9 rfl _ rfl
    have e116 : ((c.toNat : Int) == 116) = false := by simp; omega
    by_cases h98 : c.toNat = 98
    · obtain rfl : c = 98 := (u8_eq c 98 (by omega)).2 h98
      have hv : (((98 : UInt8).toNat : Nat) : Int) = 98 := rfl
      rw [hv]
      clear hc hc256 h98
      go_wp2_with fail
      refine bodyPost_ret (v := .tuple #[.int .u8 8, .nilIface]) (by simp [results, Tryd.results34, go_sem]) rfl ?_
      exact HE.out 8 rfl _ rfl
    have e98 : ((c.toNat : Int) == 98) = false := by simp; omega
    by_cases h97 : c.toNat = 97
    · obtain rfl : c = 97 := (u8_eq c 97 (by omega)).2 h97
      have hv : (((97 : UInt8).toNat : Nat) : Int) = 97 := rfl
      rw [hv]
      clear hc hc256 h97
      go_wp2_with fail
      refine bodyPost_ret (v := .tuple #[.int .u8 7, .nilIface]) (by simp [results, Tryd.results34, go_sem]) rfl ?_
      exact HE.out 7 rfl _ rfl
    have e97 : ((c.toNat : Int) == 97) = false := by simp; omega
    by_cases h101 : c.toNat = 101
    · obtain rfl : c = 101 := (u8_eq c 101 (by omega)).2 h101
      have hv : (((101 : UInt8).toNat : Nat) : Int) = 101 := rfl
      rw [hv]
      clear hc hc256 h101
      go_wp2_with fail
      refine bodyPost_ret (v := .tuple #[.int .u8 27, .nilIface]) (by simp [results, Tryd.results34, go_sem]) rfl ?_
      exact HE.out 27 rfl _ rfl
    have e101 : ((c.toNat : Int) == 101) = false := by simp; omega
    by_cases h48 : c.toNat = 48
    · obtain rfl : c = 48 := (u8_eq c 48 (by omega)).2 h48
      have hv : (((48 : UInt8).toNat : Nat) : Int) = 48 := rfl
      rw [hv]
      clear hc hc256 h48
      go_wp2_with fail
      refine bodyPost_ret (v := .tuple #[.int .u8 0, .nilIface]) (by simp [results, Tryd.results34, go_sem]) rfl ?_
      exact HE.out 0 rfl _ rfl
    have e48 : ((c.toNat : Int) == 48) = false := by simp; omega
    have hln := letter_none c h114 h102 h118 h110 h116 h98 h97 h101 h48
    have HLN := Lib.hid hln
    clear hln HE h114 h102 h118 h110 h116 h98 h97 h101 h48
    by_cases h120 : c.toNat = 120
    · obtain rfl : c = 120 := (u8_eq c 120 (by omega)).2 h120
      have hv : (((120 : UInt8).toNat : Nat) : Int) = 120 := rfl
      rw [hv]
      clear hc hc256 h120 e114 e102 e118 e110 e116 e98 e97 e101 e48
      have hk2l : k2 ≤ t.length := by have := HK.out; have := HL.out; omega
      have hsl := fun w' => run_from (P := Tryd.prog) w' 9 t k2 .i64 Tryd.underlying9 hk2l
      have hd2 : escP (t.drop (k + 1)) = escP (120 :: t.drop k2) := HD.out
      obtain ⟨l, hl⟩ : ∃ l, t.drop k2 = l := ⟨_, rfl⟩
      rw [hl] at hsl hd2
      have hll : l.length = t.length - k2 := by rw [← hl, List.length_drop]
      have HD2 := Lib.hid hd2
      have HLL := Lib.hid (show t.drop k2 = l ∧ l.length = t.length - k2 ∧ k2 ≤ t.length from ⟨hl, hll, hk2l⟩)
      clear hd2 hl hll hk2l
      go_wp2_with fail
      refine name_world (fun W3 hW3 => ?_)
      have hR3 : Rdr W3 p t k2 := by rw [hW3]; exact boxAt.put HR2.out 1 _ (by simp)
      have hK3 : Kp p w W3 := by rw [hW3]; exact HK1.out.at_p 1 _
      clear hW3 c0 c1 m1
      have c0 := boxAt.cell hR3 0 _ rfl
      have c1 := boxAt.cell hR3 1 _ rfl
      have lp3 := boxAt.lt hR3 (Nat.succ_pos _)
      rcases l with _ | ⟨a, _ | ⟨b, r⟩⟩
      ·
        have hsz : (st []).size = 0 := rfl
        have HB : Hid (escP (t.drop (k + 1)) = none) := by rw [HD2.out]; rfl
        refine wp_region_G (.take 0 (.take 1 (.take 2 (.take 3 (.take 4 (.take 5 (.take 6 (.take 7 (.take 8 (.run 9 true .nil)))))))))) (by kernel_rfl) (by kernel_rfl) ?_
        simp only [pickOps, nthOp]
        intro wq hG
        repeat (first | (refine wpG_skip_take ?_ ?_; (focus rfl); try simp only [Act.put, List.setIfInBounds_toArray, List.set_cons_zero, List.set_cons_succ]) | (refine wpG_skip_run ?_ ?_; (focus rfl); try simp only [Act.put, List.setIfInBounds_toArray, List.set_cons_zero, List.set_cons_succ]) | (refine wpG_take ?_ ?_; (focus rfl); apply Exists.intro; refine ⟨fun w' hw' => ?_, ?_⟩; (focus (have hc := Gr.cells hw'; go_simp; (try rfl); done)); try simp only [Act.put, List.setIfInBounds_toArray, List.set_cons_zero, List.set_cons_succ]))
        refine wpG_last ?_ (fun K hK => ?_); (focus rfl)
        have hc := hG.cells
        have hm := hG.marks
        go_simp
        refine hK.out _ _ ?_
        try simp only [Act.put, List.setIfInBounds_toArray, List.set_cons_zero, List.set_cons_succ]
        clear hK K hc hm
        refine wpG_done ?_
        replace hK3 := hK3.trans (Kp.gr hG)
        have hS3 := Lib.hid (hS'.out.kept hK3)
        have hA : Any wq p t := ⟨_, boxAt.later hR3 hG⟩
        have lp4 : p < wq.heap.size := by have := hK3.size; omega
        clear hG hsl
        go_wp2_with (go_at_call 33; (with_reducible refine (syntax_any _ p es ed _ hS3.out lp4).mono ?_); rintro e w2 ⟨er, rfl, hr, hg2⟩)
        refine bodyPost_ret (v := .tuple #[.int .u8 0, er]) (by simp [results, Tryd.results34, go_sem]) rfl ?_
        exact EscEnd.bad HB.out hK3 hg2 hr hA
      ·
        have hsz : (st [a]).size = 1 := rfl
        have HB : Hid (escP (t.drop (k + 1)) = none) := by rw [HD2.out]; rfl
        refine wp_region_G (.take 0 (.take 1 (.take 2 (.take 3 (.take 4 (.take 5 (.take 6 (.take 7 (.take 8 (.run 9 true .nil)))))))))) (by kernel_rfl) (by kernel_rfl) ?_
        simp only [pickOps, nthOp]
        intro wq hG
        repeat (first | (refine wpG_skip_take ?_ ?_; (focus rfl); try simp only [Act.put, List.setIfInBounds_toArray, List.set_cons_zero, List.set_cons_succ]) | (refine wpG_skip_run ?_ ?_; (focus rfl); try simp only [Act.put, List.setIfInBounds_toArray, List.set_cons_zero, List.set_cons_succ]) | (refine wpG_take ?_ ?_; (focus rfl); apply Exists.intro; refine ⟨fun w' hw' => ?_, ?_⟩; (focus (have hc := Gr.cells hw'; go_simp; (try rfl); done)); try simp only [Act.put, List.setIfInBounds_toArray, List.set_cons_zero, List.set_cons_succ]))
        refine wpG_last ?_ (fun K hK => ?_); (focus rfl)
        have hc := hG.cells
        have hm := hG.marks
        go_simp
        refine hK.out _ _ ?_
        try simp only [Act.put, List.setIfInBounds_toArray, List.set_cons_zero, List.set_cons_succ]
        clear hK K hc hm
        refine wpG_done ?_
        replace hK3 := hK3.trans (Kp.gr hG)
        have hS3 := Lib.hid (hS'.out.kept hK3)
        have hA : Any wq p t := ⟨_, boxAt.later hR3 hG⟩
        have lp4 : p < wq.heap.size := by have := hK3.size; omega
        clear hG hsl
        go_wp2_with (go_at_call 33; (with_reducible refine (syntax_any _ p es ed _ hS3.out lp4).mono ?_); rintro e w2 ⟨er, rfl, hr, hg2⟩)
        refine bodyPost_ret (v := .tuple #[.int .u8 0, er]) (by simp [results, Tryd.results34, go_sem]) rfl ?_
        exact EscEnd.bad HB.out hK3 hg2 hr hA
      ·
        obtain ⟨n, hn⟩ : ∃ n, (a :: b :: r).length = n := ⟨_, rfl⟩
        have hsz : (st (a :: b :: r)).size = n := by rw [st_size, hn]
        have hnI : (1 : Int) < (n : Int) := by rw [← hn]; simp; omega
        have hx0 : ∀ w' : World, (Instr.index 9 (.string (st (a :: b :: r))) (.int .i64 0)).run Tryd.prog w' = .ok (.int .u8 (a.toNat : Int)) w' := fun w' => run_at (P := Tryd.prog) w' 9 (a :: b :: r) 0 a .i64 Tryd.underlying9 rfl
        have hx1 : ∀ w' : World, (Instr.index 9 (.string (st (a :: b :: r))) (.int .i64 1)).run Tryd.prog w' = .ok (.int .u8 (b.toNat : Int)) w' := fun w' => run_at (P := Tryd.prog) w' 9 (a :: b :: r) 1 b .i64 Tryd.underlying9 rfl
        clear hn
        by_cases hna : nibL a < 16 ∧ nibL b < 16
        · have HB : Hid (escP (t.drop (k + 1)) = some (UInt8.ofNat (16 * nibL a + nibL b), t.drop k4)) := by
            refine Lib.hid ?_
            have e1 := HLL.out
            have e2 := HK.out
            have e3 : t.drop k4 = r := by rw [show k4 = k2 + 2 by omega, ← List.drop_drop, e1.1]; rfl
            rw [HD2.out, e3, escP_cons, show letterL 120 = none from rfl]
            simp only [if_true, hna.1, hna.2, and_self]
          have hk4 : k4 ≤ t.length := by
            have e1 := HLL.out
            have e2 := HK.out
            simp only [List.length_cons] at e1; omega
          have hor := hex_or a b hna.1 hna.2
          obtain ⟨v, hv⟩ : ∃ v, UInt8.ofNat (16 * nibL a + nibL b) = v := ⟨_, rfl⟩
          rw [hv] at hor HB
          obtain ⟨x, hx⟩ : ∃ x, nibL a = x := ⟨_, rfl⟩
          obtain ⟨y, hy⟩ : ∃ y, nibL b = y := ⟨_, rfl⟩
          have hna' := fun w' => nibble_any a w'
          have hnb' := fun w' => nibble_any b w'
          rw [hx] at hor hna'
          rw [hy] at hor hnb'
          rw [hx, hy] at hna
          have HA := Lib.hid hna'
          have HB2 := Lib.hid hnb'
          have hxI : (x : Int) < 16 := by omega
          have hyI : (y : Int) < 16 := by omega
          have hxs : IntKind.u8.wrap ((x : Int) * 16) = (x : Int) * 16 := by rw [IntKind.wrap_u8]; omega
          have HK4 := Lib.hid hk4
          clear hna' hnb' hx hy hv hna hk4
          refine wp_region_G (.take 0 (.take 1 (.take 2 (.take 3 (.take 4 (.take 5 (.take 6 (.take 7 (.take 8 (.run 9 true .nil)))))))))) (by kernel_rfl) (by kernel_rfl) ?_
          simp only [pickOps, nthOp]
          intro wq hG
          repeat (first | (refine wpG_skip_take ?_ ?_; (focus rfl); try simp only [Act.put, List.setIfInBounds_toArray, List.set_cons_zero, List.set_cons_succ]) | (refine wpG_skip_run ?_ ?_; (focus rfl); try simp only [Act.put, List.setIfInBounds_toArray, List.set_cons_zero, List.set_cons_succ]) | (refine wpG_take ?_ ?_; (focus rfl); apply Exists.intro; refine ⟨fun w' hw' => ?_, ?_⟩; (focus (have hc := Gr.cells hw'; go_simp; (try rfl); done)); try simp only [Act.put, List.setIfInBounds_toArray, List.set_cons_zero, List.set_cons_succ]))
          refine wpG_last ?_ (fun K hK => ?_); (focus rfl)
          have hc := hG.cells
          have hm := hG.marks
          go_simp
          refine hK.out _ _ ?_
          try simp only [Act.put, List.setIfInBounds_toArray, List.set_cons_zero, List.set_cons_succ]
          clear hK K hc hm
          refine wpG_done ?_
          replace hK3 := hK3.trans (Kp.gr hG)
          have hR4 : Rdr wq p t k2 := boxAt.later hR3 hG
          have c0 := boxAt.cell hR4 0 _ rfl
          have c1 := boxAt.cell hR4 1 _ rfl
          have m1 := boxAt.mark hR4 1 _ rfl
          have lp4 := boxAt.lt hR4 (Nat.succ_pos _)
          have HR4 := Lib.hid hR4
          clear hG hsl hR4
          go_wp2_with (first | (go_at_call 44; (with_reducible refine (HA.out _).mono ?_); rintro e w' ⟨rfl, rfl⟩) | (go_at_call 44; (with_reducible refine (HB2.out _).mono ?_); rintro e w' ⟨rfl, rfl⟩))
          refine name_world (fun W4 hW4 => ?_)
          have hR5 : Rdr W4 p t k4 := by rw [hW4]; exact boxAt.put HR4.out 1 _ (by simp)
          have hK5 : Kp p w W4 := by rw [hW4]; exact hK3.at_p 1 _
          clear hW4 c0 c1 m1 hR3 lp4
          refine wp_region_G (.take 0 (.take 1 (.take 4 (.take 5 (.run 2 false (.take 3 (.run 6 false (.take 7 (.run 8 false (.run 9 true .nil)))))))))) (by kernel_rfl) (by kernel_rfl) ?_
          simp only [pickOps, nthOp]
          intro wq hG
          repeat (first | (refine wpG_skip_take ?_ ?_; (focus rfl); try simp only [Act.put, List.setIfInBounds_toArray, List.set_cons_zero, List.set_cons_succ]) | (refine wpG_skip_run ?_ ?_; (focus rfl); try simp only [Act.put, List.setIfInBounds_toArray, List.set_cons_zero, List.set_cons_succ]) | (refine wpG_take ?_ ?_; (focus rfl); apply Exists.intro; refine ⟨fun w' hw' => ?_, ?_⟩; (focus (have hc := Gr.cells hw'; go_simp; (try rfl); done)); try simp only [Act.put, List.setIfInBounds_toArray, List.set_cons_zero, List.set_cons_succ]) | (refine wpG_run ?_ (fun K hK => ?_); (focus rfl); go_simp; (first | (go_at_call 44; (with_reducible refine (HA.out _).mono ?_); rintro e w' ⟨rfl, rfl⟩; have hb := Gr.refl w') | (go_at_call 44; (with_reducible refine (HB2.out _).mono ?_); rintro e w' ⟨rfl, rfl⟩; have hb := Gr.refl w') | (have hb := Gr.refl w')); (try dsimp only); replace hG := hG.trans hb; refine hK.out _ _ hG ?_; clear hK K hb; try simp only [Act.put, List.setIfInBounds_toArray, List.set_cons_zero, List.set_cons_succ]))
          refine wpG_last ?_ (fun K hK => ?_); (focus rfl)
          have hc := hG.cells
          have hm := hG.marks
          go_simp
          refine hK.out _ _ ?_
          try simp only [Act.put, List.setIfInBounds_toArray, List.set_cons_zero, List.set_cons_succ]
          clear hK K hc hm
          refine wpG_done ?_
          go_wp2
          refine bodyPost_ret (v := .tuple #[.int .u8 (v.toNat : Int), .nilIface]) (by simp [results, Tryd.results34, go_sem]) rfl ?_
          exact EscEnd.ok HB.out HK4.out (hK5.trans (Kp.gr hG)) (boxAt.later hR5 hG)
        · have HB : Hid (escP (t.drop (k + 1)) = none) := by
            refine Lib.hid ?_
            rw [HD2.out, escP_cons, show letterL 120 = none from rfl]
            simp only [if_true, hna, if_false]
          obtain ⟨x, hx⟩ : ∃ x, nibL a = x := ⟨_, rfl⟩
          obtain ⟨y, hy⟩ : ∃ y, nibL b = y := ⟨_, rfl⟩
          have hna' := fun w' => nibble_any a w'
          have hnb' := fun w' => nibble_any b w'
          rw [hx] at hna'
          rw [hy] at hnb'
          rw [hx, hy] at hna
          have HA := Lib.hid hna'
          have HB2 := Lib.hid hnb'
          clear hna' hnb' hx hy
          by_cases hxI : (x : Int) < 16
          · have hyI : ¬ (y : Int) < 16 := fun h => hna ⟨by omega, by omega⟩
            clear hna
            refine wp_region_G (.take 0 (.take 1 (.take 2 (.take 3 (.take 4 (.take 5 (.take 6 (.take 7 (.take 8 (.run 9 true .nil)))))))))) (by kernel_rfl) (by kernel_rfl) ?_
            simp only [pickOps, nthOp]
            intro wq hG
            repeat (first | (refine wpG_skip_take ?_ ?_; (focus rfl); try simp only [Act.put, List.setIfInBounds_toArray, List.set_cons_zero, List.set_cons_succ]) | (refine wpG_skip_run ?_ ?_; (focus rfl); try simp only [Act.put, List.setIfInBounds_toArray, List.set_cons_zero, List.set_cons_succ]) | (refine wpG_take ?_ ?_; (focus rfl); apply Exists.intro; refine ⟨fun w' hw' => ?_, ?_⟩; (focus (have hc := Gr.cells hw'; go_simp; (try rfl); done)); try simp only [Act.put, List.setIfInBounds_toArray, List.set_cons_zero, List.set_cons_succ]))
            refine wpG_last ?_ (fun K hK => ?_); (focus rfl)
            have hc := hG.cells
            have hm := hG.marks
            go_simp
            refine hK.out _ _ ?_
            try simp only [Act.put, List.setIfInBounds_toArray, List.set_cons_zero, List.set_cons_succ]
            clear hK K hc hm
            refine wpG_done ?_
            replace hK3 := hK3.trans (Kp.gr hG)
            have hS3 := Lib.hid (hS'.out.kept hK3)
            have hA : Any wq p t := ⟨_, boxAt.later hR3 hG⟩
            have lp4 : p < wq.heap.size := by have := hK3.size; omega
            clear hG hsl
            go_wp2_with (first | (go_at_call 44; (with_reducible refine (HA.out _).mono ?_); rintro e w' ⟨rfl, rfl⟩) | (go_at_call 44; (with_reducible refine (HB2.out _).mono ?_); rintro e w' ⟨rfl, rfl⟩) | (go_at_call 33; (with_reducible refine (syntax_any _ p es ed _ hS3.out lp4).mono ?_); rintro e w2 ⟨er, rfl, hr, hg2⟩))
            refine bodyPost_ret (v := .tuple #[.int .u8 0, er]) (by simp [results, Tryd.results34, go_sem]) rfl ?_
            exact EscEnd.bad HB.out hK3 hg2 hr hA
          · clear hna
            refine wp_region_G (.take 0 (.take 1 (.take 2 (.take 3 (.take 4 (.take 5 (.take 6 (.take 7 (.take 8 (.run 9 true .nil)))))))))) (by kernel_rfl) (by kernel_rfl) ?_
            simp only [pickOps, nthOp]
            intro wq hG
            repeat (first | (refine wpG_skip_take ?_ ?_; (focus rfl); try simp only [Act.put, List.setIfInBounds_toArray, List.set_cons_zero, List.set_cons_succ]) | (refine wpG_skip_run ?_ ?_; (focus rfl); try simp only [Act.put, List.setIfInBounds_toArray, List.set_cons_zero, List.set_cons_succ]) | (refine wpG_take ?_ ?_; (focus rfl); apply Exists.intro; refine ⟨fun w' hw' => ?_, ?_⟩; (focus (have hc := Gr.cells hw'; go_simp; (try rfl); done)); try simp only [Act.put, List.setIfInBounds_toArray, List.set_cons_zero, List.set_cons_succ]))
            refine wpG_last ?_ (fun K hK => ?_); (focus rfl)
            have hc := hG.cells
            have hm := hG.marks
            go_simp
            refine hK.out _ _ ?_
            try simp only [Act.put, List.setIfInBounds_toArray, List.set_cons_zero, List.set_cons_succ]
            clear hK K hc hm
            refine wpG_done ?_
            replace hK3 := hK3.trans (Kp.gr hG)
            have hS3 := Lib.hid (hS'.out.kept hK3)
            have hA : Any wq p t := ⟨_, boxAt.later hR3 hG⟩
            have lp4 : p < wq.heap.size := by have := hK3.size; omega
            clear hG hsl
            go_wp2_with (first | (go_at_call 44; (with_reducible refine (HA.out _).mono ?_); rintro e w' ⟨rfl, rfl⟩) | (go_at_call 33; (with_reducible refine (syntax_any _ p es ed _ hS3.out lp4).mono ?_); rintro e w2 ⟨er, rfl, hr, hg2⟩))
            refine bodyPost_ret (v := .tuple #[.int .u8 0, er]) (by simp [results, Tryd.results34, go_sem]) rfl ?_
            exact EscEnd.bad HB.out hK3 hg2 hr hA
    · have e120 : ((c.toNat : Int) == 120) = false := by simp; omega
      have hd2 : escP (t.drop (k + 1)) = if c.toNat < 33 ∨ 126 < c.toNat ∨ alnumC c = true then none else some (c, t.drop k2) := by
        rw [HD.out, escP_cons, HLN.out]
        simp only [show ¬ c = 120 from fun h => h120 (by rw [h]; rfl), if_false]
      obtain ⟨q, hq⟩ : ∃ q, alnumC c = q := ⟨_, rfl⟩
      have hh := fun w' => has_of alnumS c.toNat q w' hc256 (by rw [alnumS_bit]; exact hq)
      have HH := Lib.hid hh
      rw [hq] at hd2
      clear hq hh h120 hc
      by_cases hr0 : c.toNat < 33 ∨ 126 < c.toNat
      · have HB : Hid (escP (t.drop (k + 1)) = none) := by
          refine Lib.hid ?_
          rw [hd2, if_pos (by omega)]
        have hrI : (c.toNat : Int) < 33 ∨ 126 < (c.toNat : Int) := by omega
        clear hd2 hr0 hc256
        go_wp2_with fail
        all_goals go_at_call 33
        all_goals
          refine name_calls (fun W3 hW3 => ?_)
          have hR3 : Rdr W3 p t k2 := by rw [hW3]; exact boxAt.put HR2.out 1 _ (by simp)
          have hK3 : Kp p w W3 := by rw [hW3]; exact HK1.out.at_p 1 _
          have hS3 := Lib.hid (hS'.out.kept hK3)
          have lp3 : p < W3.heap.size := by have := hK3.size; omega
          clear hW3 c0 c1 m1
          have hA : Any W3 p t := ⟨_, hR3⟩
          refine (syntax_any _ p es ed _ hS3.out lp3).mono ?_; rintro e w2 ⟨er, rfl, hr, hg2⟩
          go_wp2_with fail
          refine bodyPost_ret (v := .tuple #[.int .u8 0, er]) (by simp [results, Tryd.results34, go_sem]) rfl ?_
          exact EscEnd.bad HB.out hK3 hg2 hr hA
      · have r1 : ¬ (c.toNat : Int) < 33 := by omega
        have r2 : ¬ 126 < (c.toNat : Int) := by omega
        cases q with
        | true =>
          have HB : Hid (escP (t.drop (k + 1)) = none) := by
            refine Lib.hid ?_
            rw [hd2, if_pos (by simp)]
          clear hd2 hr0 hc256
          go_wp2_with fail
          go_at_call 46
          refine name_calls (fun W3 hW3 => ?_)
          have hR3 : Rdr W3 p t k2 := by rw [hW3]; exact boxAt.put HR2.out 1 _ (by simp)
          have hK3 : Kp p w W3 := by rw [hW3]; exact HK1.out.at_p 1 _
          have hS3 := Lib.hid (hS'.out.kept hK3)
          have lp3 : p < W3.heap.size := by have := hK3.size; omega
          clear hW3 c0 c1 m1
          refine (alnum_any _).mono ?_; rintro e w4 ⟨rfl, hg4⟩
          go_wp2_with (go_at_call 45; (with_reducible refine (HH.out _).mono ?_); rintro e w5 ⟨rfl, hg5⟩)
          have hK5 := (hK3.trans (Kp.gr hg4)).trans (Kp.gr hg5)
          have hA : Any w5 p t := ⟨_, boxAt.later (boxAt.later hR3 hg4) hg5⟩
          have hS5 := Lib.hid (hS'.out.kept hK5)
          have lp5 : p < w5.heap.size := by have := hK5.size; omega
          go_wp2_with (go_at_call 33; (with_reducible refine (syntax_any _ p es ed _ hS5.out lp5).mono ?_); rintro e w2 ⟨er, rfl, hr, hg2⟩)
          refine bodyPost_ret (v := .tuple #[.int .u8 0, er]) (by simp [results, Tryd.results34, go_sem]) rfl ?_
          exact EscEnd.bad HB.out hK5 hg2 hr hA
        | false =>
          have HB : Hid (escP (t.drop (k + 1)) = some (c, t.drop k2)) := by
            refine Lib.hid ?_
            rw [hd2, if_neg (by simp; omega)]
          clear hd2 hr0 hc256
          go_wp2_with fail
          go_at_call 46
          refine name_calls (fun W3 hW3 => ?_)
          have hR3 : Rdr W3 p t k2 := by rw [hW3]; exact boxAt.put HR2.out 1 _ (by simp)
          have hK3 : Kp p w W3 := by rw [hW3]; exact HK1.out.at_p 1 _
          have hS3 := Lib.hid (hS'.out.kept hK3)
          have lp3 : p < W3.heap.size := by have := hK3.size; omega
          clear hW3 c0 c1 m1
          refine (alnum_any _).mono ?_; rintro e w4 ⟨rfl, hg4⟩
          go_wp2_with (go_at_call 45; (with_reducible refine (HH.out _).mono ?_); rintro e w5 ⟨rfl, hg5⟩)
          have hK5 := (hK3.trans (Kp.gr hg4)).trans (Kp.gr hg5)
          go_wp2_with fail
          refine bodyPost_ret (v := .tuple #[.int .u8 (c.toNat : Int), .nilIface]) (by simp [results, Tryd.results34, go_sem]) rfl ?_
          exact EscEnd.ok HB.out (by have := HK.out; have := HL.out; omega) hK5 (boxAt.later (boxAt.later hR3 hg4) hg5)

end Go.Proofs.YtihjmeoklbmnmaaDoor
