/- bolterref3: class. No condition but a length's bound. Printed by gen_class3.py. -/
import Derived.Test.YtihjmeoklbmnmaaGreatDoorPR3k
import Derived.Deep.CutBlock
import Derived.Deep.DeepCutAuto
namespace Go.Proofs.YtihjmeoklbmnmaaGreatDoor
open Go Go.RowKit

theorem item3_any (p k o : Nat) (t : List UInt8) (w : World) (h : Rd3 w p t k o none) (hT : (t.length : Int) ≤ 4294967280) (hk : k ≤ t.length) :
    Calls Tryz.prog 28 #[.pointer (some ⟨p, 0, none⟩)] w (ItemEnd3 p o t w (itemP (t.drop k))) := by
  cases hn : pre [91, 58] (t.drop k) with
  | false => exact item3_char p k o t w h hT hk hn
  | true =>
    rw [show itemP (t.drop k) = nameP (t.drop k) by unfold itemP; rw [if_pos hn]]
    exact item3_name p k o t w h hT hk hn
theorem ok3_yes (p k o : Nat) (t : List UInt8) (w : World) (h : Rd3 w p t k o none) : Calls Tryz.prog 12 #[.pointer (some ⟨p, 0, none⟩)] w fun e w' => e = .returned (.bool true) ∧ Gr w w' := ok3_any p k o t none w h
theorem ok3_no (p k o : Nat) (t : List UInt8) (x : Bool × Nat) (w : World) (h : Rd3 w p t k o (some x)) : Calls Tryz.prog 12 #[.pointer (some ⟨p, 0, none⟩)] w fun e w' => e = .returned (.bool false) ∧ Gr w w' := ok3_any p k o t (some x) w h
theorem Rd3.later {w w' : World} {p k o : Nat} {t : List UInt8} {f : Option (Bool × Nat)} (h : Rd3 w p t k o f) (hG : Gr w w') : Rd3 w' p t k o f := boxAt.later h hG
theorem Rd3.far4 {w : World} {p k o b : Nat} {t : List UInt8} {f : Option (Bool × Nat)} (h : Rd3 w p t k o f) (hp : b ≠ p) (v0 v1 v2 v3 : Value) :
    Rd3 ((((w.setCell ⟨b, 0, none⟩ v0).setCell ⟨b, 1, none⟩ v1).setCell ⟨b, 2, none⟩ v2).setCell ⟨b, 3, none⟩ v3) p t k o f := boxAt.far4 h hp _ _ _ _
theorem Rd3.at (w : World) (p k o k' : Nat) (t : List UInt8) (f : Option (Bool × Nat)) (h : Rd3 w p t k o f) : Rd3 (w.setCell ⟨p, 1, none⟩ (.int .i64 (k' : Int))) p t k' o f := boxAt.put h 1 _ (by simp)
theorem Rd3.op (w : World) (p k o o' : Nat) (t : List UInt8) (f : Option (Bool × Nat)) (h : Rd3 w p t k o f) : Rd3 (w.setCell ⟨p, 2, none⟩ (.int .i64 (o' : Int))) p t k o' f := boxAt.put h 2 _ (by simp)
/-- What class answers. -/
def ClsEnd3 (p o : Nat) (t : List UInt8) (w : World) (x : Rd) (e : Ending) (w' : World) : Prop :=
  Kp p w w' ∧ match x with
    | .ok s r => e = .returned (.agg #[.int .u64 (wd s 0), .int .u64 (wd s 1), .int .u64 (wd s 2), .int .u64 (wd s 3)]) ∧ Rd3 w' p t (t.length - r.length) o none
    | .bad d r => ∃ (s : BitVec 256) (k : Nat), e = .returned (.agg #[.int .u64 (wd s 0), .int .u64 (wd s 1), .int .u64 (wd s 2), .int .u64 (wd s 3)]) ∧ k + o ≤ t.length + 40 ∧ Rd3 w' p t k o (some (d, t.length - r.length))
theorem ClsEnd3.ok {p o j : Nat} {t : List UInt8} {w w' : World} {x : Rd} {s : BitVec 256} (he : x = .ok s (t.drop j)) (hj : j ≤ t.length) (hK : Kp p w w') (hR : Rd3 w' p t j o none) : ClsEnd3 p o t w x (.returned (.agg #[.int .u64 (wd s 0), .int .u64 (wd s 1), .int .u64 (wd s 2), .int .u64 (wd s 3)])) w' := by
  subst he
  refine ⟨hK, rfl, ?_⟩
  rw [List.length_drop, show t.length - (t.length - j) = j by omega]; exact hR
theorem ClsEnd3.bad {p o q : Nat} {t r : List UInt8} {d : Bool} {w w' : World} {x : Rd} {s : BitVec 256} (he : x = .bad d r) (hq : q + o ≤ t.length + 40) (hK : Kp p w w') (hR : Rd3 w' p t q o (some (d, t.length - r.length))) : ClsEnd3 p o t w x (.returned (.agg #[.int .u64 (wd s 0), .int .u64 (wd s 1), .int .u64 (wd s 2), .int .u64 (wd s 3)])) w' := by
  subst he
  exact ⟨hK, s, q, rfl, hq, hR⟩
/-- What a class stands at, between its items or its tails. -/
def St3 (F : List UInt8 → BitVec 256 → Rd) (p o k0 : Nat) (t : List UInt8) (X : Rd) (s : BitVec 256) (w : World) : Prop :=
  (∃ j, k0 ≤ j ∧ j ≤ t.length ∧ F (t.drop j) s = X ∧ Rd3 w p t j o none) ∨
  (∃ d r q, X = .bad d r ∧ q + o ≤ t.length + 40 ∧ Rd3 w p t q o (some (d, t.length - r.length)))
theorem St3.mono {F : List UInt8 → BitVec 256 → Rd} {p o k0 k1 : Nat} {t : List UInt8} {X : Rd} {s : BitVec 256} {w : World} (h : St3 F p o k0 t X s w) (hk : k1 ≤ k0) : St3 F p o k1 t X s w := by
  rcases h with ⟨j, h0, h⟩ | h
  · exact .inl ⟨j, by omega, h⟩
  · exact .inr h
theorem St3.later {F : List UInt8 → BitVec 256 → Rd} {p o k0 : Nat} {t : List UInt8} {X : Rd} {s : BitVec 256} {w w' : World} (h : St3 F p o k0 t X s w) (hG : Gr w w') : St3 F p o k0 t X s w' := by
  rcases h with ⟨j, h0, h1, h2, h3⟩ | ⟨d, r, q, h1, h2, h3⟩
  · exact .inl ⟨j, h0, h1, h2, h3.later hG⟩
  · exact .inr ⟨d, r, q, h1, h2, h3.later hG⟩
theorem St3.far4 {F : List UInt8 → BitVec 256 → Rd} {p o k0 b : Nat} {t : List UInt8} {X : Rd} {s : BitVec 256} {w : World} (h : St3 F p o k0 t X s w) (hb : b ≠ p) (v0 v1 v2 v3 : Value) :
    St3 F p o k0 t X s ((((w.setCell ⟨b, 0, none⟩ v0).setCell ⟨b, 1, none⟩ v1).setCell ⟨b, 2, none⟩ v2).setCell ⟨b, 3, none⟩ v3) := by
  rcases h with ⟨j, h0, h1, h2, h3⟩ | ⟨d, r, q, h1, h2, h3⟩
  · exact .inl ⟨j, h0, h1, h2, h3.far4 hb _ _ _ _⟩
  · exact .inr ⟨d, r, q, h1, h2, h3.far4 hb _ _ _ _⟩
/-- How far a reader has still to go. -/
def go3 (p : Nat) (t : List UInt8) (w : World) : Nat := match w.cell? ⟨p, 3, none⟩ with
  | some (.int _ c) => if c = 0 then (match w.cell? ⟨p, 1, none⟩ with
    | some (.int _ q) => t.length + 1 - q.toNat
    | _ => 0) else 0
  | _ => 0
theorem go3_ok {w : World} {p k o : Nat} {t : List UInt8} (h : Rd3 w p t k o none) : go3 p t w = t.length + 1 - k := by
  unfold go3
  rw [show w.cell? ⟨p, 3, none⟩ = some (.int .i64 0) from h.cell 3 _ rfl, show w.cell? ⟨p, 1, none⟩ = some (.int .i64 (k : Int)) from h.cell 1 _ rfl]
  simp
theorem go3_bad {w : World} {p k o : Nat} {t : List UInt8} {x : Bool × Nat} (h : Rd3 w p t k o (some x)) : go3 p t w = 0 := by
  obtain ⟨d, a⟩ := x
  unfold go3
  rw [show w.cell? ⟨p, 3, none⟩ = some (.int .i64 (codeB d : Int)) from h.cell 3 _ rfl]
  have := (codeB_is d).1
  simp only
  rw [if_neg (by omega)]
theorem St3.less {F : List UInt8 → BitVec 256 → Rd} {p o o' k0 j : Nat} {t : List UInt8} {X : Rd} {s : BitVec 256} {w w0 : World} (h : St3 F p o k0 t X s w) (h0 : Rd3 w0 p t j o' none) (hj : j < k0) (hjl : j ≤ t.length) : go3 p t w < go3 p t w0 := by
  rw [go3_ok h0]
  rcases h with ⟨j', h0, h1, h2, h3⟩ | ⟨d, r, q, h1, h2, h3⟩
  · rw [go3_ok h3]; omega
  · rw [go3_bad h3]; omega
theorem headF (l : List UInt8) : headP l = match itemsF (if pre [94] l then l.drop 1 else l) emptyS with
    | .bad d r => .bad d r
    | .ok s r => .ok (if pre [94] l then ~~~s else s) r := by
  have e : itemsP (l.length + 1) (if pre [94] l then l.drop 1 else l) emptyS = itemsF (if pre [94] l then l.drop 1 else l) emptyS := by
    unfold itemsF
    refine itemsP_fuel _ _ _ _ ?_ (by omega)
    split
    · rw [List.length_drop]; omega
    · omega
  unfold headP
  rw [e]
  cases itemsF (if pre [94] l then l.drop 1 else l) emptyS <;> rfl

set_option maxRecDepth 100000 in
set_option maxHeartbeats 32000000 in
theorem class3_any (t : List UInt8) (hT : (t.length : Int) ≤ 4294967280) : ∀ (n o k p : Nat) (w : World), Rd3 w p t k o none → k ≤ t.length → (t.drop k).length < n → o ≤ 40 →
    Calls Tryz.prog 11 #[.pointer (some ⟨p, 0, none⟩)] w (ClsEnd3 p o t w (classF o (t.drop k))) := by
  intro n
  induction n with
  | zero => intro o k p w _ _ h; exact absurd h (Nat.not_lt_zero _)
  | succ n ih =>
    intro o k p w h hk hn ho
    have IH := Lib.hid ih
    have H0 := Lib.hid h
    have lp0 := boxAt.lt h (Nat.succ_pos _)
    have hne : w.heap.size ≠ p := by omega
    have hne2 : w.heap.size + 1 ≠ p := by omega
    have HNL := Lib.hid hn
    have HT := Lib.hid hT
    have HKL := Lib.hid (show k ≤ t.length ∧ o ≤ 40 from ⟨hk, ho⟩)
    clear h ih hn
    obtain ⟨X, hX⟩ : ∃ X, classF o (t.drop k) = X := ⟨_, rfl⟩
    rw [hX]
    by_cases hb : pre [91] (t.drop k) = true
    rotate_left
    · have hbf : pre [91] (t.drop k) = false := by simpa using hb
      rw [classF_none o _ hbf] at hX
      have HX := Lib.hid hX.symm
      have HB := Lib.hid (fun w => has3_of t [91] k false { data := #[91] } w rfl hbf hk (by decide) (by decide) hT)
      have hkl : decide (t.length < k) = false := decide_eq_false (by omega)
      have hsz0 := st_size t
      have hkI : ¬ (t.length : Int) < (k : Int) := by omega
      clear hX hb hbf hkl
      go_enter Tryz.func11, Tryz.ntmps11
      go_wp2_with fail
      refine name_world (fun W hW => ?_)
      obtain ⟨xr, xs, hgW, hsz⟩ : boxAt W w.heap.size [.int .u64 0, .int .u64 0, .int .u64 0, .int .u64 0] ∧ boxAt W (w.heap.size + 1) [.int .u64 0, .int .u64 0, .int .u64 0, .int .u64 0] ∧ Gr w W ∧ W.heap.size = w.heap.size + 2 := by
        subst hW; exact boxes2 _ _ _ _ _
      clear hW hsz
      have h0 : boxAt W p _ := boxAt.later H0.out hgW
      have c_x0 := h0.cell 0 _ rfl
      have c_x1 := h0.cell 1 _ rfl
      have c_x2 := h0.cell 2 _ rfl
      have c_x3 := h0.cell 3 _ rfl
      have c_x4 := h0.cell 4 _ rfl
      have c_x5 := h0.cell 5 _ rfl
      have c_x6 := h0.cell 6 _ rfl
      have c_x7 := h0.cell 7 _ rfl
      have m_x0 := h0.mark 0 _ rfl
      have m_x1 := h0.mark 1 _ rfl
      have m_x2 := h0.mark 2 _ rfl
      have m_x3 := h0.mark 3 _ rfl
      have m_x4 := h0.mark 4 _ rfl
      have m_x5 := h0.mark 5 _ rfl
      have m_x6 := h0.mark 6 _ rfl
      have m_x7 := h0.mark 7 _ rfl
      have l_x := h0.lt (Nat.succ_pos _)
      refine wp_region_G (.take 0 (.take 1 (.take 2 (.take 3 (.take 4 (.take 5 (.take 6 (.take 7 (.run 8 false (.take 9 .nil)))))))))) (by kernel_rfl) (by kernel_rfl) ?_
      simp only [pickOps, nthOp]
      intro wq hG
      repeat (first | (refine wpG_skip_take ?_ ?_; (focus rfl); try simp only [Act.put, List.setIfInBounds_toArray, List.set_cons_zero, List.set_cons_succ]) | (refine wpG_skip_run ?_ ?_; (focus rfl); try simp only [Act.put, List.setIfInBounds_toArray, List.set_cons_zero, List.set_cons_succ]) | (refine wpG_take ?_ ?_; (focus rfl); apply Exists.intro; refine ⟨fun w' hw' => ?_, ?_⟩; (focus (have hc := Gr.cells hw'; go_simp; (try rfl); done)); try simp only [Act.put, List.setIfInBounds_toArray, List.set_cons_zero, List.set_cons_succ]) | (refine wpG_run ?_ (fun K hK => ?_); (focus rfl); go_simp; (first | (go_at_call 25; (with_reducible refine (HB.out _).mono ?_); rintro e wq ⟨rfl, hb⟩)); (try dsimp only); replace hG := hG.trans hb; refine hK.out _ _ hG ?_; clear hK K hb; try simp only [Act.put, List.setIfInBounds_toArray, List.set_cons_zero, List.set_cons_succ]))
      refine wpG_done ?_
      clear c_x0 c_x1 c_x2 c_x3 c_x4 c_x5 c_x6 c_x7 m_x0 m_x1 m_x2 m_x3 m_x4 m_x5 m_x6 m_x7 l_x
      replace xr := xr.later hG
      replace xs := xs.later hG
      have hgq := hgW.trans hG
      have hR : Rd3 wq p t k o none := boxAt.later H0.out hgq
      have hK : Kp p w wq := Kp.gr hgq
      clear hG hgW hgq h0

      have c_x0 := hR.cell 0 _ rfl
      have c_x1 := hR.cell 1 _ rfl
      have c_x2 := hR.cell 2 _ rfl
      have c_x3 := hR.cell 3 _ rfl
      have c_x4 := hR.cell 4 _ rfl
      have c_x5 := hR.cell 5 _ rfl
      have c_x6 := hR.cell 6 _ rfl
      have c_x7 := hR.cell 7 _ rfl
      have m_x0 := hR.mark 0 _ rfl
      have m_x1 := hR.mark 1 _ rfl
      have m_x2 := hR.mark 2 _ rfl
      have m_x3 := hR.mark 3 _ rfl
      have m_x4 := hR.mark 4 _ rfl
      have m_x5 := hR.mark 5 _ rfl
      have m_x6 := hR.mark 6 _ rfl
      have m_x7 := hR.mark 7 _ rfl
      have l_x := hR.lt (Nat.succ_pos _)
      go_wp2_with fail
      go_at_call 26
      refine (refuse3_any p k o k false t none wq hR).mono ?_; rintro e w2 ⟨rfl, hK2, hR2⟩
      clear c_x0 c_x1 c_x2 c_x3 c_x4 c_x5 c_x6 c_x7 m_x0 m_x1 m_x2 m_x3 m_x4 m_x5 m_x6 m_x7 l_x
      replace xr := xr.kept hK2 hne (by simp)
      replace xs := xs.kept hK2 hne2 (by simp)
      have c_s0 := xs.cell 0 _ rfl
      have c_s1 := xs.cell 1 _ rfl
      have c_s2 := xs.cell 2 _ rfl
      have c_s3 := xs.cell 3 _ rfl
      have m_s0 := xs.mark 0 _ rfl
      have m_s1 := xs.mark 1 _ rfl
      have m_s2 := xs.mark 2 _ rfl
      have m_s3 := xs.mark 3 _ rfl
      have l_s := xs.lt (Nat.succ_pos _)
      have c_r0 := xr.cell 0 _ rfl
      have c_r1 := xr.cell 1 _ rfl
      have c_r2 := xr.cell 2 _ rfl
      have c_r3 := xr.cell 3 _ rfl
      have m_r0 := xr.mark 0 _ rfl
      have m_r1 := xr.mark 1 _ rfl
      have m_r2 := xr.mark 2 _ rfl
      have m_r3 := xr.mark 3 _ rfl
      have l_r := xr.lt (Nat.succ_pos _)
      go_wp2_with fail
      refine name_end (fun W9 hW => ?_)
      have xr9 : boxAt W9 w.heap.size [.int .u64 0, .int .u64 0, .int .u64 0, .int .u64 0] := by rw [hW]; exact xr.put4 _ _ _ _
      have hK9 : Kp p w W9 := by rw [hW]; exact (hK.trans hK2).put4 (Nat.le_refl _) _ _ _ _
      have c_q0 := xr9.cell 0 _ rfl
      have c_q1 := xr9.cell 1 _ rfl
      have c_q2 := xr9.cell 2 _ rfl
      have c_q3 := xr9.cell 3 _ rfl
      have m_q0 := xr9.mark 0 _ rfl
      have m_q1 := xr9.mark 1 _ rfl
      have m_q2 := xr9.mark 2 _ rfl
      have m_q3 := xr9.mark 3 _ rfl
      have l_q := xr9.lt (Nat.succ_pos _)
      refine bodyPost_ret (v := .agg #[.int .u64 (wd emptyS 0), .int .u64 (wd emptyS 1), .int .u64 (wd emptyS 2), .int .u64 (wd emptyS 3)]) (by simp [results, Tryz.results11, go_sem, c_q0, c_q1, c_q2, c_q3, wd_zero]) rfl ?_
      refine ClsEnd3.bad HX.out (q := k) (by have := HKL.out; omega) hK9 ?_
      rw [List.length_drop, show t.length - (t.length - k) = k by have := HKL.out; omega, hW]
      exact Rd3.far4 hR2 hne _ _ _ _
    have HB := Lib.hid (fun w => has3_of t [91] k true { data := #[91] } w rfl hb hk (by decide) (by decide) hT)
    by_cases ho2 : o = 40
    · rw [classF_deep o _ hb (by omega)] at hX
      have HX := Lib.hid hX.symm
      have hoI : ((o : Int) == 40) = true := by rw [beq_iff_eq]; omega
      clear hX hb ho2 ho
      go_enter Tryz.func11, Tryz.ntmps11
      go_wp2_with fail
      refine name_world (fun W hW => ?_)
      obtain ⟨xr, xs, hgW, hsz⟩ : boxAt W w.heap.size [.int .u64 0, .int .u64 0, .int .u64 0, .int .u64 0] ∧ boxAt W (w.heap.size + 1) [.int .u64 0, .int .u64 0, .int .u64 0, .int .u64 0] ∧ Gr w W ∧ W.heap.size = w.heap.size + 2 := by
        subst hW; exact boxes2 _ _ _ _ _
      clear hW hsz
      have h0 : boxAt W p _ := boxAt.later H0.out hgW
      have c_x0 := h0.cell 0 _ rfl
      have c_x1 := h0.cell 1 _ rfl
      have c_x2 := h0.cell 2 _ rfl
      have c_x3 := h0.cell 3 _ rfl
      have c_x4 := h0.cell 4 _ rfl
      have c_x5 := h0.cell 5 _ rfl
      have c_x6 := h0.cell 6 _ rfl
      have c_x7 := h0.cell 7 _ rfl
      have m_x0 := h0.mark 0 _ rfl
      have m_x1 := h0.mark 1 _ rfl
      have m_x2 := h0.mark 2 _ rfl
      have m_x3 := h0.mark 3 _ rfl
      have m_x4 := h0.mark 4 _ rfl
      have m_x5 := h0.mark 5 _ rfl
      have m_x6 := h0.mark 6 _ rfl
      have m_x7 := h0.mark 7 _ rfl
      have l_x := h0.lt (Nat.succ_pos _)
      refine wp_region_G (.take 0 (.take 1 (.take 2 (.take 3 (.take 4 (.take 5 (.take 6 (.take 7 (.run 8 false (.take 9 .nil)))))))))) (by kernel_rfl) (by kernel_rfl) ?_
      simp only [pickOps, nthOp]
      intro wq hG
      repeat (first | (refine wpG_skip_take ?_ ?_; (focus rfl); try simp only [Act.put, List.setIfInBounds_toArray, List.set_cons_zero, List.set_cons_succ]) | (refine wpG_skip_run ?_ ?_; (focus rfl); try simp only [Act.put, List.setIfInBounds_toArray, List.set_cons_zero, List.set_cons_succ]) | (refine wpG_take ?_ ?_; (focus rfl); apply Exists.intro; refine ⟨fun w' hw' => ?_, ?_⟩; (focus (have hc := Gr.cells hw'; go_simp; (try rfl); done)); try simp only [Act.put, List.setIfInBounds_toArray, List.set_cons_zero, List.set_cons_succ]) | (refine wpG_run ?_ (fun K hK => ?_); (focus rfl); go_simp; (first | (go_at_call 25; (with_reducible refine (HB.out _).mono ?_); rintro e wq ⟨rfl, hb⟩)); (try dsimp only); replace hG := hG.trans hb; refine hK.out _ _ hG ?_; clear hK K hb; try simp only [Act.put, List.setIfInBounds_toArray, List.set_cons_zero, List.set_cons_succ]))
      refine wpG_done ?_
      clear c_x0 c_x1 c_x2 c_x3 c_x4 c_x5 c_x6 c_x7 m_x0 m_x1 m_x2 m_x3 m_x4 m_x5 m_x6 m_x7 l_x
      replace xr := xr.later hG
      replace xs := xs.later hG
      have hgq := hgW.trans hG
      have hR : Rd3 wq p t k o none := boxAt.later H0.out hgq
      have hK : Kp p w wq := Kp.gr hgq
      clear hG hgW hgq h0

      have c_x0 := hR.cell 0 _ rfl
      have c_x1 := hR.cell 1 _ rfl
      have c_x2 := hR.cell 2 _ rfl
      have c_x3 := hR.cell 3 _ rfl
      have c_x4 := hR.cell 4 _ rfl
      have c_x5 := hR.cell 5 _ rfl
      have c_x6 := hR.cell 6 _ rfl
      have c_x7 := hR.cell 7 _ rfl
      have m_x0 := hR.mark 0 _ rfl
      have m_x1 := hR.mark 1 _ rfl
      have m_x2 := hR.mark 2 _ rfl
      have m_x3 := hR.mark 3 _ rfl
      have m_x4 := hR.mark 4 _ rfl
      have m_x5 := hR.mark 5 _ rfl
      have m_x6 := hR.mark 6 _ rfl
      have m_x7 := hR.mark 7 _ rfl
      have l_x := hR.lt (Nat.succ_pos _)
      go_wp2_with fail
      go_at_call 26
      refine (refuse3_any p k o k true t none wq hR).mono ?_; rintro e w2 ⟨rfl, hK2, hR2⟩
      clear c_x0 c_x1 c_x2 c_x3 c_x4 c_x5 c_x6 c_x7 m_x0 m_x1 m_x2 m_x3 m_x4 m_x5 m_x6 m_x7 l_x
      replace xr := xr.kept hK2 hne (by simp)
      replace xs := xs.kept hK2 hne2 (by simp)
      have c_s0 := xs.cell 0 _ rfl
      have c_s1 := xs.cell 1 _ rfl
      have c_s2 := xs.cell 2 _ rfl
      have c_s3 := xs.cell 3 _ rfl
      have m_s0 := xs.mark 0 _ rfl
      have m_s1 := xs.mark 1 _ rfl
      have m_s2 := xs.mark 2 _ rfl
      have m_s3 := xs.mark 3 _ rfl
      have l_s := xs.lt (Nat.succ_pos _)
      have c_r0 := xr.cell 0 _ rfl
      have c_r1 := xr.cell 1 _ rfl
      have c_r2 := xr.cell 2 _ rfl
      have c_r3 := xr.cell 3 _ rfl
      have m_r0 := xr.mark 0 _ rfl
      have m_r1 := xr.mark 1 _ rfl
      have m_r2 := xr.mark 2 _ rfl
      have m_r3 := xr.mark 3 _ rfl
      have l_r := xr.lt (Nat.succ_pos _)
      go_wp2_with fail
      refine name_end (fun W9 hW => ?_)
      have xr9 : boxAt W9 w.heap.size [.int .u64 0, .int .u64 0, .int .u64 0, .int .u64 0] := by rw [hW]; exact xr.put4 _ _ _ _
      have hK9 : Kp p w W9 := by rw [hW]; exact (hK.trans hK2).put4 (Nat.le_refl _) _ _ _ _
      have c_q0 := xr9.cell 0 _ rfl
      have c_q1 := xr9.cell 1 _ rfl
      have c_q2 := xr9.cell 2 _ rfl
      have c_q3 := xr9.cell 3 _ rfl
      have m_q0 := xr9.mark 0 _ rfl
      have m_q1 := xr9.mark 1 _ rfl
      have m_q2 := xr9.mark 2 _ rfl
      have m_q3 := xr9.mark 3 _ rfl
      have l_q := xr9.lt (Nat.succ_pos _)
      refine bodyPost_ret (v := .agg #[.int .u64 (wd emptyS 0), .int .u64 (wd emptyS 1), .int .u64 (wd emptyS 2), .int .u64 (wd emptyS 3)]) (by simp [results, Tryz.results11, go_sem, c_q0, c_q1, c_q2, c_q3, wd_zero]) rfl ?_
      refine ClsEnd3.bad HX.out (q := k) (by have := HKL.out; omega) hK9 ?_
      rw [List.length_drop, show t.length - (t.length - k) = k by have := HKL.out; omega, hW]
      exact Rd3.far4 hR2 hne _ _ _ _
    have hoI : ((o : Int) == 40) = false := by rw [beq_eq_false_iff_ne]; omega
    have hl1 := pre_len hb
    rw [List.length_drop] at hl1
    simp only [List.length_cons, List.length_nil] at hl1
    obtain ⟨k1, hk1⟩ : ∃ x, k + 1 = x := ⟨_, rfl⟩
    have hk1l : k1 ≤ t.length := by omega
    have hw1 : IntKind.i64.wrap ((k : Int) + 1) = (k1 : Int) := by rw [IntWalk.i64_in _ (by omega)]; omega
    obtain ⟨o1, ho1⟩ : ∃ x, o + 1 = x := ⟨_, rfl⟩
    have hwo : IntKind.i64.wrap ((o : Int) + 1) = (o1 : Int) := by rw [IntWalk.i64_in _ (by omega)]; omega
    have hwo9 : IntKind.i64.wrap ((o1 : Int) - 1) = (o : Int) := by rw [IntWalk.i64_in _ (by omega)]; omega
    have hdk : (t.drop k).drop 1 = t.drop k1 := by rw [List.drop_drop, hk1]
    obtain ⟨qn, hqn⟩ : ∃ q, pre [94] (t.drop k1) = q := ⟨_, rfl⟩
    have HQ := Lib.hid (fun w => has3_of t [94] k1 qn { data := #[94] } w rfl hqn hk1l (by decide) (by decide) hT)
    obtain ⟨k0, hk0⟩ : ∃ k0, (if qn then k1 + 1 else k1) = k0 := ⟨_, rfl⟩
    have hk0l : k0 ≤ t.length ∧ k1 ≤ k0 := by
      rw [← hk0]
      split
      · rename_i hq
        have := pre_len (hqn.trans hq); rw [List.length_drop] at this; simp only [List.length_cons, List.length_nil] at this; omega
      · exact ⟨hk1l, Nat.le_refl _⟩
    have hd0 : (if qn = true then (t.drop k1).drop 1 else t.drop k1) = t.drop k0 := by
      rw [← hk0]; split
      · rw [List.drop_drop]
      · rfl
    have hH := headF (t.drop k1)
    rw [hqn, hd0] at hH
    obtain ⟨Y, hY⟩ : ∃ Y, itemsF (t.drop k0) emptyS = Y := ⟨_, rfl⟩
    rw [hY] at hH
    -- what follows a head
    have HXok : Hid (∀ s j, Y = .ok s (t.drop j) → tailsF o (t.drop j) (if qn then ~~~s else s) = X) := by
      intro s j hs
      rw [hs] at hH
      rw [← hX]
      exact (classF_ok hb (by omega) (by rw [hdk]; exact hH)).symm
    have HXbad : Hid (∀ d r, Y = .bad d r → X = .bad d r) := by
      intro d r hs
      rw [hs] at hH
      rw [← hX]
      exact classF_bad hb (by omega) (by rw [hdk]; exact hH)
    have HY0 := Lib.hid hY
    have HBP := Lib.hid hb
    have HB1 := Lib.hid (show k + 1 = k1 ∧ o + 1 = o1 ∧ o < 40 ∧ (if qn then k1 + 1 else k1) = k0 ∧ k0 ≤ t.length ∧ k1 ≤ k0 from ⟨hk1, ho1, by omega, hk0, hk0l.1, hk0l.2⟩)
    have hwk0 : qn = true → IntKind.i64.wrap ((k1 : Int) + 1) = (k0 : Int) := fun hq => by subst hq; simp only [if_true] at hk0; rw [IntWalk.i64_in _ (by omega)]; omega
    clear hX hb ho2 hk1 ho1 hdk hqn hk0 hd0 hH hY hl1 hk1l hk ho hT
    go_enter Tryz.func11, Tryz.ntmps11
    go_wp2_with fail
    refine name_world (fun W hW => ?_)
    obtain ⟨xr, xs, hgW, hsz⟩ : boxAt W w.heap.size [.int .u64 0, .int .u64 0, .int .u64 0, .int .u64 0] ∧ boxAt W (w.heap.size + 1) [.int .u64 0, .int .u64 0, .int .u64 0, .int .u64 0] ∧ Gr w W ∧ W.heap.size = w.heap.size + 2 := by
      subst hW; exact boxes2 _ _ _ _ _
    clear hW hsz
    have h0 : boxAt W p _ := boxAt.later H0.out hgW
    have c_x0 := h0.cell 0 _ rfl
    have c_x1 := h0.cell 1 _ rfl
    have c_x2 := h0.cell 2 _ rfl
    have c_x3 := h0.cell 3 _ rfl
    have c_x4 := h0.cell 4 _ rfl
    have c_x5 := h0.cell 5 _ rfl
    have c_x6 := h0.cell 6 _ rfl
    have c_x7 := h0.cell 7 _ rfl
    have m_x0 := h0.mark 0 _ rfl
    have m_x1 := h0.mark 1 _ rfl
    have m_x2 := h0.mark 2 _ rfl
    have m_x3 := h0.mark 3 _ rfl
    have m_x4 := h0.mark 4 _ rfl
    have m_x5 := h0.mark 5 _ rfl
    have m_x6 := h0.mark 6 _ rfl
    have m_x7 := h0.mark 7 _ rfl
    have l_x := h0.lt (Nat.succ_pos _)
    refine wp_region_G (.take 0 (.take 1 (.take 2 (.take 3 (.take 4 (.take 5 (.take 6 (.take 7 (.run 8 false (.take 9 .nil)))))))))) (by kernel_rfl) (by kernel_rfl) ?_
    simp only [pickOps, nthOp]
    intro wq hG
    repeat (first | (refine wpG_skip_take ?_ ?_; (focus rfl); try simp only [Act.put, List.setIfInBounds_toArray, List.set_cons_zero, List.set_cons_succ]) | (refine wpG_skip_run ?_ ?_; (focus rfl); try simp only [Act.put, List.setIfInBounds_toArray, List.set_cons_zero, List.set_cons_succ]) | (refine wpG_take ?_ ?_; (focus rfl); apply Exists.intro; refine ⟨fun w' hw' => ?_, ?_⟩; (focus (have hc := Gr.cells hw'; go_simp; (try rfl); done)); try simp only [Act.put, List.setIfInBounds_toArray, List.set_cons_zero, List.set_cons_succ]) | (refine wpG_run ?_ (fun K hK => ?_); (focus rfl); go_simp; (first | (go_at_call 25; (with_reducible refine (HB.out _).mono ?_); rintro e wq ⟨rfl, hb⟩)); (try dsimp only); replace hG := hG.trans hb; refine hK.out _ _ hG ?_; clear hK K hb; try simp only [Act.put, List.setIfInBounds_toArray, List.set_cons_zero, List.set_cons_succ]))
    refine wpG_done ?_
    clear c_x0 c_x1 c_x2 c_x3 c_x4 c_x5 c_x6 c_x7 m_x0 m_x1 m_x2 m_x3 m_x4 m_x5 m_x6 m_x7 l_x
    replace xr := xr.later hG
    replace xs := xs.later hG
    have hgq := hgW.trans hG
    have hR : Rd3 wq p t k o none := boxAt.later H0.out hgq
    have hK : Kp p w wq := Kp.gr hgq
    clear hG hgW hgq h0
    have HBK := Lib.hid (show pre [91] (t.drop k) = true from HBP.out)
    have c_x0 := hR.cell 0 _ rfl
    have c_x1 := hR.cell 1 _ rfl
    have c_x2 := hR.cell 2 _ rfl
    have c_x3 := hR.cell 3 _ rfl
    have c_x4 := hR.cell 4 _ rfl
    have c_x5 := hR.cell 5 _ rfl
    have c_x6 := hR.cell 6 _ rfl
    have c_x7 := hR.cell 7 _ rfl
    have m_x0 := hR.mark 0 _ rfl
    have m_x1 := hR.mark 1 _ rfl
    have m_x2 := hR.mark 2 _ rfl
    have m_x3 := hR.mark 3 _ rfl
    have m_x4 := hR.mark 4 _ rfl
    have m_x5 := hR.mark 5 _ rfl
    have m_x6 := hR.mark 6 _ rfl
    have m_x7 := hR.mark 7 _ rfl
    have l_x := hR.lt (Nat.succ_pos _)
    go_upto_region 13 with fail
    clear c_x0 c_x1 c_x2 c_x3 c_x4 c_x5 c_x6 c_x7 m_x0 m_x1 m_x2 m_x3 m_x4 m_x5 m_x6 m_x7 l_x
    refine name_world (fun W2 hW => ?_)
    replace xr : boxAt W2 w.heap.size [.int .u64 0, .int .u64 0, .int .u64 0, .int .u64 0] := by rw [hW]; exact (xr.far ⟨p, 2, none⟩ _ (Ne.symm hne)).far ⟨p, 1, none⟩ _ (Ne.symm hne)
    replace xs : boxAt W2 (w.heap.size + 1) [.int .u64 0, .int .u64 0, .int .u64 0, .int .u64 0] := by rw [hW]; exact (xs.far ⟨p, 2, none⟩ _ (Ne.symm hne2)).far ⟨p, 1, none⟩ _ (Ne.symm hne2)
    replace hR : Rd3 W2 p t k1 o1 none := by rw [hW]; exact Rd3.at _ p k o1 k1 t none (Rd3.op _ p k o o1 t none hR)
    replace hK : Kp p w W2 := by rw [hW]; exact (hK.at_p 2 _).at_p 1 _
    clear hW
    have c_x0 := hR.cell 0 _ rfl
    have c_x1 := hR.cell 1 _ rfl
    have c_x2 := hR.cell 2 _ rfl
    have c_x3 := hR.cell 3 _ rfl
    have c_x4 := hR.cell 4 _ rfl
    have c_x5 := hR.cell 5 _ rfl
    have c_x6 := hR.cell 6 _ rfl
    have c_x7 := hR.cell 7 _ rfl
    have m_x0 := hR.mark 0 _ rfl
    have m_x1 := hR.mark 1 _ rfl
    have m_x2 := hR.mark 2 _ rfl
    have m_x3 := hR.mark 3 _ rfl
    have m_x4 := hR.mark 4 _ rfl
    have m_x5 := hR.mark 5 _ rfl
    have m_x6 := hR.mark 6 _ rfl
    have m_x7 := hR.mark 7 _ rfl
    have l_x := hR.lt (Nat.succ_pos _)
    refine wp_region_G (.take 0 (.take 1 (.take 2 (.take 3 (.take 4 (.take 5 (.take 6 (.take 7 (.run 8 false (.run 9 true .nil)))))))))) (by kernel_rfl) (by kernel_rfl) ?_
    simp only [pickOps, nthOp]
    intro wq hG
    repeat (first | (refine wpG_skip_take ?_ ?_; (focus rfl); try simp only [Act.put, List.setIfInBounds_toArray, List.set_cons_zero, List.set_cons_succ]) | (refine wpG_skip_run ?_ ?_; (focus rfl); try simp only [Act.put, List.setIfInBounds_toArray, List.set_cons_zero, List.set_cons_succ]) | (refine wpG_take ?_ ?_; (focus rfl); apply Exists.intro; refine ⟨fun w' hw' => ?_, ?_⟩; (focus (have hc := Gr.cells hw'; go_simp; (try rfl); done)); try simp only [Act.put, List.setIfInBounds_toArray, List.set_cons_zero, List.set_cons_succ]) | (refine wpG_run ?_ (fun K hK => ?_); (focus rfl); go_simp; (first | (go_at_call 25; (with_reducible refine (HQ.out _).mono ?_); rintro e wq ⟨rfl, hb⟩)); (try dsimp only); replace hG := hG.trans hb; refine hK.out _ _ hG ?_; clear hK K hb; try simp only [Act.put, List.setIfInBounds_toArray, List.set_cons_zero, List.set_cons_succ]))
    refine wpG_last ?_ (fun K hK => ?_); (focus rfl)
    have hc := hG.cells
    have hm := hG.marks
    go_simp
    refine hK.out _ _ ?_
    try simp only [Act.put, List.setIfInBounds_toArray, List.set_cons_zero, List.set_cons_succ]
    clear hK K hc hm
    refine wpG_done ?_
    clear c_x0 c_x1 c_x2 c_x3 c_x4 c_x5 c_x6 c_x7 m_x0 m_x1 m_x2 m_x3 m_x4 m_x5 m_x6 m_x7 l_x
    replace xr := xr.later hG
    replace xs := xs.later hG
    replace hR := hR.later hG
    replace hK := hK.trans (Kp.gr hG)
    clear hG
    go_upto_if 73 with fail
    go_cut [73] from 74 to 80 (fun _ wx => Rd3 wx p t k0 o1 none ∧ boxAt wx w.heap.size [.int .u64 0, .int .u64 0, .int .u64 0, .int .u64 0] ∧ boxAt wx (w.heap.size + 1) [.int .u64 0, .int .u64 0, .int .u64 0, .int .u64 0] ∧ Kp p w wx)
    case first =>
      have c_x0 := hR.cell 0 _ rfl
      have c_x1 := hR.cell 1 _ rfl
      have c_x2 := hR.cell 2 _ rfl
      have c_x3 := hR.cell 3 _ rfl
      have c_x4 := hR.cell 4 _ rfl
      have c_x5 := hR.cell 5 _ rfl
      have c_x6 := hR.cell 6 _ rfl
      have c_x7 := hR.cell 7 _ rfl
      have m_x0 := hR.mark 0 _ rfl
      have m_x1 := hR.mark 1 _ rfl
      have m_x2 := hR.mark 2 _ rfl
      have m_x3 := hR.mark 3 _ rfl
      have m_x4 := hR.mark 4 _ rfl
      have m_x5 := hR.mark 5 _ rfl
      have m_x6 := hR.mark 6 _ rfl
      have m_x7 := hR.mark 7 _ rfl
      have l_x := hR.lt (Nat.succ_pos _)
      cases qn
      · have e0 : k1 = k0 := by have := HB1.out.2.2.2.1; simpa using this
        subst e0
        go_wp2_with fail
        go_meet
        case rel => exact ⟨hR, xr, xs, hK⟩
      · have e0 := hwk0 rfl
        go_wp2_with fail
        go_meet
        case rel => exact ⟨Rd3.at _ p k1 o1 k0 t none hR, xr.far ⟨p, 1, none⟩ _ (Ne.symm hne), xs.far ⟨p, 1, none⟩ _ (Ne.symm hne2), hK.at_p 1 _⟩
    case rest =>
      clear hwk0 hR xr xs hK
      obtain ⟨hR, xr, xs, hK⟩ := hcut
      go_upto_block 0 with fail
      refine name_world (fun W3 hW3 => ?_)
      subst hW3
      go_cut [81] from 82 to 122 (fun _ wx => ∃ s : BitVec 256, (Hid (∃ j, k0 ≤ j ∧ j ≤ t.length ∧ Y = .ok s (t.drop j) ∧ Rd3 wx p t j o1 none) ∨ Hid (∃ d r q, Y = .bad d r ∧ q + o1 ≤ t.length + 40 ∧ Rd3 wx p t q o1 (some (d, t.length - r.length)))) ∧ boxAt wx w.heap.size [.int .u64 0, .int .u64 0, .int .u64 0, .int .u64 0] ∧ boxAt wx (w.heap.size + 1) [.int .u64 (wd s 0), .int .u64 (wd s 1), .int .u64 (wd s 2), .int .u64 (wd s 3)] ∧ Kp p w wx)
      case first =>
        go_wp2_with fail
        go_loopw [81] (fun _ wr => ∃ s : BitVec 256, St3 itemsF p o1 k0 t Y s wr ∧ boxAt wr w.heap.size [.int .u64 0, .int .u64 0, .int .u64 0, .int .u64 0] ∧ boxAt wr (w.heap.size + 1) [.int .u64 (wd s 0), .int .u64 (wd s 1), .int .u64 (wd s 2), .int .u64 (wd s 3)] ∧ Kp p w wr) (fun _ wr => go3 p t wr)
        case atStart => exact ⟨emptyS, .inl ⟨k0, Nat.le_refl _, HB1.out.2.2.2.2.1, HY0.out, hR⟩, xr, by simp only [wd_zero]; exact xs, hK⟩
        case round =>
          clear hR xr xs hK
          obtain ⟨s, hst, xr, xs, hK⟩ := hrel
          have hs1 : w.heap.size + 1 < wr.heap.size := xs.lt (by simp)
          rcases hst with ⟨j, hkj, hj, hY, hR⟩ | ⟨d, r, q, hYb, hq, hR⟩
          rotate_left
          · -- refused: the loop is left
            have HR := Lib.hid hR
            have HQX := Lib.hid (show Y = .bad d r ∧ q + o1 ≤ t.length + 40 from ⟨hYb, hq⟩)
            clear hYb hq
            go_upto_region 16 with fail
            have c_x0 := hR.cell 0 _ rfl
            have c_x1 := hR.cell 1 _ rfl
            have c_x2 := hR.cell 2 _ rfl
            have c_x3 := hR.cell 3 _ rfl
            have c_x4 := hR.cell 4 _ rfl
            have c_x5 := hR.cell 5 _ rfl
            have c_x6 := hR.cell 6 _ rfl
            have c_x7 := hR.cell 7 _ rfl
            have m_x0 := hR.mark 0 _ rfl
            have m_x1 := hR.mark 1 _ rfl
            have m_x2 := hR.mark 2 _ rfl
            have m_x3 := hR.mark 3 _ rfl
            have m_x4 := hR.mark 4 _ rfl
            have m_x5 := hR.mark 5 _ rfl
            have m_x6 := hR.mark 6 _ rfl
            have m_x7 := hR.mark 7 _ rfl
            have l_x := hR.lt (Nat.succ_pos _)
            refine wp_region_G (.take 0 (.run 1 false (.take 2 (.take 3 (.take 4 (.take 5 (.take 6 (.take 7 (.take 8 (.take 9 (.take 10 (.run 11 false (.take 12 (.take 13 (.take 14 (.take 15 (.take 16 (.take 17 (.take 18 (.take 19 (.take 20 (.take 21 (.take 22 (.run 23 false (.take 24 (.take 25 (.take 26 (.take 27 (.take 28 (.take 29 (.take 30 (.take 31 (.take 32 (.take 33 (.take 34 (.run 35 false (.take 36 (.take 37 .nil)))))))))))))))))))))))))))))))))))))) (by kernel_rfl) (by kernel_rfl) ?_
            simp only [pickOps, nthOp]
            intro wq hG
            repeat (first | (refine wpG_skip_take ?_ ?_; (focus rfl); try simp only [Act.put, List.setIfInBounds_toArray, List.set_cons_zero, List.set_cons_succ]) | (refine wpG_skip_run ?_ ?_; (focus rfl); try simp only [Act.put, List.setIfInBounds_toArray, List.set_cons_zero, List.set_cons_succ]) | (refine wpG_take ?_ ?_; (focus rfl); apply Exists.intro; refine ⟨fun w' hw' => ?_, ?_⟩; (focus (have hc := Gr.cells hw'; go_simp; (try rfl); done)); try simp only [Act.put, List.setIfInBounds_toArray, List.set_cons_zero, List.set_cons_succ]) | (refine wpG_run ?_ (fun K hK => ?_); (focus rfl); go_simp; (first | (go_at_call 12; (with_reducible refine (ok3_no p q o1 t _ _ (HR.out.later hG)).mono ?_); rintro e wq ⟨rfl, hb⟩)); (try dsimp only); replace hG := hG.trans hb; refine hK.out _ _ hG ?_; clear hK K hb; try simp only [Act.put, List.setIfInBounds_toArray, List.set_cons_zero, List.set_cons_succ]))
            refine wpG_done ?_
            clear c_x0 c_x1 c_x2 c_x3 c_x4 c_x5 c_x6 c_x7 m_x0 m_x1 m_x2 m_x3 m_x4 m_x5 m_x6 m_x7 l_x
            replace hR := HR.out.later hG
            replace xr := xr.later hG
            replace xs := xs.later hG
            replace hK := hK.trans (Kp.gr hG)
            clear HR hG
            go_wp2_with fail
            go_meet
            case rel => exact ⟨s, .inr (Lib.hid ⟨d, r, q, HQX.out.1, HQX.out.2, hR⟩), xr, xs, hK⟩
          have HR := Lib.hid hR
          have HJ := Lib.hid (show j ≤ t.length ∧ k0 ≤ j from ⟨hj, hkj⟩)
          have HY := Lib.hid hY
          obtain ⟨b1, hb1⟩ : ∃ b, pre [93] (t.drop j) = b := ⟨_, rfl⟩
          obtain ⟨b2, hb2⟩ : ∃ b, pre [45, 45] (t.drop j) = b := ⟨_, rfl⟩
          obtain ⟨b3, hb3⟩ : ∃ b, pre [38, 38] (t.drop j) = b := ⟨_, rfl⟩
          have HH1 := Lib.hid (fun w => has3_of t [93] j b1 { data := #[93] } w rfl hb1 hj (by decide) (by decide) HT.out)
          have HH2 := Lib.hid (fun w => has3_of t [45, 45] j b2 { data := #[45, 45] } w rfl hb2 hj (by decide) (by decide) HT.out)
          have HH3 := Lib.hid (fun w => has3_of t [38, 38] j b3 { data := #[38, 38] } w rfl hb3 hj (by decide) (by decide) HT.out)
          have HSP := Lib.hid (show stops (t.drop j) = (b2 || b3 || b1) by unfold stops; rw [hb1, hb2, hb3])
          clear hb1 hb2 hb3 hY hj hkj
          have hcase : (b1 = true) ∨ (b1 = false ∧ b2 = true) ∨ (b1 = false ∧ b2 = false ∧ b3 = true) ∨ (b1 = false ∧ b2 = false ∧ b3 = false) := by cases b1 <;> cases b2 <;> cases b3 <;> simp
          rcases hcase with rfl | ⟨rfl, rfl⟩ | ⟨rfl, rfl, rfl⟩ | ⟨rfl, rfl, rfl⟩
          iterate 3
            · have HSS : Hid (stops (t.drop j) = true) := Lib.hid (by rw [HSP.out]; simp)
              go_upto_region 16 with fail
              have c_x0 := hR.cell 0 _ rfl
              have c_x1 := hR.cell 1 _ rfl
              have c_x2 := hR.cell 2 _ rfl
              have c_x3 := hR.cell 3 _ rfl
              have c_x4 := hR.cell 4 _ rfl
              have c_x5 := hR.cell 5 _ rfl
              have c_x6 := hR.cell 6 _ rfl
              have c_x7 := hR.cell 7 _ rfl
              have m_x0 := hR.mark 0 _ rfl
              have m_x1 := hR.mark 1 _ rfl
              have m_x2 := hR.mark 2 _ rfl
              have m_x3 := hR.mark 3 _ rfl
              have m_x4 := hR.mark 4 _ rfl
              have m_x5 := hR.mark 5 _ rfl
              have m_x6 := hR.mark 6 _ rfl
              have m_x7 := hR.mark 7 _ rfl
              have l_x := hR.lt (Nat.succ_pos _)
              refine wp_region_G (.take 0 (.run 1 false (.take 2 (.take 3 (.take 4 (.take 5 (.take 6 (.take 7 (.take 8 (.take 9 (.take 10 (.run 11 false (.take 12 (.take 13 (.take 14 (.take 15 (.take 16 (.take 17 (.take 18 (.take 19 (.take 20 (.take 21 (.take 22 (.run 23 false (.take 24 (.take 25 (.take 26 (.take 27 (.take 28 (.take 29 (.take 30 (.take 31 (.take 32 (.take 33 (.take 34 (.run 35 false (.take 36 (.take 37 .nil)))))))))))))))))))))))))))))))))))))) (by kernel_rfl) (by kernel_rfl) ?_
              simp only [pickOps, nthOp]
              intro wq hG
              repeat (first | (refine wpG_skip_take ?_ ?_; (focus rfl); try simp only [Act.put, List.setIfInBounds_toArray, List.set_cons_zero, List.set_cons_succ]) | (refine wpG_skip_run ?_ ?_; (focus rfl); try simp only [Act.put, List.setIfInBounds_toArray, List.set_cons_zero, List.set_cons_succ]) | (refine wpG_take ?_ ?_; (focus rfl); apply Exists.intro; refine ⟨fun w' hw' => ?_, ?_⟩; (focus (have hc := Gr.cells hw'; go_simp; (try rfl); done)); try simp only [Act.put, List.setIfInBounds_toArray, List.set_cons_zero, List.set_cons_succ]) | (refine wpG_run ?_ (fun K hK => ?_); (focus rfl); go_simp; (first | (go_at_call 12; (with_reducible refine (ok3_yes p j o1 t _ (HR.out.later hG)).mono ?_); rintro e wq ⟨rfl, hb⟩) | (go_at_call 25; (with_reducible refine (HH1.out _).mono ?_); rintro e wq ⟨rfl, hb⟩) | (go_at_call 25; (with_reducible refine (HH2.out _).mono ?_); rintro e wq ⟨rfl, hb⟩) | (go_at_call 25; (with_reducible refine (HH3.out _).mono ?_); rintro e wq ⟨rfl, hb⟩)); (try dsimp only); replace hG := hG.trans hb; refine hK.out _ _ hG ?_; clear hK K hb; try simp only [Act.put, List.setIfInBounds_toArray, List.set_cons_zero, List.set_cons_succ]))
              refine wpG_done ?_
              clear c_x0 c_x1 c_x2 c_x3 c_x4 c_x5 c_x6 c_x7 m_x0 m_x1 m_x2 m_x3 m_x4 m_x5 m_x6 m_x7 l_x
              replace hR := HR.out.later hG
              replace xr := xr.later hG
              replace xs := xs.later hG
              replace hK := hK.trans (Kp.gr hG)
              clear HR hG
              go_wp2_with fail
              go_meet
              case rel => exact ⟨s, .inl (Lib.hid ⟨j, HJ.out.2, HJ.out.1, by rw [← HY.out]; exact itemsF_stop s HSS.out, hR⟩), xr, xs, hK⟩
          · have HSS : Hid (stops (t.drop j) = false) := Lib.hid (by rw [HSP.out]; simp)
            go_upto_region 16 with fail
            have c_x0 := hR.cell 0 _ rfl
            have c_x1 := hR.cell 1 _ rfl
            have c_x2 := hR.cell 2 _ rfl
            have c_x3 := hR.cell 3 _ rfl
            have c_x4 := hR.cell 4 _ rfl
            have c_x5 := hR.cell 5 _ rfl
            have c_x6 := hR.cell 6 _ rfl
            have c_x7 := hR.cell 7 _ rfl
            have m_x0 := hR.mark 0 _ rfl
            have m_x1 := hR.mark 1 _ rfl
            have m_x2 := hR.mark 2 _ rfl
            have m_x3 := hR.mark 3 _ rfl
            have m_x4 := hR.mark 4 _ rfl
            have m_x5 := hR.mark 5 _ rfl
            have m_x6 := hR.mark 6 _ rfl
            have m_x7 := hR.mark 7 _ rfl
            have l_x := hR.lt (Nat.succ_pos _)
            refine wp_region_G (.take 0 (.run 1 false (.take 2 (.take 3 (.take 4 (.take 5 (.take 6 (.take 7 (.take 8 (.take 9 (.take 10 (.run 11 false (.take 12 (.take 13 (.take 14 (.take 15 (.take 16 (.take 17 (.take 18 (.take 19 (.take 20 (.take 21 (.take 22 (.run 23 false (.take 24 (.take 25 (.take 26 (.take 27 (.take 28 (.take 29 (.take 30 (.take 31 (.take 32 (.take 33 (.take 34 (.run 35 false (.take 36 (.take 37 .nil)))))))))))))))))))))))))))))))))))))) (by kernel_rfl) (by kernel_rfl) ?_
            simp only [pickOps, nthOp]
            intro wq hG
            repeat (first | (refine wpG_skip_take ?_ ?_; (focus rfl); try simp only [Act.put, List.setIfInBounds_toArray, List.set_cons_zero, List.set_cons_succ]) | (refine wpG_skip_run ?_ ?_; (focus rfl); try simp only [Act.put, List.setIfInBounds_toArray, List.set_cons_zero, List.set_cons_succ]) | (refine wpG_take ?_ ?_; (focus rfl); apply Exists.intro; refine ⟨fun w' hw' => ?_, ?_⟩; (focus (have hc := Gr.cells hw'; go_simp; (try rfl); done)); try simp only [Act.put, List.setIfInBounds_toArray, List.set_cons_zero, List.set_cons_succ]) | (refine wpG_run ?_ (fun K hK => ?_); (focus rfl); go_simp; (first | (go_at_call 12; (with_reducible refine (ok3_yes p j o1 t _ (HR.out.later hG)).mono ?_); rintro e wq ⟨rfl, hb⟩) | (go_at_call 25; (with_reducible refine (HH1.out _).mono ?_); rintro e wq ⟨rfl, hb⟩) | (go_at_call 25; (with_reducible refine (HH2.out _).mono ?_); rintro e wq ⟨rfl, hb⟩) | (go_at_call 25; (with_reducible refine (HH3.out _).mono ?_); rintro e wq ⟨rfl, hb⟩)); (try dsimp only); replace hG := hG.trans hb; refine hK.out _ _ hG ?_; clear hK K hb; try simp only [Act.put, List.setIfInBounds_toArray, List.set_cons_zero, List.set_cons_succ]))
            refine wpG_done ?_
            clear c_x0 c_x1 c_x2 c_x3 c_x4 c_x5 c_x6 c_x7 m_x0 m_x1 m_x2 m_x3 m_x4 m_x5 m_x6 m_x7 l_x
            replace hR := HR.out.later hG
            replace xr := xr.later hG
            replace xs := xs.later hG
            replace hK := hK.trans (Kp.gr hG)
            have HM : Hid (go3 p t wr = go3 p t wq) := Lib.hid (by rw [go3_ok HR.out, go3_ok hR])
            clear HR hG
            have HIT : Hid (∀ w', Gr wq w' → Calls Tryz.prog 28 #[.pointer (some ⟨p, 0, none⟩)] w' fun e w5 => ∃ x : BitVec 256, e = .returned (.agg #[.int .u64 (wd x 0), .int .u64 (wd x 1), .int .u64 (wd x 2), .int .u64 (wd x 3)]) ∧ Kp p w' w5 ∧ St3 itemsF p o1 (j + 1) t Y (s ||| x) w5) := by
              intro w' hw'
              refine (item3_any p j o1 t w' (hR.later hw') HT.out HJ.out.1).mono ?_
              rintro e w5 ⟨hK5, hm⟩
              cases hx : itemP (t.drop j) with
              | bad d r =>
                rw [hx] at hm
                obtain ⟨x, q, rfl, hq, hR5⟩ := hm
                exact ⟨x, rfl, hK5, .inr ⟨d, r, q, by rw [← HY.out]; exact itemsF_bad s HSS.out hx, by have := HB1.out; omega, hR5⟩⟩
              | ok x r =>
                rw [hx] at hm
                obtain ⟨rfl, hR5⟩ := hm
                have hl := itemP_len (t.drop j)
                rw [hx] at hl
                obtain ⟨j0, hj1, hj2, rfl⟩ := hl
                rw [List.length_drop] at hj2
                refine ⟨x, rfl, hK5, .inl ⟨j + j0, by omega, by have := HJ.out; omega, ?_, ?_⟩⟩
                · rw [← HY.out, itemsF_go s HSS.out hx, List.drop_drop]
                · rw [List.drop_drop, List.length_drop, show t.length - (t.length - (j + j0)) = j + j0 by have := HJ.out; omega] at hR5; exact hR5
            have hs2 : w.heap.size + 1 < wq.heap.size := xs.lt (by simp)
            have HXS := Lib.hid xs
            have c_s0 := xs.cell 0 _ rfl
            have c_s1 := xs.cell 1 _ rfl
            have c_s2 := xs.cell 2 _ rfl
            have c_s3 := xs.cell 3 _ rfl
            have m_s0 := xs.mark 0 _ rfl
            have m_s1 := xs.mark 1 _ rfl
            have m_s2 := xs.mark 2 _ rfl
            have m_s3 := xs.mark 3 _ rfl
            have l_s := xs.lt (Nat.succ_pos _)
            go_upto_region 17 with fail
            go_region_with (first
              | (go_at_call 28; (with_reducible refine (HIT.out _ (Gr.drew _)).mono ?_); rintro e w5 ⟨x, rfl, hK5, hst5⟩; have hK6 : Kp p wq w5 := (Kp.gr (Gr.drew _)).trans hK5; have xs5 : boxAt w5 (w.heap.size + 1) [.int .u64 (wd s 0), .int .u64 (wd s 1), .int .u64 (wd s 2), .int .u64 (wd s 3)] := boxAt.kept HXS.out hK6 hne2 (by simp); have z0 := xs5.cell 0 _ rfl; have z1 := xs5.cell 1 _ rfl; have z2 := xs5.cell 2 _ rfl; have z3 := xs5.cell 3 _ rfl; have lz := xs5.lt (Nat.succ_pos _))
              | (go_at_call 27; (with_reducible refine (r1union _ _ _).mono ?_); rintro e w7 ⟨rfl, hq7⟩; have xs7 := xs5.later hq7; have y0 := xs7.cell 0 _ rfl; have y1 := xs7.cell 1 _ rfl; have y2 := xs7.cell 2 _ rfl; have y3 := xs7.cell 3 _ rfl; have v0 := xs7.mark 0 _ rfl; have v1 := xs7.mark 1 _ rfl; have v2 := xs7.mark 2 _ rfl; have v3 := xs7.mark 3 _ rfl; have lz7 := xs7.lt (Nat.succ_pos _)))
            all_goals
              go_wp2_with fail
              go_roundw
              case rel => exact ⟨s ||| x, ((hst5.later hq7).far4 hne2 _ _ _ _).mono (by have := HJ.out; omega), ((xr.kept hK6 hne (by simp)).later hq7).far4 (by omega) _ _ _ _, xs7.put4 _ _ _ _, ((hK.trans hK6).trans (Kp.gr hq7)).put4 (by omega) _ _ _ _⟩
              case measure =>
                rw [HM.out]
                exact ((hst5.later hq7).far4 hne2 _ _ _ _).less hR (by omega) HJ.out.1
      case rest =>
        clear hR xr xs hK
        obtain ⟨s0, hst0, xr, xs, hK⟩ := hcut
        have hs1 : w.heap.size + 1 < wc.heap.size := xs.lt (by simp)
        -- what the tails begin with
        have HT0 : Hid (∀ w', Kp p wc w' → wc.heap[p]? = w'.heap[p]? → St3 (fun l s => tailsF o l s) p o1 k1 t X (if qn then ~~~s0 else s0) w') := by
          intro w' hkp hpp
          have hbx : ∀ vs, boxAt wc p vs → boxAt w' p vs := fun vs h => h.heap hpp.symm
          rcases hst0 with h | h
          · obtain ⟨j, h0, h1, h2, h3⟩ := h
            exact .inl ⟨j, by have := HB1.out; omega, h1, HXok.out s0 j h2, hbx _ h3⟩
          · obtain ⟨d, r, q, h1, h2, h3⟩ := h
            exact .inr ⟨d, r, q, HXbad.out d r h1, h2, hbx _ h3⟩
        clear hst0
        go_upto_if 123 with fail
        go_cut [123] from 124 to 125 (fun _ wx => ∃ s : BitVec 256, Hid (St3 (fun l s => tailsF o l s) p o1 k1 t X s wx) ∧ boxAt wx w.heap.size [.int .u64 0, .int .u64 0, .int .u64 0, .int .u64 0] ∧ boxAt wx (w.heap.size + 1) [.int .u64 (wd s 0), .int .u64 (wd s 1), .int .u64 (wd s 2), .int .u64 (wd s 3)] ∧ Kp p w wx)
        case first =>
          cases qn
          · go_wp2_with fail
            go_meet
            case rel => exact ⟨s0, Lib.hid (HT0.out _ (Kp.refl _ _) rfl), xr, xs, hK⟩
          · have c_s0 := xs.cell 0 _ rfl
            have c_s1 := xs.cell 1 _ rfl
            have c_s2 := xs.cell 2 _ rfl
            have c_s3 := xs.cell 3 _ rfl
            have m_s0 := xs.mark 0 _ rfl
            have m_s1 := xs.mark 1 _ rfl
            have m_s2 := xs.mark 2 _ rfl
            have m_s3 := xs.mark 3 _ rfl
            have l_s := xs.lt (Nat.succ_pos _)
            go_wp2_with fail
            go_at_call 29
            refine (r1compl s0 wc).mono ?_; rintro e w8 ⟨rfl, hq⟩
            clear c_s0 c_s1 c_s2 c_s3 m_s0 m_s1 m_s2 m_s3 l_s
            have hsp : wc.heap[p]? = w8.heap[p]? := (Below.block hq p (by have := hK.size; omega)).symm
            have hst := HT0.out w8 (Kp.gr hq) hsp
            simp only [if_true] at hst
            have HST := Lib.hid hst
            replace xs := xs.later hq
            replace xr := xr.later hq
            replace hK := hK.trans (Kp.gr hq)
            clear hst hsp hq hs1
            have hs1 : w.heap.size + 1 < w8.heap.size := xs.lt (by simp)
            have c_s0 := xs.cell 0 _ rfl
            have c_s1 := xs.cell 1 _ rfl
            have c_s2 := xs.cell 2 _ rfl
            have c_s3 := xs.cell 3 _ rfl
            have m_s0 := xs.mark 0 _ rfl
            have m_s1 := xs.mark 1 _ rfl
            have m_s2 := xs.mark 2 _ rfl
            have m_s3 := xs.mark 3 _ rfl
            have l_s := xs.lt (Nat.succ_pos _)
            go_wp2_with fail
            go_meet
            case rel => exact ⟨~~~s0, Lib.hid (HST.out.far4 hne2 _ _ _ _), xr.far4 (by omega) _ _ _ _, xs.put4 _ _ _ _, hK.put4 (by omega) _ _ _ _⟩
        case rest =>
          clear HT0 xr xs hK hs1
          obtain ⟨s1, hst, xr, xs, hK⟩ := hcut
          go_upto_block 2 with fail
          refine name_world (fun W4 hW4 => ?_)
          subst hW4
          go_cut [6, 7] from 126 to 185 (fun _ _ wx => ∃ (s : BitVec 256) (q : Nat) (f : Option (Bool × Nat)), Hid (Rd3 wx p t q o1 f) ∧ Hid (q + o1 ≤ t.length + 40 ∧ match f with | none => X = .ok s (t.drop (q + 1)) ∧ q + 1 ≤ t.length | some (d, a) => ∃ r, X = .bad d r ∧ a = t.length - r.length) ∧ boxAt wx w.heap.size [.int .u64 0, .int .u64 0, .int .u64 0, .int .u64 0] ∧ boxAt wx (w.heap.size + 1) [.int .u64 (wd s 0), .int .u64 (wd s 1), .int .u64 (wd s 2), .int .u64 (wd s 3)] ∧ Kp p w wx)
          case first =>
            go_wp2_with fail
            go_loopw [6, 7] (fun _ _ wr => ∃ s : BitVec 256, Hid (St3 (fun l s => tailsF o l s) p o1 k1 t X s wr) ∧ boxAt wr w.heap.size [.int .u64 0, .int .u64 0, .int .u64 0, .int .u64 0] ∧ boxAt wr (w.heap.size + 1) [.int .u64 (wd s 0), .int .u64 (wd s 1), .int .u64 (wd s 2), .int .u64 (wd s 3)] ∧ Kp p w wr) (fun _ _ wr => go3 p t wr)
            case atStart => exact ⟨s1, hst, xr, xs, hK⟩
            case round =>
              clear hst xr xs hK
              obtain ⟨s, hst, xr, xs, hK⟩ := hrel
              have hs1 : w.heap.size + 1 < wr.heap.size := xs.lt (by simp)
              rcases hst with ⟨j, hkj, hj, hY, hR⟩ | ⟨d, r, q, hXb, hq, hR⟩
              rotate_left
              · have HR := Lib.hid hR
                have HQX := Lib.hid (show X = .bad d r ∧ q + o1 ≤ t.length + 40 from ⟨hXb, hq⟩)
                clear hXb hq
                go_upto_region 20 with fail
                have c_x0 := hR.cell 0 _ rfl
                have c_x1 := hR.cell 1 _ rfl
                have c_x2 := hR.cell 2 _ rfl
                have c_x3 := hR.cell 3 _ rfl
                have c_x4 := hR.cell 4 _ rfl
                have c_x5 := hR.cell 5 _ rfl
                have c_x6 := hR.cell 6 _ rfl
                have c_x7 := hR.cell 7 _ rfl
                have m_x0 := hR.mark 0 _ rfl
                have m_x1 := hR.mark 1 _ rfl
                have m_x2 := hR.mark 2 _ rfl
                have m_x3 := hR.mark 3 _ rfl
                have m_x4 := hR.mark 4 _ rfl
                have m_x5 := hR.mark 5 _ rfl
                have m_x6 := hR.mark 6 _ rfl
                have m_x7 := hR.mark 7 _ rfl
                have l_x := hR.lt (Nat.succ_pos _)
                refine wp_region_G (.take 0 (.run 1 false (.take 2 (.take 3 (.take 4 (.take 5 (.take 6 (.take 7 (.take 8 (.take 9 (.take 10 (.run 11 false (.take 12 (.take 13 .nil)))))))))))))) (by kernel_rfl) (by kernel_rfl) ?_
                simp only [pickOps, nthOp]
                intro wq hG
                repeat (first | (refine wpG_skip_take ?_ ?_; (focus rfl); try simp only [Act.put, List.setIfInBounds_toArray, List.set_cons_zero, List.set_cons_succ]) | (refine wpG_skip_run ?_ ?_; (focus rfl); try simp only [Act.put, List.setIfInBounds_toArray, List.set_cons_zero, List.set_cons_succ]) | (refine wpG_take ?_ ?_; (focus rfl); apply Exists.intro; refine ⟨fun w' hw' => ?_, ?_⟩; (focus (have hc := Gr.cells hw'; go_simp; (try rfl); done)); try simp only [Act.put, List.setIfInBounds_toArray, List.set_cons_zero, List.set_cons_succ]) | (refine wpG_run ?_ (fun K hK => ?_); (focus rfl); go_simp; (first | (go_at_call 12; (with_reducible refine (ok3_no p q o1 t _ _ (HR.out.later hG)).mono ?_); rintro e wq ⟨rfl, hb⟩)); (try dsimp only); replace hG := hG.trans hb; refine hK.out _ _ hG ?_; clear hK K hb; try simp only [Act.put, List.setIfInBounds_toArray, List.set_cons_zero, List.set_cons_succ]))
                refine wpG_done ?_
                clear c_x0 c_x1 c_x2 c_x3 c_x4 c_x5 c_x6 c_x7 m_x0 m_x1 m_x2 m_x3 m_x4 m_x5 m_x6 m_x7 l_x
                replace hR := HR.out.later hG
                replace xr := xr.later hG
                replace xs := xs.later hG
                replace hK := hK.trans (Kp.gr hG)
                clear HR hG
                go_wp2_with fail
                go_meet
                case rel => exact ⟨s, q, some (d, t.length - r.length), hR, Lib.hid ⟨HQX.out.2, r, HQX.out.1, rfl⟩, xr, xs, hK⟩
              have HR := Lib.hid hR
              have HJ := Lib.hid (show j ≤ t.length ∧ k1 ≤ j from ⟨hj, hkj⟩)
              have HY := Lib.hid (show tailsF o (t.drop j) s = X from hY)
              obtain ⟨b1, hb1⟩ : ∃ b, pre [93] (t.drop j) = b := ⟨_, rfl⟩
              obtain ⟨b2, hb2⟩ : ∃ b, pre [45, 45] (t.drop j) = b := ⟨_, rfl⟩
              obtain ⟨b3, hb3⟩ : ∃ b, pre [38, 38] (t.drop j) = b := ⟨_, rfl⟩
              have HH1 := Lib.hid (fun w => has3_of t [93] j b1 { data := #[93] } w rfl hb1 hj (by decide) (by decide) HT.out)
              have HH2 := Lib.hid (fun w => has3_of t [45, 45] j b2 { data := #[45, 45] } w rfl hb2 hj (by decide) (by decide) HT.out)
              have HH3 := Lib.hid (fun w => has3_of t [38, 38] j b3 { data := #[38, 38] } w rfl hb3 hj (by decide) (by decide) HT.out)
              have HP1 := Lib.hid hb1
              have HP2 := Lib.hid hb2
              have HP3 := Lib.hid hb3
              clear hb1 hb2 hb3 hY hj hkj
              cases b1 with
              | true =>
                have hl9 := pre_len HP1.out
                rw [List.length_drop] at hl9
                simp only [List.length_cons, List.length_nil] at hl9
                have HX2 : Hid (X = .ok s (t.drop (j + 1)) ∧ j + 1 ≤ t.length) := Lib.hid ⟨by rw [← HY.out, tailsF_end HP1.out, List.drop_drop], by omega⟩
                clear hl9
                go_upto_region 20 with fail
                have c_x0 := hR.cell 0 _ rfl
                have c_x1 := hR.cell 1 _ rfl
                have c_x2 := hR.cell 2 _ rfl
                have c_x3 := hR.cell 3 _ rfl
                have c_x4 := hR.cell 4 _ rfl
                have c_x5 := hR.cell 5 _ rfl
                have c_x6 := hR.cell 6 _ rfl
                have c_x7 := hR.cell 7 _ rfl
                have m_x0 := hR.mark 0 _ rfl
                have m_x1 := hR.mark 1 _ rfl
                have m_x2 := hR.mark 2 _ rfl
                have m_x3 := hR.mark 3 _ rfl
                have m_x4 := hR.mark 4 _ rfl
                have m_x5 := hR.mark 5 _ rfl
                have m_x6 := hR.mark 6 _ rfl
                have m_x7 := hR.mark 7 _ rfl
                have l_x := hR.lt (Nat.succ_pos _)
                refine wp_region_G (.take 0 (.run 1 false (.take 2 (.take 3 (.take 4 (.take 5 (.take 6 (.take 7 (.take 8 (.take 9 (.take 10 (.run 11 false (.take 12 (.take 13 .nil)))))))))))))) (by kernel_rfl) (by kernel_rfl) ?_
                simp only [pickOps, nthOp]
                intro wq hG
                repeat (first | (refine wpG_skip_take ?_ ?_; (focus rfl); try simp only [Act.put, List.setIfInBounds_toArray, List.set_cons_zero, List.set_cons_succ]) | (refine wpG_skip_run ?_ ?_; (focus rfl); try simp only [Act.put, List.setIfInBounds_toArray, List.set_cons_zero, List.set_cons_succ]) | (refine wpG_take ?_ ?_; (focus rfl); apply Exists.intro; refine ⟨fun w' hw' => ?_, ?_⟩; (focus (have hc := Gr.cells hw'; go_simp; (try rfl); done)); try simp only [Act.put, List.setIfInBounds_toArray, List.set_cons_zero, List.set_cons_succ]) | (refine wpG_run ?_ (fun K hK => ?_); (focus rfl); go_simp; (first | (go_at_call 12; (with_reducible refine (ok3_yes p j o1 t _ (HR.out.later hG)).mono ?_); rintro e wq ⟨rfl, hb⟩) | (go_at_call 25; (with_reducible refine (HH1.out _).mono ?_); rintro e wq ⟨rfl, hb⟩) | (go_at_call 25; (with_reducible refine (HH2.out _).mono ?_); rintro e wq ⟨rfl, hb⟩) | (go_at_call 25; (with_reducible refine (HH3.out _).mono ?_); rintro e wq ⟨rfl, hb⟩)); (try dsimp only); replace hG := hG.trans hb; refine hK.out _ _ hG ?_; clear hK K hb; try simp only [Act.put, List.setIfInBounds_toArray, List.set_cons_zero, List.set_cons_succ]))
                refine wpG_done ?_
                clear c_x0 c_x1 c_x2 c_x3 c_x4 c_x5 c_x6 c_x7 m_x0 m_x1 m_x2 m_x3 m_x4 m_x5 m_x6 m_x7 l_x
                replace hR := HR.out.later hG
                replace xr := xr.later hG
                replace xs := xs.later hG
                replace hK := hK.trans (Kp.gr hG)
                clear HR hG
                go_wp2_with fail
                go_meet
                case rel => exact ⟨s, j, none, hR, Lib.hid ⟨by have := HJ.out; have := HB1.out; omega, HX2.out⟩, xr, xs, hK⟩
              | false =>
                have HGO := Lib.hid (go3_ok hR)
                go_upto_region 20 with fail
                have c_x0 := hR.cell 0 _ rfl
                have c_x1 := hR.cell 1 _ rfl
                have c_x2 := hR.cell 2 _ rfl
                have c_x3 := hR.cell 3 _ rfl
                have c_x4 := hR.cell 4 _ rfl
                have c_x5 := hR.cell 5 _ rfl
                have c_x6 := hR.cell 6 _ rfl
                have c_x7 := hR.cell 7 _ rfl
                have m_x0 := hR.mark 0 _ rfl
                have m_x1 := hR.mark 1 _ rfl
                have m_x2 := hR.mark 2 _ rfl
                have m_x3 := hR.mark 3 _ rfl
                have m_x4 := hR.mark 4 _ rfl
                have m_x5 := hR.mark 5 _ rfl
                have m_x6 := hR.mark 6 _ rfl
                have m_x7 := hR.mark 7 _ rfl
                have l_x := hR.lt (Nat.succ_pos _)
                refine wp_region_G (.take 0 (.run 1 false (.take 2 (.take 3 (.take 4 (.take 5 (.take 6 (.take 7 (.take 8 (.take 9 (.take 10 (.run 11 false (.take 12 (.take 13 .nil)))))))))))))) (by kernel_rfl) (by kernel_rfl) ?_
                simp only [pickOps, nthOp]
                intro wq hG
                repeat (first | (refine wpG_skip_take ?_ ?_; (focus rfl); try simp only [Act.put, List.setIfInBounds_toArray, List.set_cons_zero, List.set_cons_succ]) | (refine wpG_skip_run ?_ ?_; (focus rfl); try simp only [Act.put, List.setIfInBounds_toArray, List.set_cons_zero, List.set_cons_succ]) | (refine wpG_take ?_ ?_; (focus rfl); apply Exists.intro; refine ⟨fun w' hw' => ?_, ?_⟩; (focus (have hc := Gr.cells hw'; go_simp; (try rfl); done)); try simp only [Act.put, List.setIfInBounds_toArray, List.set_cons_zero, List.set_cons_succ]) | (refine wpG_run ?_ (fun K hK => ?_); (focus rfl); go_simp; (first | (go_at_call 12; (with_reducible refine (ok3_yes p j o1 t _ (HR.out.later hG)).mono ?_); rintro e wq ⟨rfl, hb⟩) | (go_at_call 25; (with_reducible refine (HH1.out _).mono ?_); rintro e wq ⟨rfl, hb⟩) | (go_at_call 25; (with_reducible refine (HH2.out _).mono ?_); rintro e wq ⟨rfl, hb⟩) | (go_at_call 25; (with_reducible refine (HH3.out _).mono ?_); rintro e wq ⟨rfl, hb⟩)); (try dsimp only); replace hG := hG.trans hb; refine hK.out _ _ hG ?_; clear hK K hb; try simp only [Act.put, List.setIfInBounds_toArray, List.set_cons_zero, List.set_cons_succ]))
                refine wpG_done ?_
                clear c_x0 c_x1 c_x2 c_x3 c_x4 c_x5 c_x6 c_x7 m_x0 m_x1 m_x2 m_x3 m_x4 m_x5 m_x6 m_x7 l_x
                replace hR := HR.out.later hG
                replace xr := xr.later hG
                replace xs := xs.later hG
                replace hK := hK.trans (Kp.gr hG)
                clear HR hG
                have HR := Lib.hid hR
                go_upto_region 21 with fail
                have c_x0 := hR.cell 0 _ rfl
                have c_x1 := hR.cell 1 _ rfl
                have c_x2 := hR.cell 2 _ rfl
                have c_x3 := hR.cell 3 _ rfl
                have c_x4 := hR.cell 4 _ rfl
                have c_x5 := hR.cell 5 _ rfl
                have c_x6 := hR.cell 6 _ rfl
                have c_x7 := hR.cell 7 _ rfl
                have m_x0 := hR.mark 0 _ rfl
                have m_x1 := hR.mark 1 _ rfl
                have m_x2 := hR.mark 2 _ rfl
                have m_x3 := hR.mark 3 _ rfl
                have m_x4 := hR.mark 4 _ rfl
                have m_x5 := hR.mark 5 _ rfl
                have m_x6 := hR.mark 6 _ rfl
                have m_x7 := hR.mark 7 _ rfl
                have l_x := hR.lt (Nat.succ_pos _)
                refine wp_region_G (.take 0 (.take 1 (.take 2 (.take 3 (.take 4 (.take 5 (.take 6 (.take 7 (.run 8 false (.run 9 true .nil)))))))))) (by kernel_rfl) (by kernel_rfl) ?_
                simp only [pickOps, nthOp]
                intro wq hG
                repeat (first | (refine wpG_skip_take ?_ ?_; (focus rfl); try simp only [Act.put, List.setIfInBounds_toArray, List.set_cons_zero, List.set_cons_succ]) | (refine wpG_skip_run ?_ ?_; (focus rfl); try simp only [Act.put, List.setIfInBounds_toArray, List.set_cons_zero, List.set_cons_succ]) | (refine wpG_take ?_ ?_; (focus rfl); apply Exists.intro; refine ⟨fun w' hw' => ?_, ?_⟩; (focus (have hc := Gr.cells hw'; go_simp; (try rfl); done)); try simp only [Act.put, List.setIfInBounds_toArray, List.set_cons_zero, List.set_cons_succ]) | (refine wpG_run ?_ (fun K hK => ?_); (focus rfl); go_simp; (first | (go_at_call 25; (with_reducible refine (HH2.out _).mono ?_); rintro e wq ⟨rfl, hb⟩)); (try dsimp only); replace hG := hG.trans hb; refine hK.out _ _ hG ?_; clear hK K hb; try simp only [Act.put, List.setIfInBounds_toArray, List.set_cons_zero, List.set_cons_succ]))
                refine wpG_last ?_ (fun K hK => ?_); (focus rfl)
                have hc := hG.cells
                have hm := hG.marks
                go_simp
                refine hK.out _ _ ?_
                try simp only [Act.put, List.setIfInBounds_toArray, List.set_cons_zero, List.set_cons_succ]
                clear hK K hc hm
                refine wpG_done ?_
                clear c_x0 c_x1 c_x2 c_x3 c_x4 c_x5 c_x6 c_x7 m_x0 m_x1 m_x2 m_x3 m_x4 m_x5 m_x6 m_x7 l_x
                replace hR := HR.out.later hG
                replace xr := xr.later hG
                replace xs := xs.later hG
                replace hK := hK.trans (Kp.gr hG)
                clear HR hG
                have HR := Lib.hid hR
                go_upto_region 22 with fail
                have hcase : (b2 = false ∧ b3 = false) ∨ (b2 = true ∨ b2 = false ∧ b3 = true) := by cases b2 <;> cases b3 <;> simp
                rcases hcase with ⟨rfl, rfl⟩ | hcase
                · have HX2 : Hid (X = .bad false (t.drop j)) := Lib.hid (by rw [← HY.out, tailsF_none HP1.out HP2.out HP3.out])
                  have c_x0 := hR.cell 0 _ rfl
                  have c_x1 := hR.cell 1 _ rfl
                  have c_x2 := hR.cell 2 _ rfl
                  have c_x3 := hR.cell 3 _ rfl
                  have c_x4 := hR.cell 4 _ rfl
                  have c_x5 := hR.cell 5 _ rfl
                  have c_x6 := hR.cell 6 _ rfl
                  have c_x7 := hR.cell 7 _ rfl
                  have m_x0 := hR.mark 0 _ rfl
                  have m_x1 := hR.mark 1 _ rfl
                  have m_x2 := hR.mark 2 _ rfl
                  have m_x3 := hR.mark 3 _ rfl
                  have m_x4 := hR.mark 4 _ rfl
                  have m_x5 := hR.mark 5 _ rfl
                  have m_x6 := hR.mark 6 _ rfl
                  have m_x7 := hR.mark 7 _ rfl
                  have l_x := hR.lt (Nat.succ_pos _)
                  refine wp_region_G (.take 0 (.take 1 (.take 2 (.take 3 (.take 4 (.take 5 (.take 6 (.take 7 (.take 8 (.take 9 (.take 10 (.run 11 false (.take 12 (.take 13 .nil)))))))))))))) (by kernel_rfl) (by kernel_rfl) ?_
                  simp only [pickOps, nthOp]
                  intro wq hG
                  repeat (first | (refine wpG_skip_take ?_ ?_; (focus rfl); try simp only [Act.put, List.setIfInBounds_toArray, List.set_cons_zero, List.set_cons_succ]) | (refine wpG_skip_run ?_ ?_; (focus rfl); try simp only [Act.put, List.setIfInBounds_toArray, List.set_cons_zero, List.set_cons_succ]) | (refine wpG_take ?_ ?_; (focus rfl); apply Exists.intro; refine ⟨fun w' hw' => ?_, ?_⟩; (focus (have hc := Gr.cells hw'; go_simp; (try rfl); done)); try simp only [Act.put, List.setIfInBounds_toArray, List.set_cons_zero, List.set_cons_succ]) | (refine wpG_run ?_ (fun K hK => ?_); (focus rfl); go_simp; (first | (go_at_call 25; (with_reducible refine (HH3.out _).mono ?_); rintro e wq ⟨rfl, hb⟩)); (try dsimp only); replace hG := hG.trans hb; refine hK.out _ _ hG ?_; clear hK K hb; try simp only [Act.put, List.setIfInBounds_toArray, List.set_cons_zero, List.set_cons_succ]))
                  refine wpG_done ?_
                  clear c_x0 c_x1 c_x2 c_x3 c_x4 c_x5 c_x6 c_x7 m_x0 m_x1 m_x2 m_x3 m_x4 m_x5 m_x6 m_x7 l_x
                  replace hR := HR.out.later hG
                  replace xr := xr.later hG
                  replace xs := xs.later hG
                  replace hK := hK.trans (Kp.gr hG)
                  clear HR hG
                  have c_x0 := hR.cell 0 _ rfl
                  have c_x1 := hR.cell 1 _ rfl
                  have c_x2 := hR.cell 2 _ rfl
                  have c_x3 := hR.cell 3 _ rfl
                  have c_x4 := hR.cell 4 _ rfl
                  have c_x5 := hR.cell 5 _ rfl
                  have c_x6 := hR.cell 6 _ rfl
                  have c_x7 := hR.cell 7 _ rfl
                  have m_x0 := hR.mark 0 _ rfl
                  have m_x1 := hR.mark 1 _ rfl
                  have m_x2 := hR.mark 2 _ rfl
                  have m_x3 := hR.mark 3 _ rfl
                  have m_x4 := hR.mark 4 _ rfl
                  have m_x5 := hR.mark 5 _ rfl
                  have m_x6 := hR.mark 6 _ rfl
                  have m_x7 := hR.mark 7 _ rfl
                  have l_x := hR.lt (Nat.succ_pos _)
                  go_wp2_with fail
                  go_at_call 26
                  refine (refuse3_any p j o1 j false t none _ hR).mono ?_; rintro e w7 ⟨rfl, hKb, hRb⟩
                  clear c_x0 c_x1 c_x2 c_x3 c_x4 c_x5 c_x6 c_x7 m_x0 m_x1 m_x2 m_x3 m_x4 m_x5 m_x6 m_x7 l_x
                  replace xr := xr.kept hKb hne (by simp)
                  replace xs := xs.kept hKb hne2 (by simp)
                  replace hK := hK.trans hKb
                  go_wp2_with fail
                  go_meet
                  case rel => exact ⟨s, j, some (false, j), hRb, Lib.hid ⟨by have := HJ.out; have := HB1.out; omega, t.drop j, HX2.out, by rw [List.length_drop]; have := HJ.out; omega⟩, xr, xs, hK⟩
                · have hpt : pre [45, 45] (t.drop j) = true ∨ pre [38, 38] (t.drop j) = true := by rcases hcase with rfl | ⟨rfl, rfl⟩; exact .inl HP2.out; exact .inr HP3.out
                  have HPT := Lib.hid hpt
                  obtain ⟨j2, hj2⟩ : ∃ x, j + 2 = x := ⟨_, rfl⟩
                  have hj2l : j2 ≤ t.length := by rcases hpt with h | h <;> (have := pre_len h; rw [List.length_drop] at this; simp at this; omega)
                  have hwj : IntKind.i64.wrap ((j : Int) + 2) = (j2 : Int) := by rw [IntWalk.i64_in _ (by have := HT.out; omega)]; omega
                  have HJ2 := Lib.hid (show j + 2 = j2 ∧ (t.drop j).drop 2 = t.drop j2 ∧ j2 ≤ t.length from ⟨hj2, by rw [List.drop_drop, hj2], hj2l⟩)
                  have HCL : Hid (∀ w', Rd3 w' p t j2 o1 none → Calls Tryz.prog 11 #[.pointer (some ⟨p, 0, none⟩)] w' fun e w5 => ∃ x : BitVec 256, e = .returned (.agg #[.int .u64 (wd x 0), .int .u64 (wd x 1), .int .u64 (wd x 2), .int .u64 (wd x 3)]) ∧ Kp p w' w5 ∧ Hid (St3 (fun l s => tailsF o l s) p o1 (j2 + 1) t X (if b2 then s &&& ~~~x else s &&& x) w5)) := by
                    intro w' hR'
                    refine (IH.out o1 j2 p w' hR' hj2l (by have h1 := HNL.out; have := HJ.out; have := HB1.out; rw [List.length_drop] at h1 ⊢; omega) (by have := HB1.out; omega)).mono ?_
                    rintro e w5 ⟨hK5, hm⟩
                    cases hx : classF o1 (t.drop j2) with
                    | bad d r =>
                      rw [hx] at hm
                      obtain ⟨x, q, rfl, hq, hR5⟩ := hm
                      refine ⟨x, rfl, hK5, .inr ⟨d, r, q, ?_, hq, hR5⟩⟩
                      rw [← HY.out]
                      exact tailsF_bad HP1.out HPT.out (by rw [HJ2.out.2.1, HB1.out.2.1]; exact hx)
                    | ok x r =>
                      rw [hx] at hm
                      obtain ⟨rfl, hR5⟩ := hm
                      have hl := classP_len ((t.drop j2).length + 1) o1 (t.drop j2)
                      rw [show classP ((t.drop j2).length + 1) o1 (t.drop j2) = classF o1 (t.drop j2) from rfl, hx] at hl
                      obtain ⟨j0, hj0, hj3, rfl⟩ := hl
                      rw [List.length_drop] at hj3
                      have hgo := tailsF_go (o := o) (s := s) HP1.out HPT.out (by rw [HJ2.out.2.1, HB1.out.2.1]; exact hx)
                      rw [HY.out, HP2.out] at hgo
                      refine ⟨x, rfl, hK5, .inl ⟨j2 + j0, by omega, by omega, ?_, ?_⟩⟩
                      · rw [hgo, List.drop_drop]
                      · rw [List.drop_drop, List.length_drop, show t.length - (t.length - (j2 + j0)) = j2 + j0 by omega] at hR5; exact hR5
                  clear hpt hj2 hj2l
                  rcases hcase with rfl | ⟨rfl, rfl⟩
                  · have c_x0 := hR.cell 0 _ rfl
                    have c_x1 := hR.cell 1 _ rfl
                    have c_x2 := hR.cell 2 _ rfl
                    have c_x3 := hR.cell 3 _ rfl
                    have c_x4 := hR.cell 4 _ rfl
                    have c_x5 := hR.cell 5 _ rfl
                    have c_x6 := hR.cell 6 _ rfl
                    have c_x7 := hR.cell 7 _ rfl
                    have m_x0 := hR.mark 0 _ rfl
                    have m_x1 := hR.mark 1 _ rfl
                    have m_x2 := hR.mark 2 _ rfl
                    have m_x3 := hR.mark 3 _ rfl
                    have m_x4 := hR.mark 4 _ rfl
                    have m_x5 := hR.mark 5 _ rfl
                    have m_x6 := hR.mark 6 _ rfl
                    have m_x7 := hR.mark 7 _ rfl
                    have l_x := hR.lt (Nat.succ_pos _)
                    refine wp_region_G (.take 0 (.take 1 (.take 2 (.take 3 (.take 4 (.take 5 (.take 6 (.take 7 (.take 8 (.take 9 (.take 10 (.run 11 false (.take 12 (.take 13 .nil)))))))))))))) (by kernel_rfl) (by kernel_rfl) ?_
                    simp only [pickOps, nthOp]
                    intro wq hG
                    repeat (first | (refine wpG_skip_take ?_ ?_; (focus rfl); try simp only [Act.put, List.setIfInBounds_toArray, List.set_cons_zero, List.set_cons_succ]) | (refine wpG_skip_run ?_ ?_; (focus rfl); try simp only [Act.put, List.setIfInBounds_toArray, List.set_cons_zero, List.set_cons_succ]) | (refine wpG_take ?_ ?_; (focus rfl); apply Exists.intro; refine ⟨fun w' hw' => ?_, ?_⟩; (focus (have hc := Gr.cells hw'; go_simp; (try rfl); done)); try simp only [Act.put, List.setIfInBounds_toArray, List.set_cons_zero, List.set_cons_succ]) | (refine wpG_run ?_ (fun K hK => ?_); (focus rfl); go_simp; (first | (go_at_call 25; (with_reducible refine (HH3.out _).mono ?_); rintro e wq ⟨rfl, hb⟩)); (try dsimp only); replace hG := hG.trans hb; refine hK.out _ _ hG ?_; clear hK K hb; try simp only [Act.put, List.setIfInBounds_toArray, List.set_cons_zero, List.set_cons_succ]))
                    refine wpG_done ?_
                    clear c_x0 c_x1 c_x2 c_x3 c_x4 c_x5 c_x6 c_x7 m_x0 m_x1 m_x2 m_x3 m_x4 m_x5 m_x6 m_x7 l_x
                    replace hR := HR.out.later hG
                    replace xr := xr.later hG
                    replace xs := xs.later hG
                    replace hK := hK.trans (Kp.gr hG)
                    clear HR hG
                    have HR := Lib.hid hR
                    have c_x0 := hR.cell 0 _ rfl
                    have c_x1 := hR.cell 1 _ rfl
                    have c_x2 := hR.cell 2 _ rfl
                    have c_x3 := hR.cell 3 _ rfl
                    have c_x4 := hR.cell 4 _ rfl
                    have c_x5 := hR.cell 5 _ rfl
                    have c_x6 := hR.cell 6 _ rfl
                    have c_x7 := hR.cell 7 _ rfl
                    have m_x0 := hR.mark 0 _ rfl
                    have m_x1 := hR.mark 1 _ rfl
                    have m_x2 := hR.mark 2 _ rfl
                    have m_x3 := hR.mark 3 _ rfl
                    have m_x4 := hR.mark 4 _ rfl
                    have m_x5 := hR.mark 5 _ rfl
                    have m_x6 := hR.mark 6 _ rfl
                    have m_x7 := hR.mark 7 _ rfl
                    have l_x := hR.lt (Nat.succ_pos _)
                    go_wp2_with fail
                    go_at_call 11
                    refine name_calls (fun W7 hW => ?_)
                    clear c_x0 c_x1 c_x2 c_x3 c_x4 c_x5 c_x6 c_x7 m_x0 m_x1 m_x2 m_x3 m_x4 m_x5 m_x6 m_x7 l_x
                    replace xr : boxAt W7 w.heap.size [.int .u64 0, .int .u64 0, .int .u64 0, .int .u64 0] := by rw [hW]; exact xr.far ⟨p, 1, none⟩ _ (Ne.symm hne)
                    replace xs : boxAt W7 (w.heap.size + 1) [.int .u64 (wd s 0), .int .u64 (wd s 1), .int .u64 (wd s 2), .int .u64 (wd s 3)] := by rw [hW]; exact xs.far ⟨p, 1, none⟩ _ (Ne.symm hne2)
                    replace hR : Rd3 W7 p t j2 o1 none := by rw [hW]; exact Rd3.at _ p j o1 j2 t none HR.out
                    replace hK : Kp p w W7 := by rw [hW]; exact hK.at_p 1 _
                    clear hW HR
                    refine (HCL.out W7 hR).mono ?_; rintro e w8 ⟨x, rfl, hK8, hst⟩
                    replace xr := xr.kept hK8 hne (by simp)
                    replace xs := xs.kept hK8 hne2 (by simp)
                    replace hK := hK.trans hK8
                    have hs8 : w.heap.size + 1 < w8.heap.size := xs.lt (by simp)
                    have hnx : w8.heap.size ≠ w.heap.size + 1 := by omega
                    have hnx2 : w.heap.size + 1 ≠ w8.heap.size := by omega
                    clear hK8 hR
                    have c_s0 := xs.cell 0 _ rfl
                    have c_s1 := xs.cell 1 _ rfl
                    have c_s2 := xs.cell 2 _ rfl
                    have c_s3 := xs.cell 3 _ rfl
                    have m_s0 := xs.mark 0 _ rfl
                    have m_s1 := xs.mark 1 _ rfl
                    have m_s2 := xs.mark 2 _ rfl
                    have m_s3 := xs.mark 3 _ rfl
                    have l_s := xs.lt (Nat.succ_pos _)
                    go_wp2_with fail
                    go_at_call 30
                    refine name_calls (fun W9 hW => ?_)
                    have hg9 : Gr w8 W9 := by rw [hW]; exact Gr.alloc _ _
                    clear hW
                    refine (r1minus s x W9).mono ?_; rintro e w10 ⟨rfl, hg⟩
                    replace hg9 := hg9.trans hg
                    clear c_s0 c_s1 c_s2 c_s3 m_s0 m_s1 m_s2 m_s3 l_s
                    replace xr := xr.later hg9
                    replace xs := xs.later hg9
                    replace hK := hK.trans (Kp.gr hg9)
                    have hst := St3.later hst hg9
                    have HST := Lib.hid hst
                    have hs10 : w.heap.size + 1 < w10.heap.size := xs.lt (by simp)
                    clear hst hg hg9 hs8 hnx hnx2
                    have c_s0 := xs.cell 0 _ rfl
                    have c_s1 := xs.cell 1 _ rfl
                    have c_s2 := xs.cell 2 _ rfl
                    have c_s3 := xs.cell 3 _ rfl
                    have m_s0 := xs.mark 0 _ rfl
                    have m_s1 := xs.mark 1 _ rfl
                    have m_s2 := xs.mark 2 _ rfl
                    have m_s3 := xs.mark 3 _ rfl
                    have l_s := xs.lt (Nat.succ_pos _)
                    go_wp2_with fail
                    go_roundw
                    case rel => exact ⟨s &&& ~~~x, (HST.out.far4 hne2 _ _ _ _).mono (by have := HJ2.out; have := HJ.out; omega), xr.far4 (by omega) _ _ _ _, xs.put4 _ _ _ _, hK.put4 (by omega) _ _ _ _⟩
                    case measure =>
                      have hl := (HST.out.far4 hne2 (.int .u64 (wd (s &&& ~~~x) 0)) (.int .u64 (wd (s &&& ~~~x) 1)) (.int .u64 (wd (s &&& ~~~x) 2)) (.int .u64 (wd (s &&& ~~~x) 3)))
                      rw [HGO.out]
                      rcases hl with ⟨j', h0, h1, h2, h3⟩ | ⟨d, r, q, h1, h2, h3⟩
                      · rw [go3_ok h3]; have := HJ2.out; have := HJ.out; omega
                      · rw [go3_bad h3]; have := HJ.out; omega
                  · have c_x0 := hR.cell 0 _ rfl
                    have c_x1 := hR.cell 1 _ rfl
                    have c_x2 := hR.cell 2 _ rfl
                    have c_x3 := hR.cell 3 _ rfl
                    have c_x4 := hR.cell 4 _ rfl
                    have c_x5 := hR.cell 5 _ rfl
                    have c_x6 := hR.cell 6 _ rfl
                    have c_x7 := hR.cell 7 _ rfl
                    have m_x0 := hR.mark 0 _ rfl
                    have m_x1 := hR.mark 1 _ rfl
                    have m_x2 := hR.mark 2 _ rfl
                    have m_x3 := hR.mark 3 _ rfl
                    have m_x4 := hR.mark 4 _ rfl
                    have m_x5 := hR.mark 5 _ rfl
                    have m_x6 := hR.mark 6 _ rfl
                    have m_x7 := hR.mark 7 _ rfl
                    have l_x := hR.lt (Nat.succ_pos _)
                    refine wp_region_G (.take 0 (.take 1 (.take 2 (.take 3 (.take 4 (.take 5 (.take 6 (.take 7 (.take 8 (.take 9 (.take 10 (.run 11 false (.take 12 (.take 13 .nil)))))))))))))) (by kernel_rfl) (by kernel_rfl) ?_
                    simp only [pickOps, nthOp]
                    intro wq hG
                    repeat (first | (refine wpG_skip_take ?_ ?_; (focus rfl); try simp only [Act.put, List.setIfInBounds_toArray, List.set_cons_zero, List.set_cons_succ]) | (refine wpG_skip_run ?_ ?_; (focus rfl); try simp only [Act.put, List.setIfInBounds_toArray, List.set_cons_zero, List.set_cons_succ]) | (refine wpG_take ?_ ?_; (focus rfl); apply Exists.intro; refine ⟨fun w' hw' => ?_, ?_⟩; (focus (have hc := Gr.cells hw'; go_simp; (try rfl); done)); try simp only [Act.put, List.setIfInBounds_toArray, List.set_cons_zero, List.set_cons_succ]) | (refine wpG_run ?_ (fun K hK => ?_); (focus rfl); go_simp; (first | (go_at_call 25; (with_reducible refine (HH3.out _).mono ?_); rintro e wq ⟨rfl, hb⟩)); (try dsimp only); replace hG := hG.trans hb; refine hK.out _ _ hG ?_; clear hK K hb; try simp only [Act.put, List.setIfInBounds_toArray, List.set_cons_zero, List.set_cons_succ]))
                    refine wpG_done ?_
                    clear c_x0 c_x1 c_x2 c_x3 c_x4 c_x5 c_x6 c_x7 m_x0 m_x1 m_x2 m_x3 m_x4 m_x5 m_x6 m_x7 l_x
                    replace hR := HR.out.later hG
                    replace xr := xr.later hG
                    replace xs := xs.later hG
                    replace hK := hK.trans (Kp.gr hG)
                    clear HR hG
                    have HR := Lib.hid hR
                    have c_x0 := hR.cell 0 _ rfl
                    have c_x1 := hR.cell 1 _ rfl
                    have c_x2 := hR.cell 2 _ rfl
                    have c_x3 := hR.cell 3 _ rfl
                    have c_x4 := hR.cell 4 _ rfl
                    have c_x5 := hR.cell 5 _ rfl
                    have c_x6 := hR.cell 6 _ rfl
                    have c_x7 := hR.cell 7 _ rfl
                    have m_x0 := hR.mark 0 _ rfl
                    have m_x1 := hR.mark 1 _ rfl
                    have m_x2 := hR.mark 2 _ rfl
                    have m_x3 := hR.mark 3 _ rfl
                    have m_x4 := hR.mark 4 _ rfl
                    have m_x5 := hR.mark 5 _ rfl
                    have m_x6 := hR.mark 6 _ rfl
                    have m_x7 := hR.mark 7 _ rfl
                    have l_x := hR.lt (Nat.succ_pos _)
                    go_wp2_with fail
                    go_at_call 11
                    refine name_calls (fun W7 hW => ?_)
                    clear c_x0 c_x1 c_x2 c_x3 c_x4 c_x5 c_x6 c_x7 m_x0 m_x1 m_x2 m_x3 m_x4 m_x5 m_x6 m_x7 l_x
                    replace xr : boxAt W7 w.heap.size [.int .u64 0, .int .u64 0, .int .u64 0, .int .u64 0] := by rw [hW]; exact xr.far ⟨p, 1, none⟩ _ (Ne.symm hne)
                    replace xs : boxAt W7 (w.heap.size + 1) [.int .u64 (wd s 0), .int .u64 (wd s 1), .int .u64 (wd s 2), .int .u64 (wd s 3)] := by rw [hW]; exact xs.far ⟨p, 1, none⟩ _ (Ne.symm hne2)
                    replace hR : Rd3 W7 p t j2 o1 none := by rw [hW]; exact Rd3.at _ p j o1 j2 t none HR.out
                    replace hK : Kp p w W7 := by rw [hW]; exact hK.at_p 1 _
                    clear hW HR
                    refine (HCL.out W7 hR).mono ?_; rintro e w8 ⟨x, rfl, hK8, hst⟩
                    replace xr := xr.kept hK8 hne (by simp)
                    replace xs := xs.kept hK8 hne2 (by simp)
                    replace hK := hK.trans hK8
                    have hs8 : w.heap.size + 1 < w8.heap.size := xs.lt (by simp)
                    have hnx : w8.heap.size ≠ w.heap.size + 1 := by omega
                    have hnx2 : w.heap.size + 1 ≠ w8.heap.size := by omega
                    clear hK8 hR
                    have c_s0 := xs.cell 0 _ rfl
                    have c_s1 := xs.cell 1 _ rfl
                    have c_s2 := xs.cell 2 _ rfl
                    have c_s3 := xs.cell 3 _ rfl
                    have m_s0 := xs.mark 0 _ rfl
                    have m_s1 := xs.mark 1 _ rfl
                    have m_s2 := xs.mark 2 _ rfl
                    have m_s3 := xs.mark 3 _ rfl
                    have l_s := xs.lt (Nat.succ_pos _)
                    go_wp2_with fail
                    go_at_call 31
                    refine name_calls (fun W9 hW => ?_)
                    have hg9 : Gr w8 W9 := by rw [hW]; exact Gr.alloc _ _
                    clear hW
                    refine (r1inter s x W9).mono ?_; rintro e w10 ⟨rfl, hg⟩
                    replace hg9 := hg9.trans hg
                    clear c_s0 c_s1 c_s2 c_s3 m_s0 m_s1 m_s2 m_s3 l_s
                    replace xr := xr.later hg9
                    replace xs := xs.later hg9
                    replace hK := hK.trans (Kp.gr hg9)
                    have hst := St3.later hst hg9
                    have HST := Lib.hid hst
                    have hs10 : w.heap.size + 1 < w10.heap.size := xs.lt (by simp)
                    clear hst hg hg9 hs8 hnx hnx2
                    have c_s0 := xs.cell 0 _ rfl
                    have c_s1 := xs.cell 1 _ rfl
                    have c_s2 := xs.cell 2 _ rfl
                    have c_s3 := xs.cell 3 _ rfl
                    have m_s0 := xs.mark 0 _ rfl
                    have m_s1 := xs.mark 1 _ rfl
                    have m_s2 := xs.mark 2 _ rfl
                    have m_s3 := xs.mark 3 _ rfl
                    have l_s := xs.lt (Nat.succ_pos _)
                    go_wp2_with fail
                    go_roundw
                    case rel => exact ⟨s &&& x, (HST.out.far4 hne2 _ _ _ _).mono (by have := HJ2.out; have := HJ.out; omega), xr.far4 (by omega) _ _ _ _, xs.put4 _ _ _ _, hK.put4 (by omega) _ _ _ _⟩
                    case measure =>
                      have hl := (HST.out.far4 hne2 (.int .u64 (wd (s &&& x) 0)) (.int .u64 (wd (s &&& x) 1)) (.int .u64 (wd (s &&& x) 2)) (.int .u64 (wd (s &&& x) 3)))
                      rw [HGO.out]
                      rcases hl with ⟨j', h0, h1, h2, h3⟩ | ⟨d, r, q, h1, h2, h3⟩
                      · rw [go3_ok h3]; have := HJ2.out; have := HJ.out; omega
                      · rw [go3_bad h3]; have := HJ.out; omega
          case rest =>
            clear hst xr xs hK
            obtain ⟨s, q, f, hR, HF, xr, xs, hK⟩ := hcut
            have hR : Rd3 wc p t q o1 f := hR
            have hw9 : IntKind.i64.wrap ((q : Int) + 1) = ((q + 1 : Nat) : Int) := by rw [IntWalk.i64_in _ (by have := HT.out; have := HF.out.1; omega)]; omega
            obtain ⟨q1, hq1⟩ : ∃ x, q + 1 = x := ⟨_, rfl⟩
            rw [hq1] at hw9
            have HQ1 := Lib.hid hq1
            have HR := Lib.hid hR
            clear hq1
            have c_x0 := hR.cell 0 _ rfl
            have c_x1 := hR.cell 1 _ rfl
            have c_x2 := hR.cell 2 _ rfl
            have c_x3 := hR.cell 3 _ rfl
            have c_x4 := hR.cell 4 _ rfl
            have c_x5 := hR.cell 5 _ rfl
            have c_x6 := hR.cell 6 _ rfl
            have c_x7 := hR.cell 7 _ rfl
            have m_x0 := hR.mark 0 _ rfl
            have m_x1 := hR.mark 1 _ rfl
            have m_x2 := hR.mark 2 _ rfl
            have m_x3 := hR.mark 3 _ rfl
            have m_x4 := hR.mark 4 _ rfl
            have m_x5 := hR.mark 5 _ rfl
            have m_x6 := hR.mark 6 _ rfl
            have m_x7 := hR.mark 7 _ rfl
            have l_x := hR.lt (Nat.succ_pos _)
            have c_s0 := xs.cell 0 _ rfl
            have c_s1 := xs.cell 1 _ rfl
            have c_s2 := xs.cell 2 _ rfl
            have c_s3 := xs.cell 3 _ rfl
            have m_s0 := xs.mark 0 _ rfl
            have m_s1 := xs.mark 1 _ rfl
            have m_s2 := xs.mark 2 _ rfl
            have m_s3 := xs.mark 3 _ rfl
            have l_s := xs.lt (Nat.succ_pos _)
            have c_r0 := xr.cell 0 _ rfl
            have c_r1 := xr.cell 1 _ rfl
            have c_r2 := xr.cell 2 _ rfl
            have c_r3 := xr.cell 3 _ rfl
            have m_r0 := xr.mark 0 _ rfl
            have m_r1 := xr.mark 1 _ rfl
            have m_r2 := xr.mark 2 _ rfl
            have m_r3 := xr.mark 3 _ rfl
            have l_r := xr.lt (Nat.succ_pos _)
            go_wp2_with fail
            refine name_end (fun W9 hW => ?_)
            have xr9 : boxAt W9 w.heap.size [.int .u64 (wd s 0), .int .u64 (wd s 1), .int .u64 (wd s 2), .int .u64 (wd s 3)] := by rw [hW]; exact ((xr.far ⟨p, 1, none⟩ _ (Ne.symm hne)).far ⟨p, 2, none⟩ _ (Ne.symm hne)).put4 _ _ _ _
            have hK9 : Kp p w W9 := by rw [hW]; exact ((hK.at_p 1 _).at_p 2 _).put4 (Nat.le_refl _) _ _ _ _
            have hR9 : Rd3 W9 p t q1 o f := by rw [hW]; exact Rd3.far4 (Rd3.op _ p q1 o1 o t f (Rd3.at _ p q o1 q1 t f HR.out)) hne _ _ _ _
            clear hW
            clear c_r0 c_r1 c_r2 c_r3 m_r0 m_r1 m_r2 m_r3 l_r
            have c_q0 := xr9.cell 0 _ rfl
            have c_q1 := xr9.cell 1 _ rfl
            have c_q2 := xr9.cell 2 _ rfl
            have c_q3 := xr9.cell 3 _ rfl
            have m_q0 := xr9.mark 0 _ rfl
            have m_q1 := xr9.mark 1 _ rfl
            have m_q2 := xr9.mark 2 _ rfl
            have m_q3 := xr9.mark 3 _ rfl
            have l_q := xr9.lt (Nat.succ_pos _)
            refine bodyPost_ret (v := .agg #[.int .u64 (wd s 0), .int .u64 (wd s 1), .int .u64 (wd s 2), .int .u64 (wd s 3)]) (by simp [results, Tryz.results11, go_sem, c_q0, c_q1, c_q2, c_q3]) rfl ?_
            have hF := HF.out
            rw [HQ1.out] at hF
            have hB1 := HB1.out
            have hQ1 := HQ1.out
            cases f with
            | none => exact ClsEnd3.ok hF.2.1 hF.2.2 hK9 hR9
            | some da =>
              obtain ⟨d, a⟩ := da
              obtain ⟨hq, r, hXr, ha⟩ := hF
              subst ha
              exact ClsEnd3.bad hXr (by omega) hK9 hR9

end Go.Proofs.YtihjmeoklbmnmaaGreatDoor
