/- Images, plain: tables read back; whatever is read is written so. No condition. -/
import Derived.Test.YtcbfmajojkcibaaDoorImgP
namespace Go.Proofs.YtcbfmajojkcibaaDoor

theorem varB_len1 {n : Nat} (h : n < 128) : (varB n).length = 1 := by rw [varB_small h]; rfl
theorem varB_len2 {n : Nat} (h : n < 16384) : (varB n).length ≤ 2 := by
  by_cases h1 : n < 128
  · rw [varB_small h1]; simp
  · rw [varB_big h1, varB_small (by omega)]; simp
theorem allI_iff {α : Type} {f : Nat → α → Bool} : ∀ {l : List α} {i : Nat}, allI f i l = true ↔ ∀ k a, l[k]? = some a → f (i + k) a = true
  | [], i => ⟨fun _ k a h => by simp at h, fun _ => rfl⟩
  | x :: l, i => by
    rw [allI, Bool.and_eq_true, allI_iff]
    refine ⟨fun ⟨h1, h2⟩ k a h => ?_, fun h => ⟨h 0 x rfl, fun k a hk => ?_⟩⟩
    · cases k with
      | zero => simp at h; subst h; exact h1
      | succ k => have := h2 k a (by simpa using h); rw [show i + 1 + k = i + (k + 1) by omega] at this; exact this
    · have := h (k + 1) a (by simpa using hk); rw [show i + (k + 1) = i + 1 + k by omega] at this; exact this
theorem allI_mem {α : Type} {f : Nat → α → Bool} {l : List α} (h : allI f 0 l = true) {a : α} (ha : a ∈ l) : ∃ k, k < l.length ∧ f k a = true := by
  obtain ⟨k, hk, rfl⟩ := List.mem_iff_getElem.1 ha
  have := allI_iff.1 h k l[k] (List.getElem?_eq_getElem hk)
  rw [Nat.zero_add] at this
  exact ⟨k, hk, this⟩
theorem allI_take {α : Type} (f : Nat → α → Bool) (l : List α) (k : Nat) (a : α) (h : l[k]? = some a) : allI f 0 (l.take (k + 1)) = (allI f 0 (l.take k) && f k a) := by
  have aux : ∀ (l : List α) (i : Nat) (b : α), allI f i (l ++ [b]) = (allI f i l && f (i + l.length) b) := fun l => by
    induction l with
    | nil => intro i b; simp [allI]
    | cons x l ih => intro i b; simp only [List.cons_append, allI, ih, List.length_cons, Bool.and_assoc]; rw [show i + 1 + l.length = i + (l.length + 1) by omega]
  obtain ⟨hk, rfl⟩ := List.getElem?_eq_some_iff.1 h
  rw [List.take_succ_eq_append_getElem hk, aux, List.length_take, Nat.zero_add, show min k l.length = k by omega]
theorem allI_false {α : Type} {f : Nat → α → Bool} {l : List α} {k : Nat} {a : α} (h : l[k]? = some a) (hf : f k a = false) : allI f 0 l = false := by
  cases hh : allI f 0 l with
  | false => rfl
  | true => have := allI_iff.1 hh k a h; rw [Nat.zero_add, hf] at this; cases this
theorem all_take {α : Type} (f : α → Bool) (l : List α) (k : Nat) (a : α) (h : l[k]? = some a) : (l.take (k + 1)).all f = ((l.take k).all f && f a) := by
  obtain ⟨hk, rfl⟩ := List.getElem?_eq_some_iff.1 h
  rw [List.take_succ_eq_append_getElem hk, List.all_append]
  simp only [List.all_cons, List.all_nil, Bool.and_true]
theorem all_false {α : Type} {f : α → Bool} {l : List α} {k : Nat} {a : α} (h : l[k]? = some a) (hf : f a = false) : l.all f = false := by
  cases hh : l.all f with
  | false => rfl
  | true => have := List.all_eq_true.1 hh a (List.mem_of_getElem? h); rw [hf] at this; cases this
theorem clsGo_lt : ∀ (l : List Int) (n m : Int), clsGo n l = some m → n ≤ m ∧ ∀ c ∈ l, 0 ≤ c ∧ c < m
  | [], n, m, h => by simp only [clsGo, Option.some.injEq] at h; exact ⟨by omega, fun c h => by cases h⟩
  | c :: l, n, m, h => by
    rw [clsGo] at h
    by_cases hc : c < 0 ∨ n < c
    · rw [if_pos hc] at h; cases h
    · rw [if_neg hc] at h
      obtain ⟨h1, h2⟩ := clsGo_lt l _ m h
      refine ⟨by omega, fun d hd => ?_⟩
      rcases List.mem_cons.1 hd with rfl | hd
      · omega
      · exact h2 d hd

/-! Readers. -/
def iR (most : Nat) : List UInt8 → Option (Int × List UInt8) := mapR (numR most) (fun n => (n : Int))
def dR (most : Nat) : List UInt8 → Option (Int × List UInt8) := mapR (numR most) (fun n => (n : Int) - 1)
theorem cod_i (most : Nat) : Cod (iR most) encI (fun x => 0 ≤ x ∧ x ≤ most) :=
  (cod_num most).map _ Int.toNat _ _ (fun b hb => ⟨by omega, by omega, rfl⟩) (fun a ha => ⟨⟨by omega, by omega⟩, by unfold encI; rw [Int.toNat_natCast]⟩)
theorem cod_d (most : Nat) : Cod (dR most) (fun x => varB (x + 1).toNat) (fun x => -1 ≤ x ∧ x + 1 ≤ most) :=
  (cod_num most).map _ (fun x => (x + 1).toNat) _ _ (fun b hb => ⟨by show (b + 1).toNat ≤ most; omega, by omega, rfl⟩) (fun a ha => ⟨⟨by omega, by omega⟩, by rw [Int.sub_add_cancel, Int.toNat_natCast]⟩)
def modeR : List UInt8 → Option ((List UInt8 × Int) × List UInt8) := seqR txR (fun _ => iR 600)
def actR (dd : Nat) : List UInt8 → Option ((Int × Int) × List UInt8) := seqR (iR dd) (fun _ => iR 16)
def cutR (kk : Nat) : List UInt8 → Option ((Int × Int) × List UInt8) := seqR (iR kk) (fun _ => iR 65536)
def ruleR (kk dd : Nat) : List UInt8 → Option ((List UInt8 × ((Int × Int) × List (Int × Int))) × List UInt8) := seqR txR (fun _ => seqR (cutR kk) (fun _ => listR 8 (actR dd)))
def stateR : List UInt8 → Option ((Int × (Int × Int)) × List UInt8) := seqR (dR 200) (fun _ => seqR (iR 262144) (fun _ => dR 600))
def nextR (c : Int) : List UInt8 → Option (Int × List UInt8) := if 0 ≤ c then dR 600 else fun l => some (-1, l)
def slotR : List UInt8 → Option ((Int × Int) × List UInt8) := seqR (dR 600) nextR
def rcR (kk dd cc : Nat) : List UInt8 → Option (Rc × List UInt8) :=
  mapR (seqR (listR 16 modeR) (fun _ => seqR (listR 200 (ruleR kk dd)) (fun _ => seqR (iR 256) (fun _ => seqR (manyR (iR cc) 256) (fun _ => seqR (listR 600 stateR) (fun _ => listR 262144 slotR))))))
    (fun x => ⟨x.1, x.2.1, x.2.2.1, x.2.2.2.1, x.2.2.2.2.1, x.2.2.2.2.2⟩)
def PM (x : List UInt8 × Int) : Prop := x.1.length ≤ 32 ∧ (0 ≤ x.2 ∧ x.2 ≤ (600 : Nat))
def PA (dd : Nat) (a : Int × Int) : Prop := (0 ≤ a.1 ∧ a.1 ≤ dd) ∧ (0 ≤ a.2 ∧ a.2 ≤ (16 : Nat))
def PR (kk dd : Nat) (x : List UInt8 × ((Int × Int) × List (Int × Int))) : Prop := x.1.length ≤ 32 ∧ (((0 ≤ x.2.1.1 ∧ x.2.1.1 ≤ kk) ∧ (0 ≤ x.2.1.2 ∧ x.2.1.2 ≤ (65536 : Nat))) ∧ (x.2.2.length ≤ 8 ∧ ∀ a ∈ x.2.2, PA dd a))
def PS (x : Int × (Int × Int)) : Prop := (-1 ≤ x.1 ∧ x.1 + 1 ≤ (200 : Nat)) ∧ ((0 ≤ x.2.1 ∧ x.2.1 ≤ (262144 : Nat)) ∧ (-1 ≤ x.2.2 ∧ x.2.2 + 1 ≤ (600 : Nat)))
def PC (x : Int × Int) : Prop := (-1 ≤ x.1 ∧ x.1 + 1 ≤ (600 : Nat)) ∧ (if 0 ≤ x.1 then -1 ≤ x.2 ∧ x.2 + 1 ≤ (600 : Nat) else x.2 = -1)
def PRc (kk dd cc : Nat) (x : Rc) : Prop := (x.modes.length ≤ 16 ∧ ∀ a ∈ x.modes, PM a) ∧ ((x.rules.length ≤ 200 ∧ ∀ a ∈ x.rules, PR kk dd a) ∧ ((0 ≤ x.count ∧ x.count ≤ (256 : Nat)) ∧ ((x.classes.length = 256 ∧ ∀ a ∈ x.classes, 0 ≤ a ∧ a ≤ cc) ∧ ((x.states.length ≤ 600 ∧ ∀ a ∈ x.states, PS a) ∧ (x.slots.length ≤ 262144 ∧ ∀ a ∈ x.slots, PC a)))))
theorem cod_mode : Cod modeR encM PM := cod_tx.seq (fun _ _ => cod_i 600)
theorem cod_act (dd : Nat) : Cod (actR dd) encA (PA dd) := (cod_i dd).seq (fun _ _ => cod_i 16)
theorem cod_cut (kk : Nat) : Cod (cutR kk) encA (fun a => (0 ≤ a.1 ∧ a.1 ≤ kk) ∧ (0 ≤ a.2 ∧ a.2 ≤ (65536 : Nat))) := (cod_i kk).seq (fun _ _ => cod_i 65536)
theorem cod_rule (kk dd : Nat) : Cod (ruleR kk dd) encR (PR kk dd) := cod_tx.seq (fun _ _ => (cod_cut kk).seq (fun _ _ => (cod_act dd).list 8))
theorem cod_state : Cod stateR encS PS := (cod_d 200).seq (fun _ _ => (cod_i 262144).seq (fun _ _ => cod_d 600))
theorem cod_slot : Cod slotR encC PC := (cod_d 600).seq (e' := fun (c x : Int) => if 0 ≤ c then varB (x + 1).toNat else []) (P' := fun (c x : Int) => if 0 ≤ c then -1 ≤ x ∧ x + 1 ≤ (600 : Nat) else x = -1) (fun c _ => by
  unfold nextR
  by_cases hc : 0 ≤ c
  · simp only [if_pos hc]; exact cod_d 600
  · simp only [if_neg hc]
    exact ⟨fun a r h => by rw [h]; rfl, fun l a r h => by
      simp only [Option.some.injEq, Prod.mk.injEq] at h
      obtain ⟨rfl, rfl⟩ := h
      exact ⟨rfl, rfl⟩⟩)
theorem cod_rc (kk dd cc : Nat) : Cod (rcR kk dd cc) encRc (PRc kk dd cc) :=
  (((cod_mode.list 16).seq (fun _ _ => ((cod_rule kk dd).list 200).seq (fun _ _ => (cod_i 256).seq (fun _ _ => ((cod_i cc).many 256).seq (fun _ _ => (cod_state.list 600).seq (fun _ _ => cod_slot.list 262144)))))).map
    _ (fun x : Rc => (x.modes, x.rules, x.count, x.classes, x.states, x.slots)) _ _ (fun b hb => ⟨hb, rfl, rfl⟩) (fun a ha => ⟨ha, rfl⟩))

/-- What mayB says. -/
theorem may_prc {t : Tb} (h : mayB t = true) (kk dd cc : Nat) (h2 : 2 ≤ kk) (h3 : 3 ≤ dd) (h4 : 255 ≤ cc) : PRc kk dd cc (rcOf t) ∧ tbOf (rcOf t) = t := by
  unfold mayB at h
  simp only [Bool.and_eq_true, decide_eq_true_eq] at h
  obtain ⟨⟨m1, m2, m3⟩, hr, hc, hb, hl, hm, hlab⟩ := h
  unfold ruledB at hr
  simp only [Bool.and_eq_true, decide_eq_true_eq] at hr
  obtain ⟨⟨r1, r2, r3⟩, r4⟩ := hr
  unfold classesB at hc
  simp only [Bool.and_eq_true, decide_eq_true_eq] at hc
  obtain ⟨c1, c2⟩ := hc
  unfold combB at hb
  simp only [Bool.and_eq_true, decide_eq_true_eq] at hb
  obtain ⟨⟨b1, b2, b3, b4, b5, b6, b7⟩, b8, b9⟩ := hb
  obtain ⟨_, c3⟩ := clsGo_lt _ _ _ c2
  refine ⟨⟨⟨by simp [rcOf]; omega, fun a ha => ?_⟩, ⟨by simp [rcOf]; omega, fun a ha => ?_⟩, ⟨by show 0 ≤ t.count; omega, by show t.count ≤ _; omega⟩, ⟨c1, fun a ha => ?_⟩, ⟨by simp [rcOf]; omega, fun a ha => ?_⟩, ⟨by simp [rcOf]; omega, fun a ha => ?_⟩⟩, tbOf_rcOf t m3 r2 r3 hl b6 b7⟩
  · obtain ⟨k, _, hk⟩ := allI_mem hm ha
    unfold modeB at hk
    simp only [Bool.and_eq_true, decide_eq_true_eq] at hk
    obtain ⟨k1, _, k2, k3⟩ := hk
    exact ⟨nameB_len k1, k2, by omega⟩
  · have hk := List.all_eq_true.1 r4 a ha
    unfold ruleB at hk
    simp only [Bool.and_eq_true] at hk
    obtain ⟨k1, k2, k3⟩ := hk
    unfold cutB at k2
    simp only [Bool.or_eq_true, decide_eq_true_eq] at k2
    unfold actsB at k3
    simp only [Bool.and_eq_true, decide_eq_true_eq] at k3
    refine ⟨nameB_len k1, ⟨⟨by omega, by omega⟩, by omega, by omega⟩, k3.2, fun x hx => ?_⟩
    have hx1 := List.all_eq_true.1 k3.1 x hx
    unfold actB at hx1
    simp only [Bool.or_eq_true, decide_eq_true_eq] at hx1
    exact ⟨⟨by omega, by omega⟩, by omega, by omega⟩
  · have := c3 a ha
    exact ⟨this.1, by omega⟩
  · have ha1 : a.1 ∈ t.label := (List.of_mem_zip ha).1
    have ha2 : a.2 ∈ t.base.zip t.dflt := (List.of_mem_zip ha).2
    have k1 := List.all_eq_true.1 hlab a.1 ha1
    unfold labB at k1
    simp only [decide_eq_true_eq] at k1
    obtain ⟨k, hk0, hk⟩ := allI_mem b8 ha2
    rw [List.length_zip] at hk0
    unfold rowB at hk
    simp only [decide_eq_true_eq] at hk
    exact ⟨⟨k1.1, by omega⟩, ⟨hk.1, by omega⟩, hk.2.2.1, by omega⟩
  · obtain ⟨k, hk0, hk⟩ := allI_mem b9 ha
    unfold slotB at hk
    simp only [Bool.and_eq_true, decide_eq_true_eq] at hk
    obtain ⟨⟨k1, k2, k3, k4⟩, k5, _⟩ := hk
    refine ⟨⟨k1, by omega⟩, ?_⟩
    by_cases h0 : 0 ≤ a.1
    · rw [if_pos h0]; exact ⟨k3, by omega⟩
    · rw [if_neg h0]; exact (k5 (by omega)).1

/-- Tables of bytes. -/
def decT (kk dd cc : Nat) (b : List UInt8) : Option Tb :=
  if 4 ≤ b.length ∧ b.length ≤ 2097152 ∧ b.take 4 = headB then match rcR kk dd cc (b.drop 4) with
    | some (x, []) => if mayB (tbOf x) then some (tbOf x) else none
    | _ => none
  else none
theorem flat_len {α : Type} (e : α → List UInt8) (K : Nat) : ∀ (l : List α), (∀ a ∈ l, (e a).length ≤ K) → (l.flatMap e).length ≤ l.length * K
  | [], _ => by simp
  | a :: l, h => by
    have h1 := h a (by simp)
    have h2 := flat_len e K l (fun x hx => h x (by simp [hx]))
    rw [List.flatMap_cons, List.length_append, List.length_cons, Nat.add_mul]; omega
theorem encT_len {t : Tb} (h : mayB t = true) : (encT t).length ≤ 2097152 := by
  obtain ⟨⟨⟨m1, m2⟩, ⟨r1, r2⟩, ⟨n1, n2⟩, ⟨c1, c2⟩, ⟨s1, s2⟩, ⟨k1, k2⟩⟩, _⟩ := may_prc h 2 3 255 (by omega) (by omega) (by omega)
  unfold encT
  generalize rcOf t = x at *
  have tx : ∀ s : List UInt8, s.length ≤ 32 → (txB s).length ≤ 33 := fun s hs => by
    unfold txB; rw [List.length_append, varB_len1 (by omega)]; omega
  have f1 := flat_len encM 35 x.modes (fun a ha => by
    obtain ⟨h1, h2, h3⟩ := m2 a ha
    unfold encM; rw [List.length_append]
    have := tx a.1 h1
    have := varB_len2 (n := a.2.toNat) (by omega)
    omega)
  have ea : ∀ a : Int × Int, PA 3 a → (encA a).length ≤ 2 := fun a ha => by
    obtain ⟨⟨_, h1⟩, _, h2⟩ := ha
    unfold encA; rw [List.length_append, varB_len1 (by omega), varB_len1 (by omega)]; omega
  have f2 := flat_len encR 56 x.rules (fun a ha => by
    obtain ⟨h1, ⟨⟨h2, h3⟩, h4, h5⟩, h6, h7⟩ := r2 a ha
    unfold encR encL
    rw [List.length_append, List.length_append, List.length_append, varB_len1 (by omega)]
    have := tx a.1 h1
    have g1 := flat_len encA 2 a.2.2 (fun y hy => ea y (h7 y hy))
    have g2 : (encA a.2.1).length ≤ 4 := by
      unfold encA; rw [List.length_append, varB_len1 (by omega)]
      have := varB_len3 a.2.1.2.toNat (by omega); omega
    omega)
  have f3 := flat_len encI 2 x.classes (fun a ha => by
    obtain ⟨h1, h2⟩ := c2 a ha
    exact varB_len2 (by omega))
  have f4 := flat_len encS 7 x.states (fun a ha => by
    obtain ⟨⟨h1, h2⟩, ⟨h3, h4⟩, h5, h6⟩ := s2 a ha
    unfold encS
    rw [List.length_append, List.length_append]
    have := varB_len2 (n := (a.1 + 1).toNat) (by omega)
    have := varB_len3 a.2.1.toNat (by omega)
    have := varB_len2 (n := (a.2.2 + 1).toNat) (by omega)
    omega)
  have f5 := flat_len encC 4 x.slots (fun a ha => by
    obtain ⟨⟨h1, h2⟩, h3⟩ := k2 a ha
    unfold encC
    rw [List.length_append]
    have := varB_len2 (n := (a.1 + 1).toNat) (by omega)
    by_cases h0 : 0 ≤ a.1
    · rw [if_pos h0] at h3 ⊢
      have := varB_len2 (n := (a.2 + 1).toNat) (by omega)
      omega
    · rw [if_neg h0]; simp; omega)
  have g1 := varB_len3 x.modes.length (by omega)
  have g2 := varB_len3 x.rules.length (by omega)
  have g3 := varB_len3 x.states.length (by omega)
  have g4 := varB_len3 x.slots.length (by omega)
  have g5 : (encI x.count).length ≤ 3 := varB_len3 _ (by omega)
  unfold encRc headB
  simp only [List.length_append, List.length_cons, List.length_nil]
  omega

/-- What is read is what is written, and may be. -/
theorem dec_enc {t : Tb} (h : mayB t = true) (kk dd cc : Nat) (h2 : 2 ≤ kk) (h3 : 3 ≤ dd) (h4 : 255 ≤ cc) : decT kk dd cc (encT t) = some t := by
  obtain ⟨h5, h6⟩ := may_prc h kk dd cc h2 h3 h4
  have h7 := encT_len h
  have h8 := (cod_rc kk dd cc).1 (rcOf t) [] h5
  rw [List.append_nil] at h8
  unfold decT
  have e1 : (encT t).drop 4 = encRc (rcOf t) := rfl
  have e2 : (encT t).take 4 = headB := rfl
  have e3 : 4 ≤ (encT t).length := by unfold encT headB; simp only [List.length_append, List.length_cons, List.length_nil]; omega
  rw [if_pos ⟨e3, h7, e2⟩, e1, h8]
  simp only [h6, if_pos h]
theorem enc_dec {kk dd cc : Nat} {b : List UInt8} {t : Tb} (h : decT kk dd cc b = some t) : mayB t = true ∧ encT t = b := by
  unfold decT at h
  by_cases h1 : 4 ≤ b.length ∧ b.length ≤ 2097152 ∧ b.take 4 = headB
  · rw [if_pos h1] at h
    cases hr : rcR kk dd cc (b.drop 4) with
    | none => rw [hr] at h; cases h
    | some y =>
      obtain ⟨x, r⟩ := y
      rw [hr] at h
      cases r with
      | cons c r => cases h
      | nil =>
        dsimp only at h
        by_cases hm : mayB (tbOf x) = true
        · rw [if_pos hm] at h
          injection h with h
          subst h
          refine ⟨hm, ?_⟩
          obtain ⟨h2, _⟩ := (cod_rc kk dd cc).2 _ _ _ hr
          unfold encT
          rw [rcOf_tbOf, ← List.take_append_drop 4 b, h1.2.2, h2, List.append_nil]
        · rw [if_neg hm] at h; cases h
  · rw [if_neg h1] at h; cases h
/-- The two readers read alike. -/
theorem dec_same (b : List UInt8) : decT 9 9 256 b = decT 2 3 255 b := by
  cases h : decT 2 3 255 b with
  | some t =>
    obtain ⟨h1, rfl⟩ := enc_dec h
    exact dec_enc h1 _ _ _ (by omega) (by omega) (by omega)
  | none =>
    cases h2 : decT 9 9 256 b with
    | none => rfl
    | some t =>
      obtain ⟨h3, rfl⟩ := enc_dec h2
      rw [dec_enc h3 _ _ _ (by omega) (by omega) (by omega)] at h
      cases h
/-- A beginning is none; nor is it with more behind it. -/
theorem dec_part {t : Tb} (h : mayB t = true) (n : Nat) (hn : n < (encT t).length) : decT 2 3 255 ((encT t).take n) = none := by
  cases h2 : decT 2 3 255 ((encT t).take n) with
  | none => rfl
  | some u =>
    obtain ⟨h3, h4⟩ := enc_dec h2
    have p1 := (may_prc h 2 3 255 (by omega) (by omega) (by omega)).1
    have p2 := (may_prc h3 2 3 255 (by omega) (by omega) (by omega)).1
    have e1 := (cod_rc 2 3 255).1 (rcOf t) [] p1
    have e2 := (cod_rc 2 3 255).1 (rcOf u) ((encT t).drop n) p2
    have e3 : encRc (rcOf t) ++ [] = encRc (rcOf u) ++ (encT t).drop n := by
      have a1 := List.take_append_drop n (encT t)
      rw [← h4] at a1
      unfold encT at a1
      rw [List.append_assoc] at a1
      rw [List.append_nil]
      have := List.append_cancel_left a1
      unfold encT
      exact this.symm
    rw [e3, e2] at e1
    injection e1 with e1; injection e1 with _ e1
    have := congrArg List.length e1
    rw [List.length_drop, List.length_nil] at this
    omega
theorem dec_more {t : Tb} (h : mayB t = true) (c : UInt8) : decT 2 3 255 (encT t ++ [c]) = none := by
  cases h2 : decT 2 3 255 (encT t ++ [c]) with
  | none => rfl
  | some u =>
    obtain ⟨h3, h4⟩ := enc_dec h2
    have p1 := (may_prc h 2 3 255 (by omega) (by omega) (by omega)).1
    have p2 := (may_prc h3 2 3 255 (by omega) (by omega) (by omega)).1
    have e1 := (cod_rc 2 3 255).1 (rcOf t) [c] p1
    have e2 := (cod_rc 2 3 255).1 (rcOf u) [] p2
    have e3 : encRc (rcOf u) ++ [] = encRc (rcOf t) ++ [c] := by
      unfold encT at h4
      rw [List.append_assoc] at h4
      rw [List.append_nil]
      exact List.append_cancel_left h4
    rw [e3, e1] at e2
    injection e2 with e2; injection e2 with _ e2
    cases e2

end Go.Proofs.YtcbfmajojkcibaaDoor
