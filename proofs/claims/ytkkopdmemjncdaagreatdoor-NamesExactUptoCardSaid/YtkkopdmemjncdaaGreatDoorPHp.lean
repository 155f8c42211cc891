/- Texts of mine, put together: RegionP, RegionT. No condition but what each says. -/
import Derived.Test.YtkkopdmemjncdaaGreatDoorPGa
namespace Go.Proofs.YtkkopdmemjncdaaGreatDoor
open Go Go.RowKit
def PanE (E : List PanicEntry → World → Prop) : Exit → Act → World → Prop
 | .panic c, a, w => a.defers = [] ∧ E c w
 | _, _, _ => False
theorem act_put_defers (a : Act) (x : Option Tmp) (v : Value) : (a.put x v).defers = a.defers := by cases x <;> rfl
section
variable {P : Program} {ops : Array Oper} {Q : Exit → Act → World → Prop} {md : Region.Mode} {S : World → Prop} {E : List PanicEntry → World → Prop}
def wpP (P : Program) (ops : Array Oper) (Q : Act → World → Prop) (E : List PanicEntry → World → Prop) (S : World → Prop) : PlanT Oper → Act → World → Prop
 | .nil, a, w => Q a w
 | .take o rest, a, w => (Region.wanted o (yielded ops a.tmps) = true ∧ ∃ v, (∀ w', S w' → (execOp a.eval o).run P w' = .ok (.value v) w') ∧ wpP P ops Q E S rest (a.put o.dst v) w)
   ∨ (Region.wanted o (yielded ops a.tmps) = false ∧ wpP P ops Q E S rest (a.put o.dst undef) w)
 | .run o fin rest, a, w => (Region.wanted o (yielded ops a.tmps) = true ∧ o.wp P a w (fun a' w' => (fin = true ∨ S w') ∧ wpP P ops Q E S rest a' w') (PanE E))
   ∨ (Region.wanted o (yielded ops a.tmps) = false ∧ wpP P ops Q E S rest (a.put o.dst undef) w)
 | .fork o1 rest1 o2 rest2, a, w => ((Region.wanted o1 (yielded ops a.tmps) = true ∧ o1.wp P a w (fun a' w' => S w' ∧ wpP P ops Q E S rest1 a' w') (PanE E))
   ∨ (Region.wanted o1 (yielded ops a.tmps) = false ∧ wpP P ops Q E S rest1 (a.put o1.dst undef) w)) ∧
   ((Region.wanted o2 (yielded ops a.tmps) = true ∧ o2.wp P a w (fun a' w' => S w' ∧ wpP P ops Q E S rest2 a' w') (PanE E))
   ∨ (Region.wanted o2 (yielded ops a.tmps) = false ∧ wpP P ops Q E S rest2 (a.put o2.dst undef) w))
 | .fork3 o1 rest1 o2 rest2 o3 rest3, a, w => ((Region.wanted o1 (yielded ops a.tmps) = true ∧ o1.wp P a w (fun a' w' => S w' ∧ wpP P ops Q E S rest1 a' w') (PanE E))
   ∨ (Region.wanted o1 (yielded ops a.tmps) = false ∧ wpP P ops Q E S rest1 (a.put o1.dst undef) w)) ∧
   ((Region.wanted o2 (yielded ops a.tmps) = true ∧ o2.wp P a w (fun a' w' => S w' ∧ wpP P ops Q E S rest2 a' w') (PanE E))
   ∨ (Region.wanted o2 (yielded ops a.tmps) = false ∧ wpP P ops Q E S rest2 (a.put o2.dst undef) w)) ∧
   ((Region.wanted o3 (yielded ops a.tmps) = true ∧ o3.wp P a w (fun a' w' => S w' ∧ wpP P ops Q E S rest3 a' w') (PanE E))
   ∨ (Region.wanted o3 (yielded ops a.tmps) = false ∧ wpP P ops Q E S rest3 (a.put o3.dst undef) w))
def NormalP (E : List PanicEntry → World → Prop) (Q : Act → World → Prop) : Exit → Act → World → Prop
 | .normal, a, w => Q a w
 | .panic c, a, w => a.defers = [] ∧ E c w
 | _, _, _ => False
theorem upon_normalP {o : Oper} {a : Act} {K : Act → World → Prop} {Q : Act → World → Prop} {r : Result Next} (h : o.upon P a K (PanE E) r) : o.upon P a K (NormalP E Q) r := by
 cases r with
 |
  ok n w' =>
  cases n with
  |
   enter f args =>
   simp only [Oper.upon] at h ⊢
   refine Calls.mono h fun e w'' he => ?_
   cases e with
   | returned u => exact he
   | panicked c => exact he
   | outgrown => obtain ⟨a2, w2, h2⟩ := (he : LetsOut _); exact (h2 : False).elim
  | _ => simp only [Oper.upon] at h ⊢ <;> exact h
 |
  halt x w' =>
  cases x <;> simp only [Oper.upon] at h ⊢ <;> exact h
theorem wpOp_of_runP {l : List Oper} {Q : Act → World → Prop} {i : Nat} {o : Oper} {a : Act} {w : World} {K K' : Act → World → Prop} (ho : l.toArray[i]? = some o)
  (h : (Region.wanted o (yielded l.toArray a.tmps) = true ∧ o.wp P a w K (PanE E)) ∨ (Region.wanted o (yielded l.toArray a.tmps) = false ∧ K (a.put o.dst undef) w)) (hk : ∀ a' w', K a' w' → K' a' w') :
  wpOp P l.toArray (NormalP E Q) i K' a w := by
 unfold wpOp
 simp only [ho]
 rcases h with ⟨hw, h⟩ | ⟨hw, h⟩
 ·
  rw [if_pos hw]
  exact .inl (Oper.wp_mono hk (upon_normalP (Q := Q) h))
 ·
  rw [if_neg (by rw [hw]; exact Bool.false_ne_true)]
  exact hk _ _ h
theorem wpP_skip_take {Q : Act → World → Prop} {a : Act} {w : World} {o : Oper} {rest : PlanT Oper} (hw : Region.wanted o (yielded ops a.tmps) = false)
  (h : wpP P ops Q E S rest (a.put o.dst undef) w) : wpP P ops Q E S (.take o rest) a w := .inr ⟨hw, h⟩
theorem wpP_skip_run {Q : Act → World → Prop} {a : Act} {w : World} {o : Oper} {fin : Bool} {rest : PlanT Oper} (hw : Region.wanted o (yielded ops a.tmps) = false)
  (h : wpP P ops Q E S rest (a.put o.dst undef) w) : wpP P ops Q E S (.run o fin rest) a w := .inr ⟨hw, h⟩
theorem wpP_take {Q : Act → World → Prop} {a : Act} {w : World} {o : Oper} {rest : PlanT Oper} (hw : Region.wanted o (yielded ops a.tmps) = true)
  (h : ∃ v, (∀ w', S w' → (execOp a.eval o).run P w' = .ok (.value v) w') ∧ wpP P ops Q E S rest (a.put o.dst v) w) : wpP P ops Q E S (.take o rest) a w := .inl ⟨hw, h⟩
theorem wpP_last {Q : Act → World → Prop} {a : Act} {w : World} {o : Oper} {rest : PlanT Oper} (hw : Region.wanted o (yielded ops a.tmps) = true)
  (h : ∀ K : Act → World → Prop, Shut (∀ a' w', wpP P ops Q E S rest a' w' → K a' w') → o.wp P a w K (PanE E)) : wpP P ops Q E S (.run o true rest) a w :=
 .inl ⟨hw, h _ fun _ _ hk => ⟨.inl rfl, hk⟩⟩
theorem wpP_done {Q : Act → World → Prop} {a : Act} {w : World} (h : Q a w) : wpP P ops Q E S .nil a w := h
end
end Go.Proofs.YtkkopdmemjncdaaGreatDoor
namespace Go.Proofs.YtkkopdmemjncdaaGreatDoor
open Go Go.RowKit
section
variable {P : Program} {ops : Array Oper} {Q : Exit → Act → World → Prop} {md : Region.Mode} {S : World → Prop} {E : List PanicEntry → World → Prop}
def waits (md : Region.Mode) (ops : Array Oper) : Nat → Nat → Nat → Bool
 | 0, _, _ => false
 | n + 1, j, k => ((ops[j]?).map fun o => o.after.any fun e => Region.binds md e && (e.on == k || waits md ops n e.on k)).getD false
def lastOp (md : Region.Mode) (ops : Array Oper) (j : Nat) : Bool := (List.range ops.size).all fun k => k == j || waits md ops 12 j k
def ClosedL (md : Region.Mode) (ops : Array Oper) (listed : Array Bool) : Prop :=
 ∀ j o, ops[j]? = some o → listed.getD j true = true → ∀ e ∈ o.after, Region.binds md e = true → listed.getD e.on false = true
theorem
    waits_listed {listed : Array Bool} (hc : ClosedL md ops listed) : ∀ (n j k : Nat), waits md ops n j k = true → (∀ o, ops[j]? = some o → ∀ e ∈ o.after, Region.binds md e = true → listed.getD e.on false = true) → listed.getD k false = true
 | 0, _, _, h, _ => by cases h
 |
  n
   +
    1, j, k, h, hd => by
  unfold waits at h
  cases ho : ops[j]? with
  | none => rw [ho] at h; cases h
  |
   some o =>
   rw [ho] at h
   simp only [Option.map_some, Option.getD_some] at h
   obtain ⟨e, he, h2⟩ := Array.any_eq_true'.1 h
   simp only [Bool.and_eq_true, Bool.or_eq_true, beq_iff_eq] at h2
   obtain ⟨hb, h2⟩ := h2
   have hl := hd o ho e he hb
   rcases h2 with h2 | h2
   · rw [← h2]; exact hl
   ·
    refine waits_listed hc n e.on k h2 (fun o' ho' => hc _ o' ho' ?_)
    rcases Nat.lt_or_ge e.on listed.size with h' | h'
    · simp [h'] at hl ⊢; exact hl
    · simp [Array.getElem?_eq_none h'] at hl
theorem ClosedL.set {listed : Array Bool} {i : Nat} (hc : ClosedL md ops listed) (hi : i ∈ Region.ready md ops listed) : ClosedL md ops (listed.setIfInBounds i true) := fun j o ho hj e he hb => by
 by_cases hij : i = j
 ·
  subst hij
  obtain ⟨_, o', ho', hall⟩ := mem_ready.1 hi
  rw [ho] at ho'; injection ho' with ho'; subst ho'
  exact getD_set_true (hall e he hb)
 ·
  rw [getD_set_ne true hij] at hj
  exact getD_set_true (hc j o ho hj e he hb)
def
  wpAnyT (P : Program) (md : Region.Mode) (ops : Array Oper) (Q : Exit → Act → World → Prop) (S : World → Prop) : Nat → Array Bool → Act → World → Prop
 | 0, listed, a, w => Region.ready md ops listed = [] ∧ Q .normal a w
 |
  fuel + 1, listed, a, w =>
  (Region.ready md ops listed = [] → Q .normal a w) ∧
  ∀ i ∈ Region.ready md ops listed, wpOp P ops Q i (fun a' w' => (lastOp md ops i = true ∨ S w') ∧ wpAnyT P md ops Q S fuel (listed.setIfInBounds i true) a' w') a w
theorem wpAny_of_T : ∀ (fuel : Nat) (listed : Array Bool) (a : Act) (w : World), wpAnyT P md ops Q S fuel listed a w → wpAny P md ops Q fuel listed a w
 | 0, _, _, _, h => h
 | fuel + 1, _, _, _, h => ⟨h.1, fun i hi => wpOp_mono (fun a' w' h' => wpAny_of_T fuel _ a' w' h'.2) (h.2 i hi)⟩
theorem
    wpAnyT_first {i : Nat} {oi : Oper} {v : Value} (hi : ops[i]? = some oi) (hsel : ∀ (j : Nat) (o : Oper) cs b, ops[j]? = some o → o.op ≠ .select cs b)
  (hQ : ∀ c a w, Q (.panic c) (a.put oi.dst v) w → Q (.panic c) a w) :
  ∀
   (fuel : Nat) (listed : Array Bool) (a : Act) (w : World),
   (∀ j oj, ops[j]? = some oj → j ≠ i → listed.getD j true = false → (∀ e ∈ oj.after, Region.binds md e = true → e.on ≠ i) → oi.apart ops oj = true) →
   ClosedL md ops listed → i ∈ Region.ready md ops listed → YieldsG P ops oi v a S → S w →
   wpAnyT P md ops Q S fuel (listed.setIfInBounds i true) (a.put oi.dst v) w → wpAnyT P md ops Q S (fuel + 1) listed a w := by
 intro fuel
 induction fuel with
 |
  zero =>
  intro listed a w _ _ hr hy hS H
  refine ⟨fun h => (by rw [h] at hr; cases hr), fun j hj => ?_⟩
  by_cases hji : j = i
  · subst hji; exact hy.wpOp hi hS ⟨.inr hS, H⟩
  ·
   have := ready_mono hj hji
   rw [H.1] at this
   cases this
 |
  succ fuel ih =>
  intro listed a w hfree hcl hr hy hS H
  refine ⟨fun h => (by rw [h] at hr; cases hr), fun j hj => ?_⟩
  by_cases hji : j = i
  · subst hji; exact hy.wpOp hi hS ⟨.inr hS, H⟩
  ·
   have h1 := H.2 j (ready_mono hj hji)
   obtain ⟨hjun, oj, hoj, hall⟩ := mem_ready.1 hj
   have hun : listed.getD i false = true → False := fun h1 => by
    have h0 := (mem_ready.1 hr).1
    rcases Nat.lt_or_ge i listed.size with h' | h'
    · simp [h'] at h0 h1; rw [h0] at h1; cases h1
    · simp [Array.getElem?_eq_none h'] at h1
   have hnot : ∀ e ∈ oj.after, Region.binds md e = true → e.on ≠ i := fun e he hb heq => by
    have h1 := hall e he hb
    rw [heq] at h1
    exact hun h1
   have h2 := wpOp_putG hoj (hfree j oj hoj hji hjun hnot) (fun cs b => hsel i oi cs b hi) (fun cs b => hsel j oj cs b hoj) hQ hy h1
   have hfree' : ∀ k ok, ops[k]? = some ok → k ≠ i → (listed.setIfInBounds j true).getD k true = false →
     (∀ e ∈ ok.after, Region.binds md e = true → e.on ≠ i) → oi.apart ops ok = true := fun k ok hk hki hun hno => by
    refine hfree k ok hk hki ?_ hno
    by_cases hjk : j = k
    · subst hjk; exact hjun
    · rw [getD_set_ne true hjk] at hun; exact hun
   refine wpOp_mono (fun a' w' h3 => ?_) h2
   rcases h3.2.1 with h0 | hG
   ·
    exfalso
    have hlt : i < ops.size := (Array.getElem?_eq_some_iff.1 hi).1
    have h4 := List.all_eq_true.1 h0 i (List.mem_range.2 hlt)
    simp only [Bool.or_eq_true, beq_iff_eq] at h4
    rcases h4 with h4 | h4
    · exact hji h4.symm
    · exact hun (waits_listed hcl 12 j i h4 (fun o ho e he hb => by
      rw [hoj] at ho; injection ho with ho; subst ho; exact hall e he hb))
   ·
    refine ⟨.inr hG, ih (listed.setIfInBounds j true) a' w' hfree' (hcl.set hj) (ready_mono hr (Ne.symm hji)) h3.1 hG ?_⟩
    rw [Array.setIfInBounds_comm _ _ hji]
    exact h3.2.2
def planOkT (md : Region.Mode) (ops : Array Oper) : PlanT Nat → Array Bool → Bool
 | .nil, listed => (Region.ready md ops listed).isEmpty
 | .take i r, listed => (Region.ready md ops listed).contains i && Region.free md ops listed i && planOkT md ops r (listed.setIfInBounds i true)
 | .run i fin r, listed => (Region.ready md ops listed == [i]) && (!fin || (lastOp md ops i && r.isNil)) && planOkT md ops r (listed.setIfInBounds i true)
 | .fork i r j s, listed => (Region.ready md ops listed == [i, j]) && (r.len == s.len) && planOkT md ops r (listed.setIfInBounds i true) && planOkT md ops s (listed.setIfInBounds j true)
 | .fork3 i r j s k t, listed => (Region.ready md ops listed == [i, j, k]) && (r.len == s.len) && (r.len == t.len) && planOkT md ops r (listed.setIfInBounds i true) && planOkT md ops s (listed.setIfInBounds j true) && planOkT md ops t (listed.setIfInBounds k true)
theorem
    wpAnyT_plan {l : List Oper} {Q : Act → World → Prop} (hs : Region.noSelect l.toArray = true) : ∀ (p : PlanT Nat) (listed : Array Bool) (a : Act) (w : World),
  planOkT md l.toArray p listed = true → ClosedL md l.toArray listed → (p.isNil = true ∨ S w) → wpP P l.toArray Q E S (pickOps l p) a w → wpAnyT P md l.toArray (NormalP E Q) S p.len listed a w
 |
  .nil, listed, a, w, hp, _, hS, h => by
  refine ⟨?_, h⟩
  simpa [planOkT] using hp
 |
  .take i r, listed, a, w, hp, hcl, hS0, h => by
  have hS : S w := hS0.resolve_left (by simp [PlanT.isNil])
  simp only [planOkT, Bool.and_eq_true] at hp
  obtain ⟨⟨hr, hf⟩, hp'⟩ := hp
  have hr' : i ∈ Region.ready md l.toArray listed := by simpa using hr
  obtain ⟨_, o, ho, _⟩ := mem_ready.1 hr'
  have hol : nthOp l i = o := nthOp_of _ _ _ (by simpa using ho)
  simp only [pickOps, hol, wpP] at h
  rcases h with ⟨hw, v, hv, hk⟩ | ⟨hw, hk⟩
  · exact wpAnyT_first ho (Region.noSelect_spec hs) (fun _ _ _ h => ⟨(act_put_defers _ _ _).symm.trans h.1, h.2⟩) r.len listed a w (Region.free_spec ho hf) hcl hr' (.inl ⟨hw, hv⟩) hS (wpAnyT_plan hs r _ _ _ hp' (hcl.set hr') (.inr hS) hk)
  · exact wpAnyT_first ho (Region.noSelect_spec hs) (fun _ _ _ h => ⟨(act_put_defers _ _ _).symm.trans h.1, h.2⟩) r.len listed a w (Region.free_spec ho hf) hcl hr' (.inr ⟨hw, rfl⟩) hS (wpAnyT_plan hs r _ _ _ hp' (hcl.set hr') (.inr hS) hk)
 |
  .run i fin r, listed, a, w, hp, hcl, hS0, h => by
  have hS : S w := hS0.resolve_left (by simp [PlanT.isNil])
  simp only [planOkT, Bool.and_eq_true, Bool.or_eq_true, Bool.not_eq_true', beq_iff_eq] at hp
  obtain ⟨⟨hr, hf⟩, hp'⟩ := hp
  refine ⟨fun h0 => (by rw [hr] at h0; cases h0), fun j hj => ?_⟩
  have hji : j = i := by rw [hr] at hj; simpa using hj
  subst hji
  have hj0 := hj
  obtain ⟨_, o, ho, _⟩ := mem_ready.1 hj
  have hol : nthOp l j = o := nthOp_of _ _ _ (by simpa using ho)
  simp only [pickOps, hol, wpP] at h
  refine wpOp_of_runP ho (K := fun a' w' => (fin = true ∨ S w') ∧ wpP P l.toArray Q E S (pickOps l r) a' w') ?_ (fun a' w' ⟨h1, h2⟩ => ⟨?_, wpAnyT_plan hs r _ _ _ hp' (hcl.set hj0) ?_ h2⟩)
  · exact h.imp id (fun ⟨h1, h2⟩ => ⟨h1, .inr hS, h2⟩)
  ·
   rcases h1 with h1 | h1
   ·
    rcases hf with hf | hf
    · rw [h1] at hf; cases hf
    · exact .inl hf.1
   · exact .inr h1
  ·
   rcases h1 with h1 | h1
   ·
    rcases hf with hf | hf
    · rw [h1] at hf; cases hf
    · exact .inl hf.2
   · exact .inr h1
 |
  .fork i r j s, listed, a, w, hp, hcl, hS0, h => by
  have hS : S w := hS0.resolve_left (by simp [PlanT.isNil])
  simp only [planOkT, Bool.and_eq_true, beq_iff_eq] at hp
  obtain ⟨⟨⟨hr, hlen⟩, hp1⟩, hp2⟩ := hp
  refine ⟨fun h0 => (by rw [hr] at h0; cases h0), fun k hk => ?_⟩
  have hki : k = i ∨ k = j := by rw [hr] at hk; simpa using hk
  have hk0 := hk
  obtain ⟨_, o, ho, _⟩ := mem_ready.1 hk
  have hol : nthOp l k = o := nthOp_of _ _ _ (by simpa using ho)
  simp only [pickOps, wpP] at h
  rcases hki with rfl | rfl
  ·
   rw [hol] at h
   refine wpOp_of_runP ho (K := fun a' w' => S w' ∧ wpP P l.toArray Q E S (pickOps l r) a' w') ?_ (fun a' w' ⟨h1, h2⟩ => ⟨.inr h1, wpAnyT_plan hs r _ _ _ hp1 (hcl.set hk0) (.inr h1) h2⟩)
   exact h.1.imp id (fun ⟨h1, h2⟩ => ⟨h1, hS, h2⟩)
  ·
   rw [hol] at h
   refine wpOp_of_runP ho (K := fun a' w' => S w' ∧ wpP P l.toArray Q E S (pickOps l s) a' w') ?_ (fun a' w' ⟨h1, h2⟩ => ⟨.inr h1, ?_⟩)
   · exact h.2.imp id (fun ⟨h1, h2⟩ => ⟨h1, hS, h2⟩)
   · rw [hlen]; exact wpAnyT_plan hs s _ _ _ hp2 (hcl.set hk0) (.inr h1) h2
 |
  .fork3 i r j s k u, listed, a, w, hp, hcl, hS0, h => by
  have hS : S w := hS0.resolve_left (by simp [PlanT.isNil])
  simp only [planOkT, Bool.and_eq_true, beq_iff_eq] at hp
  obtain ⟨⟨⟨⟨⟨hr, hlen⟩, hlen2⟩, hp1⟩, hp2⟩, hp3⟩ := hp
  refine ⟨fun h0 => (by rw [hr] at h0; cases h0), fun q hq => ?_⟩
  have hqi : q = i ∨ q = j ∨ q = k := by rw [hr] at hq; simpa using hq
  have hq0 := hq
  obtain ⟨_, o, ho, _⟩ := mem_ready.1 hq
  have hol : nthOp l q = o := nthOp_of _ _ _ (by simpa using ho)
  simp only [pickOps, wpP] at h
  rcases hqi with rfl | rfl | rfl
  ·
   rw [hol] at h
   refine wpOp_of_runP ho (K := fun a' w' => S w' ∧ wpP P l.toArray Q E S (pickOps l r) a' w') ?_ (fun a' w' ⟨h1, h2⟩ => ⟨.inr h1, wpAnyT_plan hs r _ _ _ hp1 (hcl.set hq0) (.inr h1) h2⟩)
   exact h.1.imp id (fun ⟨h1, h2⟩ => ⟨h1, hS, h2⟩)
  ·
   rw [hol] at h
   refine wpOp_of_runP ho (K := fun a' w' => S w' ∧ wpP P l.toArray Q E S (pickOps l s) a' w') ?_ (fun a' w' ⟨h1, h2⟩ => ⟨.inr h1, ?_⟩)
   · exact h.2.1.imp id (fun ⟨h1, h2⟩ => ⟨h1, hS, h2⟩)
   · rw [hlen]; exact wpAnyT_plan hs s _ _ _ hp2 (hcl.set hq0) (.inr h1) h2
  ·
   rw [hol] at h
   refine wpOp_of_runP ho (K := fun a' w' => S w' ∧ wpP P l.toArray Q E S (pickOps l u) a' w') ?_ (fun a' w' ⟨h1, h2⟩ => ⟨.inr h1, ?_⟩)
   · exact h.2.2.imp id (fun ⟨h1, h2⟩ => ⟨h1, hS, h2⟩)
   · rw [hlen2]; exact wpAnyT_plan hs u _ _ _ hp3 (hcl.set hq0) (.inr h1) h2
theorem wp_region_T {id : Nat} {l : List Oper} {Q : Exit → Act → World → Prop} {a : Act} {w : World} (E : List PanicEntry → World → Prop) (S : World → Prop) (p : PlanT Nat) (hE : ∀ c a w, a.defers = [] → E c w → Q (.panic c) a w) (hS : S w.drew) (hm : P.follows .mixedOrders = true)
  (hp : (Region.noSelect l.toArray && (p.len == l.length) && planOkT .any l.toArray p (Array.replicate l.length false)) = true)
  (h : ∀ w1, Gr w w1 → S w1 → wpP P l.toArray (fun a w => Q .normal a w) E S (pickOps l p) a w1) : (Code.region id l.toArray true).wp P Q a w := by
 simp only [Bool.and_eq_true, beq_iff_eq] at hp
 obtain ⟨⟨hs, hl⟩, hp'⟩ := hp
 refine Code.wp_mono (Q := NormalP E (fun a w => Q .normal a w)) (fun e a w h => by
  cases e with
  | normal => exact h
  | panic c => exact hE c a w h.1 h.2
  | _ => exact (h : False).elim) ?_
 refine wp_region_any hm ?_
 have hcl : ClosedL .any l.toArray (Array.replicate l.length false) := fun j o ho hj => by
  have hlt : j < l.length := by simpa using (Array.getElem?_eq_some_iff.1 ho).1
  simp [hlt] at hj
 have := wpAny_of_T _ _ _ _ (wpAnyT_plan (md := .any) (P := P) hs p _ _ _ hp' hcl (.inr hS) (h w.drew (Gr.drew w) hS))
 rw [hl] at this
 simpa using this
end
end Go.Proofs.YtkkopdmemjncdaaGreatDoor
