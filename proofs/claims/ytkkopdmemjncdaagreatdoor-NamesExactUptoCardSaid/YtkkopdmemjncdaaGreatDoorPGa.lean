/- Texts of mine, put together: Set, Region, Mem, SetEqB. No condition but what each says. -/
import Derived.Laws.Entries
import Derived.Laws.Bits64
import Derived.Laws.Bits64b
import Derived.WalkArith
import Derived.Deep.RegionHeld3
import Derived.Below
import Derived.WalkSmall
import Derived.WalkKit
import Derived.Test.YtkkopdmemjncdaaGreatDoorRows
import Derived.WalkSpells
namespace Go.Proofs.YtkkopdmemjncdaaGreatDoor
open Go
def wd (s : BitVec 256) (i : Nat) : Int := ((s.extractLsb' (64 * i) 64).toNat : Int)
theorem wd_make (c0 c1 c2 c3 : Int) (h0 : 0 ≤ c0 ∧ c0 < 18446744073709551616) (h1 : 0 ≤ c1 ∧ c1 < 18446744073709551616)
  (h2 : 0 ≤ c2 ∧ c2 < 18446744073709551616) (h3 : 0 ≤ c3 ∧ c3 < 18446744073709551616) :
  ∃ s : BitVec 256, c0 = wd s 0 ∧ c1 = wd s 1 ∧ c2 = wd s 2 ∧ c3 = wd s 3 := by
 obtain ⟨n0, rfl⟩ := Int.eq_ofNat_of_zero_le h0.1
 obtain ⟨n1, rfl⟩ := Int.eq_ofNat_of_zero_le h1.1
 obtain ⟨n2, rfl⟩ := Int.eq_ofNat_of_zero_le h2.1
 obtain ⟨n3, rfl⟩ := Int.eq_ofNat_of_zero_le h3.1
 refine ⟨BitVec.ofNat 256 (n0 + 2 ^ 64 * (n1 + 2 ^ 64 * (n2 + 2 ^ 64 * n3))), ?_, ?_, ?_, ?_⟩ <;>
 ·
  unfold wd
  simp only [BitVec.extractLsb'_toNat, BitVec.toNat_ofNat, Nat.shiftRight_eq_div_pow]
  omega
theorem wd_ext (s t : BitVec 256) (h0 : wd s 0 = wd t 0) (h1 : wd s 1 = wd t 1) (h2 : wd s 2 = wd t 2) (h3 : wd s 3 = wd t 3) : s = t := by
 have key : ∀ i, wd s i = wd t i → s.extractLsb' (64 * i) 64 = t.extractLsb' (64 * i) 64 := fun i h => by
  apply BitVec.eq_of_toNat_eq; unfold wd at h; omega
 have k0 := key 0 h0; have k1 := key 1 h1; have k2 := key 2 h2; have k3 := key 3 h3
 ext k hk
 have bit : ∀ i, s.extractLsb' (64 * i) 64 = t.extractLsb' (64 * i) 64 → ∀ j, j < 64 → s.getLsbD (64 * i + j) = t.getLsbD (64 * i + j) := fun i h j hj => by
  have := congrArg (fun x => x.getLsbD j) h
  simpa [hj] using this
 have hk' : k = 64 * (k / 64) + k % 64 := by omega
 have hm : k % 64 < 64 := by omega
 have hd : k / 64 = 0 ∨ k / 64 = 1 ∨ k / 64 = 2 ∨ k / 64 = 3 := by omega
 have : s.getLsbD k = t.getLsbD k := by
  rw [hk']
  rcases hd with h | h | h | h <;> rw [h]
  · exact bit 0 k0 _ hm
  · exact bit 1 k1 _ hm
  · exact bit 2 k2 _ hm
  · exact bit 3 k3 _ hm
 simpa [BitVec.getLsbD_eq_getElem hk] using this
def bit (b : Nat) : BitVec 256 := 1#256 <<< b
def emptyS : BitVec 256 := 0#256
theorem wd_zero (i : Nat) : wd emptyS i = 0 := by unfold wd emptyS; simp
end Go.Proofs.YtkkopdmemjncdaaGreatDoor
namespace Go.Proofs.YtkkopdmemjncdaaGreatDoor
open Go Go.RowKit
def Gr (w w' : World) : Prop := Below w.heap.size w w'
theorem Gr.refl (w : World) : Gr w w := Below.refl _ _
theorem Gr.trans {a b c : World} (h : Gr a b) (k : Gr b c) : Gr a c := Below.trans h (Below.mono k h.size)
theorem Gr.drew (w : World) : Gr w w.drew := (Below.refl _ _).drew
theorem Gr.alloc (w : World) (o : Obj) : Gr w (w.alloc o) := (Below.refl _ _).alloc (Nat.le_refl _) _
theorem Gr.block {w w' : World} (_ : Gr w w') {p : Addr} {v : Value} (hc : w.cell? p = some v) : p.block < w.heap.size := World.block_lt_of_cell? w p hc
theorem Gr.cell {w w' : World} (h : Gr w w') {p : Addr} {v : Value} (hc : w.cell? p = some v) : w'.cell? p = some v := by
 rw [Below.cell h (Gr.block h hc)]; exact hc
theorem Gr.frozen {w w' : World} (h : Gr w w') {p : Addr} {b : Bool} (hp : p.block < w.heap.size) (hc : w.frozen? p = b) : w'.frozen? p = b := by
 rw [Below.frozen h hp]; exact hc
theorem Gr.size {w w' : World} (h : Gr w w') : w.heap.size ≤ w'.heap.size := Below.size h
section
variable {P : Program} {ops : Array Oper} {Q : Exit → Act → World → Prop} {md : Region.Mode} {S : World → Prop}
def YieldsG (P : Program) (ops : Array Oper) (o : Oper) (v : Value) (a : Act) (S : World → Prop) : Prop :=
 (Region.wanted o (yielded ops a.tmps) = true ∧ ∀ w, S w → (execOp a.eval o).run P w = .ok (.value v) w) ∨
 (Region.wanted o (yielded ops a.tmps) = false ∧ v = undef)
theorem YieldsG.wpOp {i : Nat} {o : Oper} {v : Value} {a : Act} {w : World} (hi : ops[i]? = some o) (hy : YieldsG P ops o v a S) (hG : S w)
  {K : Act → World → Prop} (h : K (a.put o.dst v) w) : wpOp P ops Q i K a w := by
 unfold Go.wpOp
 simp only [hi]
 rcases hy with ⟨hw, hv⟩ | ⟨hw, rfl⟩
 · simp only [hw, if_true, Oper.wp, hv w hG, Oper.upon]; exact .inl h
 · simp only [hw, Bool.false_eq_true, if_false]; exact h
theorem YieldsG.of_same {o : Oper} {v : Value} {a a' : Act} (hy : YieldsG P ops o v a S) (he : execOp a'.eval o = execOp a.eval o)
  (hw : Region.wanted o (yielded ops a'.tmps) = Region.wanted o (yielded ops a.tmps)) : YieldsG P ops o v a' S := by
 unfold YieldsG at *
 rw [he, hw]
 exact hy
theorem
    wpOp_putG {j : Nat} {oi oj : Oper} {v : Value} (hj : ops[j]? = some oj) (hap : oi.apart ops oj = true)
  (hsi : ∀ cs b, oi.op ≠ .select cs b) (hsj : ∀ cs b, oj.op ≠ .select cs b)
  (hQ : ∀ c a w, Q (.panic c) (a.put oi.dst v) w → Q (.panic c) a w) {K : Act → World → Prop} {a : Act} {w : World}
  (hy : YieldsG P ops oi v a S) (h : wpOp P ops Q j K (a.put oi.dst v) w) :
  wpOp P ops Q j (fun a' w' => YieldsG P ops oi v a' S ∧ K (a'.put oi.dst v) w') a w := by
 obtain ⟨h1, h2, h3⟩ := Oper.apart_spec hap
 have keep : ∀ (a : Act), YieldsG P ops oi v a S → ∀ u, YieldsG P ops oi v (a.put oj.dst u) S := fun a hy u =>
  hy.of_same (execOp_put oi hsi a oj.dst u h3) (wanted_put oi a oj.dst u h3)
 have keepD : ∀ d, YieldsG P ops oi v { a with defers := d :: a.defers } S := fun d => hy.of_same rfl rfl
 unfold wpOp at *
 simp only [hj] at *
 rw [wanted_put oj a oi.dst v h1] at h
 split
 ·
  rename_i hw
  simp only [hw, if_true] at h
  rcases h with h | ⟨hasks, hlets⟩
  case inr => exact .inr ⟨by unfold Oper.asks at *; rw [execOp_put oj hsj a oi.dst v h1] at hasks; exact hasks, hlets⟩
  refine .inl ?_
  unfold Oper.wp at *
  rw [execOp_put oj hsj a oi.dst v h1] at h
  generalize (execOp a.eval oj).run P w = r at *
  cases r with
  |
   ok n w' =>
   cases n <;> simp only [Oper.upon] at h ⊢
   case value u => exact ⟨keep a hy u, by rw [← Act.put_comm a v u h2]; exact h⟩
   case skip => exact ⟨keep a hy _, by rw [← Act.put_comm a v undef h2]; exact h⟩
   case defer d =>
    refine ⟨keep _ (keepD d) _, ?_⟩
    rw [← Act.put_comm _ v undef h2, ← Act.put_defers]
    exact h
   case enter f args =>
    refine Calls.mono h fun e w'' he => ?_
    cases e with
    | returned u => exact ⟨keep a hy u, by rw [← Act.put_comm a v u h2]; exact he⟩
    | panicked c => exact hQ _ _ _ he
    | outgrown => exact he
   case row row args => exact Rows.mono h fun u w'' he => ⟨keep a hy u, by rw [← Act.put_comm a v u h2]; exact he⟩
  |
   halt x w' =>
   cases x <;> simp only [Oper.upon] at h ⊢
   case panic u => exact hQ _ _ _ h
 ·
  rename_i hw
  simp only [hw] at h
  exact ⟨keep a hy _, by rw [← Act.put_comm a v undef h2]; exact h⟩
def isFinal (md : Region.Mode) (ops : Array Oper) (j : Nat) : Bool :=
 (List.range ops.size).all fun k => k == j || ((ops[j]?).map fun o => o.after.any fun e => Region.binds md e && e.on == k).getD false
theorem isFinal_spec {i j : Nat} {oi oj : Oper} (h : isFinal md ops j = true) (hi : ops[i]? = some oi) (hj : ops[j]? = some oj) (hne : j ≠ i) : ∃ e ∈ oj.after, Region.binds md e = true ∧ e.on = i := by
 have hlt : i < ops.size := by
  rcases Nat.lt_or_ge i ops.size with h' | h'
  · exact h'
  · rw [Array.getElem?_eq_none h'] at hi; cases hi
 have := List.all_eq_true.1 h i (List.mem_range.2 hlt)
 simp only [hj, Option.map_some, Option.getD_some, Bool.or_eq_true, beq_iff_eq] at this
 rcases this with h1 | h1
 · exact absurd h1.symm hne
 ·
  obtain ⟨e, he, h2⟩ := Array.any_eq_true'.1 h1
  simp only [Bool.and_eq_true, beq_iff_eq] at h2
  exact ⟨e, he, h2⟩
def
  wpAnyG (P : Program) (md : Region.Mode) (ops : Array Oper) (Q : Exit → Act → World → Prop) (S : World → Prop) : Nat → Array Bool → Act → World → Prop
 | 0, listed, a, w => Region.ready md ops listed = [] ∧ Q .normal a w
 |
  fuel + 1, listed, a, w =>
  (Region.ready md ops listed = [] → Q .normal a w) ∧
  ∀ i ∈ Region.ready md ops listed, wpOp P ops Q i (fun a' w' => (isFinal md ops i = true ∨ S w') ∧ wpAnyG P md ops Q S fuel (listed.setIfInBounds i true) a' w') a w
theorem wpAny_of_G : ∀ (fuel : Nat) (listed : Array Bool) (a : Act) (w : World), wpAnyG P md ops Q S fuel listed a w → wpAny P md ops Q fuel listed a w
 | 0, _, _, _, h => h
 | fuel + 1, _, _, _, h => ⟨h.1, fun i hi => wpOp_mono (fun a' w' h' => wpAny_of_G fuel _ a' w' h'.2) (h.2 i hi)⟩
theorem
    wpAnyG_first {i : Nat} {oi : Oper} {v : Value} (hi : ops[i]? = some oi) (hsel : ∀ (j : Nat) (o : Oper) cs b, ops[j]? = some o → o.op ≠ .select cs b)
  (hQ : ∀ c a w, Q (.panic c) (a.put oi.dst v) w → Q (.panic c) a w) :
  ∀
   (fuel : Nat) (listed : Array Bool) (a : Act) (w : World),
   (∀ j oj, ops[j]? = some oj → j ≠ i → listed.getD j true = false → (∀ e ∈ oj.after, Region.binds md e = true → e.on ≠ i) → oi.apart ops oj = true) →
   i ∈ Region.ready md ops listed → YieldsG P ops oi v a S → S w →
   wpAnyG P md ops Q S fuel (listed.setIfInBounds i true) (a.put oi.dst v) w → wpAnyG P md ops Q S (fuel + 1) listed a w := by
 intro fuel
 induction fuel with
 |
  zero =>
  intro listed a w _ hr hy hS H
  refine ⟨fun h => (by rw [h] at hr; cases hr), fun j hj => ?_⟩
  by_cases hji : j = i
  · subst hji; exact hy.wpOp hi hS ⟨.inr hS, H⟩
  ·
   have := ready_mono hj hji
   rw [H.1] at this
   cases this
 |
  succ fuel ih =>
  intro listed a w hfree hr hy hS H
  refine ⟨fun h => (by rw [h] at hr; cases hr), fun j hj => ?_⟩
  by_cases hji : j = i
  · subst hji; exact hy.wpOp hi hS ⟨.inr hS, H⟩
  ·
   have h1 := H.2 j (ready_mono hj hji)
   obtain ⟨hjun, oj, hoj, hall⟩ := mem_ready.1 hj
   have hnot : ∀ e ∈ oj.after, Region.binds md e = true → e.on ≠ i := fun e he hb heq => by
    have h1 := hall e he hb
    have h0 := (mem_ready.1 hr).1
    rw [heq] at h1
    rcases Nat.lt_or_ge i listed.size with h' | h'
    · simp [h'] at h0 h1; rw [h0] at h1; cases h1
    · simp [Array.getElem?_eq_none h'] at h1
   have h2 := wpOp_putG hoj (hfree j oj hoj hji hjun hnot) (fun cs b => hsel i oi cs b hi) (fun cs b => hsel j oj cs b hoj) hQ hy h1
   have hfree' : ∀ k ok, ops[k]? = some ok → k ≠ i → (listed.setIfInBounds j true).getD k true = false →
     (∀ e ∈ ok.after, Region.binds md e = true → e.on ≠ i) → oi.apart ops ok = true := fun k ok hk hki hun hno => by
    refine hfree k ok hk hki ?_ hno
    by_cases hjk : j = k
    · subst hjk; exact hjun
    · rw [getD_set_ne true hjk] at hun; exact hun
   refine wpOp_mono (fun a' w' h3 => ?_) h2
   rcases h3.2.1 with h0 | hG
   ·
    obtain ⟨e, he, hb, hon⟩ := isFinal_spec h0 hi hoj hji
    exact absurd hon (hnot e he hb)
   ·
    refine ⟨.inr hG, ih (listed.setIfInBounds j true) a' w' hfree' (ready_mono hr (Ne.symm hji)) h3.1 hG ?_⟩
    rw [Array.setIfInBounds_comm _ _ hji]
    exact h3.2.2
inductive PlanT (α : Type) where
 | nil
 | take (o : α) (r : PlanT α)
 | run (o : α) (fin : Bool) (r : PlanT α)
 | fork (o1 : α) (r1 : PlanT α) (o2 : α) (r2 : PlanT α)
 | fork3 (o1 : α) (r1 : PlanT α) (o2 : α) (r2 : PlanT α) (o3 : α) (r3 : PlanT α)
def PlanT.isNil {α : Type} : PlanT α → Bool
 | .nil => true
 | _ => false
def PlanT.len {α : Type} : PlanT α → Nat
 | .nil => 0
 | .take _ r => r.len + 1
 | .run _ _ r => r.len + 1
 | .fork _ r1 _ _ => r1.len + 1
 | .fork3 _ r1 _ _ _ _ => r1.len + 1
def wpG (P : Program) (ops : Array Oper) (Q : Act → World → Prop) (S : World → Prop) : PlanT Oper → Act → World → Prop
 | .nil, a, w => Q a w
 | .take o rest, a, w => (Region.wanted o (yielded ops a.tmps) = true ∧ ∃ v, (∀ w', S w' → (execOp a.eval o).run P w' = .ok (.value v) w') ∧ wpG P ops Q S rest (a.put o.dst v) w)
   ∨ (Region.wanted o (yielded ops a.tmps) = false ∧ wpG P ops Q S rest (a.put o.dst undef) w)
 | .run o fin rest, a, w => (Region.wanted o (yielded ops a.tmps) = true ∧ o.wp P a w (fun a' w' => (fin = true ∨ S w') ∧ wpG P ops Q S rest a' w') (fun _ _ _ => False))
   ∨ (Region.wanted o (yielded ops a.tmps) = false ∧ wpG P ops Q S rest (a.put o.dst undef) w)
 | .fork o1 rest1 o2 rest2, a, w => ((Region.wanted o1 (yielded ops a.tmps) = true ∧ o1.wp P a w (fun a' w' => S w' ∧ wpG P ops Q S rest1 a' w') (fun _ _ _ => False))
   ∨ (Region.wanted o1 (yielded ops a.tmps) = false ∧ wpG P ops Q S rest1 (a.put o1.dst undef) w)) ∧
   ((Region.wanted o2 (yielded ops a.tmps) = true ∧ o2.wp P a w (fun a' w' => S w' ∧ wpG P ops Q S rest2 a' w') (fun _ _ _ => False))
   ∨ (Region.wanted o2 (yielded ops a.tmps) = false ∧ wpG P ops Q S rest2 (a.put o2.dst undef) w))
 | .fork3 o1 rest1 o2 rest2 o3 rest3, a, w => ((Region.wanted o1 (yielded ops a.tmps) = true ∧ o1.wp P a w (fun a' w' => S w' ∧ wpG P ops Q S rest1 a' w') (fun _ _ _ => False))
   ∨ (Region.wanted o1 (yielded ops a.tmps) = false ∧ wpG P ops Q S rest1 (a.put o1.dst undef) w)) ∧
   ((Region.wanted o2 (yielded ops a.tmps) = true ∧ o2.wp P a w (fun a' w' => S w' ∧ wpG P ops Q S rest2 a' w') (fun _ _ _ => False))
   ∨ (Region.wanted o2 (yielded ops a.tmps) = false ∧ wpG P ops Q S rest2 (a.put o2.dst undef) w)) ∧
   ((Region.wanted o3 (yielded ops a.tmps) = true ∧ o3.wp P a w (fun a' w' => S w' ∧ wpG P ops Q S rest3 a' w') (fun _ _ _ => False))
   ∨ (Region.wanted o3 (yielded ops a.tmps) = false ∧ wpG P ops Q S rest3 (a.put o3.dst undef) w))
def planOk (md : Region.Mode) (ops : Array Oper) : PlanT Nat → Array Bool → Bool
 | .nil, listed => (Region.ready md ops listed).isEmpty
 | .take i r, listed => (Region.ready md ops listed).contains i && Region.free md ops listed i && planOk md ops r (listed.setIfInBounds i true)
 | .run i fin r, listed => (Region.ready md ops listed == [i]) && (!fin || (isFinal md ops i && r.isNil)) && planOk md ops r (listed.setIfInBounds i true)
 | .fork i r j s, listed => (Region.ready md ops listed == [i, j]) && (r.len == s.len) && planOk md ops r (listed.setIfInBounds i true) && planOk md ops s (listed.setIfInBounds j true)
 | .fork3 i r j s k t, listed => (Region.ready md ops listed == [i, j, k]) && (r.len == s.len) && (r.len == t.len) && planOk md ops r (listed.setIfInBounds i true) && planOk md ops s (listed.setIfInBounds j true) && planOk md ops t (listed.setIfInBounds k true)
def nthOp : List Oper → Nat → Oper
 | o :: _, 0 => o
 | _ :: l, n + 1 => nthOp l n
 | [], _ => { dst := none, op := .move (.tmp 0), type := 0, pos := "", after := #[], guard := none }
theorem nthOp_of : ∀ (l : List Oper) (i : Nat) (o : Oper), l[i]? = some o → nthOp l i = o
 | a :: l, 0, o, h => by simpa [nthOp] using h
 | a :: l, i + 1, o, h => by simpa [nthOp] using nthOp_of l i o (by simpa using h)
 | [], i, o, h => by simp at h
def pickOps (l : List Oper) : PlanT Nat → PlanT Oper
 | .nil => .nil
 | .take i r => .take (nthOp l i) (pickOps l r)
 | .run i fin r => .run (nthOp l i) fin (pickOps l r)
 | .fork i r j s => .fork (nthOp l i) (pickOps l r) (nthOp l j) (pickOps l s)
 | .fork3 i r j s k t => .fork3 (nthOp l i) (pickOps l r) (nthOp l j) (pickOps l s) (nthOp l k) (pickOps l t)
def NormalOnly (Q : Act → World → Prop) : Exit → Act → World → Prop
 | .normal, a, w => Q a w
 | _, _, _ => False
theorem upon_normal {o : Oper} {a : Act} {K : Act → World → Prop} {Q : Act → World → Prop} {r : Result Next} (h : o.upon P a K (fun _ _ _ => False) r) : o.upon P a K (NormalOnly Q) r := by
 cases r with
 |
  ok n w' =>
  cases n <;> simp only [Oper.upon] at h ⊢ <;> exact h
 |
  halt x w' =>
  cases x <;> simp only [Oper.upon] at h ⊢
theorem wpOp_of_run {l : List Oper} {Q : Act → World → Prop} {i : Nat} {o : Oper} {a : Act} {w : World} {K K' : Act → World → Prop} (ho : l.toArray[i]? = some o)
  (h : (Region.wanted o (yielded l.toArray a.tmps) = true ∧ o.wp P a w K (fun _ _ _ => False)) ∨ (Region.wanted o (yielded l.toArray a.tmps) = false ∧ K (a.put o.dst undef) w)) (hk : ∀ a' w', K a' w' → K' a' w') :
  wpOp P l.toArray (NormalOnly Q) i K' a w := by
 unfold wpOp
 simp only [ho]
 rcases h with ⟨hw, h⟩ | ⟨hw, h⟩
 ·
  rw [if_pos hw]
  exact .inl (Oper.wp_mono hk (upon_normal (Q := Q) h))
 ·
  rw [if_neg (by rw [hw]; exact Bool.false_ne_true)]
  exact hk _ _ h
theorem
    wpAnyG_plan {l : List Oper} {Q : Act → World → Prop} (hs : Region.noSelect l.toArray = true) : ∀ (p : PlanT Nat) (listed : Array Bool) (a : Act) (w : World),
  planOk md l.toArray p listed = true → (p.isNil = true ∨ S w) → wpG P l.toArray Q S (pickOps l p) a w → wpAnyG P md l.toArray (NormalOnly Q) S p.len listed a w
 |
  .nil, listed, a, w, hp, hS, h => by
  refine ⟨?_, h⟩
  simpa [planOk] using hp
 |
  .take i r, listed, a, w, hp, hS0, h => by
  have hS : S w := hS0.resolve_left (by simp [PlanT.isNil])
  simp only [planOk, Bool.and_eq_true] at hp
  obtain ⟨⟨hr, hf⟩, hp'⟩ := hp
  have hr' : i ∈ Region.ready md l.toArray listed := by simpa using hr
  obtain ⟨_, o, ho, _⟩ := mem_ready.1 hr'
  have hol : nthOp l i = o := nthOp_of _ _ _ (by simpa using ho)
  simp only [pickOps, hol, wpG] at h
  rcases h with ⟨hw, v, hv, hk⟩ | ⟨hw, hk⟩
  · exact wpAnyG_first ho (Region.noSelect_spec hs) (fun _ _ _ h => h) r.len listed a w (Region.free_spec ho hf) hr' (.inl ⟨hw, hv⟩) hS (wpAnyG_plan hs r _ _ _ hp' (.inr hS) hk)
  · exact wpAnyG_first ho (Region.noSelect_spec hs) (fun _ _ _ h => h) r.len listed a w (Region.free_spec ho hf) hr' (.inr ⟨hw, rfl⟩) hS (wpAnyG_plan hs r _ _ _ hp' (.inr hS) hk)
 |
  .run i fin r, listed, a, w, hp, hS0, h => by
  have hS : S w := hS0.resolve_left (by simp [PlanT.isNil])
  simp only [planOk, Bool.and_eq_true, Bool.or_eq_true, Bool.not_eq_true', beq_iff_eq] at hp
  obtain ⟨⟨hr, hf⟩, hp'⟩ := hp
  refine ⟨fun h0 => (by rw [hr] at h0; cases h0), fun j hj => ?_⟩
  have hji : j = i := by rw [hr] at hj; simpa using hj
  subst hji
  obtain ⟨_, o, ho, _⟩ := mem_ready.1 hj
  have hol : nthOp l j = o := nthOp_of _ _ _ (by simpa using ho)
  simp only [pickOps, hol, wpG] at h
  refine wpOp_of_run ho (K := fun a' w' => (fin = true ∨ S w') ∧ wpG P l.toArray Q S (pickOps l r) a' w') ?_ (fun a' w' ⟨h1, h2⟩ => ⟨?_, wpAnyG_plan hs r _ _ _ hp' ?_ h2⟩)
  · exact h.imp id (fun ⟨h1, h2⟩ => ⟨h1, .inr hS, h2⟩)
  ·
   rcases h1 with h1 | h1
   ·
    rcases hf with hf | hf
    · rw [h1] at hf; cases hf
    · exact .inl hf.1
   · exact .inr h1
  ·
   rcases h1 with h1 | h1
   ·
    rcases hf with hf | hf
    · rw [h1] at hf; cases hf
    · exact .inl hf.2
   · exact .inr h1
 |
  .fork i r j s, listed, a, w, hp, hS0, h => by
  have hS : S w := hS0.resolve_left (by simp [PlanT.isNil])
  simp only [planOk, Bool.and_eq_true, beq_iff_eq] at hp
  obtain ⟨⟨⟨hr, hlen⟩, hp1⟩, hp2⟩ := hp
  refine ⟨fun h0 => (by rw [hr] at h0; cases h0), fun k hk => ?_⟩
  have hki : k = i ∨ k = j := by rw [hr] at hk; simpa using hk
  obtain ⟨_, o, ho, _⟩ := mem_ready.1 hk
  have hol : nthOp l k = o := nthOp_of _ _ _ (by simpa using ho)
  simp only [pickOps, wpG] at h
  rcases hki with rfl | rfl
  ·
   rw [hol] at h
   refine wpOp_of_run ho (K := fun a' w' => S w' ∧ wpG P l.toArray Q S (pickOps l r) a' w') ?_ (fun a' w' ⟨h1, h2⟩ => ⟨.inr h1, wpAnyG_plan hs r _ _ _ hp1 (.inr h1) h2⟩)
   exact h.1.imp id (fun ⟨h1, h2⟩ => ⟨h1, hS, h2⟩)
  ·
   rw [hol] at h
   refine wpOp_of_run ho (K := fun a' w' => S w' ∧ wpG P l.toArray Q S (pickOps l s) a' w') ?_ (fun a' w' ⟨h1, h2⟩ => ⟨.inr h1, ?_⟩)
   · exact h.2.imp id (fun ⟨h1, h2⟩ => ⟨h1, hS, h2⟩)
   · rw [hlen]; exact wpAnyG_plan hs s _ _ _ hp2 (.inr h1) h2
 |
  .fork3 i r j s k u, listed, a, w, hp, hS0, h => by
  have hS : S w := hS0.resolve_left (by simp [PlanT.isNil])
  simp only [planOk, Bool.and_eq_true, beq_iff_eq] at hp
  obtain ⟨⟨⟨⟨⟨hr, hlen⟩, hlen2⟩, hp1⟩, hp2⟩, hp3⟩ := hp
  refine ⟨fun h0 => (by rw [hr] at h0; cases h0), fun q hq => ?_⟩
  have hqi : q = i ∨ q = j ∨ q = k := by rw [hr] at hq; simpa using hq
  obtain ⟨_, o, ho, _⟩ := mem_ready.1 hq
  have hol : nthOp l q = o := nthOp_of _ _ _ (by simpa using ho)
  simp only [pickOps, wpG] at h
  rcases hqi with rfl | rfl | rfl
  ·
   rw [hol] at h
   refine wpOp_of_run ho (K := fun a' w' => S w' ∧ wpG P l.toArray Q S (pickOps l r) a' w') ?_ (fun a' w' ⟨h1, h2⟩ => ⟨.inr h1, wpAnyG_plan hs r _ _ _ hp1 (.inr h1) h2⟩)
   exact h.1.imp id (fun ⟨h1, h2⟩ => ⟨h1, hS, h2⟩)
  ·
   rw [hol] at h
   refine wpOp_of_run ho (K := fun a' w' => S w' ∧ wpG P l.toArray Q S (pickOps l s) a' w') ?_ (fun a' w' ⟨h1, h2⟩ => ⟨.inr h1, ?_⟩)
   · exact h.2.1.imp id (fun ⟨h1, h2⟩ => ⟨h1, hS, h2⟩)
   · rw [hlen]; exact wpAnyG_plan hs s _ _ _ hp2 (.inr h1) h2
  ·
   rw [hol] at h
   refine wpOp_of_run ho (K := fun a' w' => S w' ∧ wpG P l.toArray Q S (pickOps l u) a' w') ?_ (fun a' w' ⟨h1, h2⟩ => ⟨.inr h1, ?_⟩)
   · exact h.2.2.imp id (fun ⟨h1, h2⟩ => ⟨h1, hS, h2⟩)
   · rw [hlen2]; exact wpAnyG_plan hs u _ _ _ hp3 (.inr h1) h2
theorem wp_region_S {id : Nat} {l : List Oper} {Q : Exit → Act → World → Prop} {a : Act} {w : World} (S : World → Prop) (p : PlanT Nat) (hS : S w.drew) (hm : P.follows .mixedOrders = true)
  (hp : (Region.noSelect l.toArray && (p.len == l.length) && planOk .any l.toArray p (Array.replicate l.length false)) = true)
  (h : ∀ w1, Gr w w1 → S w1 → wpG P l.toArray (fun a w => Q .normal a w) S (pickOps l p) a w1) : (Code.region id l.toArray true).wp P Q a w := by
 simp only [Bool.and_eq_true, beq_iff_eq] at hp
 obtain ⟨⟨hs, hl⟩, hp'⟩ := hp
 refine Code.wp_mono (Q := NormalOnly (fun a w => Q .normal a w)) (fun e a w h => by cases e <;> first | exact h | exact (h : False).elim) ?_
 refine wp_region_any hm ?_
 have := wpAny_of_G _ _ _ _ (wpAnyG_plan (md := .any) (P := P) hs p _ _ _ hp' (.inr hS) (h w.drew (Gr.drew w) hS))
 rw [hl] at this
 simpa using this
theorem wp_region_B {id : Nat} {l : List Oper} {Q : Exit → Act → World → Prop} {a : Act} {W w : World} (hW : Gr W w) (p : PlanT Nat) (hm : P.follows .mixedOrders = true)
  (hp : (Region.noSelect l.toArray && (p.len == l.length) && planOk .any l.toArray p (Array.replicate l.length false)) = true)
  (h : ∀ w1, Gr W w1 → wpG P l.toArray (fun a w => Q .normal a w) (Gr W) (pickOps l p) a w1) : (Code.region id l.toArray true).wp P Q a w :=
 wp_region_S (Gr W) p (hW.trans (Gr.drew w)) hm hp (fun w1 _ h1 => h w1 h1)
theorem wp_region_G {id : Nat} {l : List Oper} {Q : Exit → Act → World → Prop} {a : Act} {w : World} (p : PlanT Nat) (hm : P.follows .mixedOrders = true)
  (hp : (Region.noSelect l.toArray && (p.len == l.length) && planOk .any l.toArray p (Array.replicate l.length false)) = true)
  (h : ∀ w1, Gr w w1 → wpG P l.toArray (fun a w => Q .normal a w) (Gr w) (pickOps l p) a w1) : (Code.region id l.toArray true).wp P Q a w := wp_region_B (Gr.refl w) p hm hp h
theorem wpG_skip_take {Q : Act → World → Prop} {a : Act} {w : World} {o : Oper} {rest : PlanT Oper} (hw : Region.wanted o (yielded ops a.tmps) = false)
  (h : wpG P ops Q S rest (a.put o.dst undef) w) : wpG P ops Q S (.take o rest) a w := .inr ⟨hw, h⟩
theorem wpG_skip_run {Q : Act → World → Prop} {a : Act} {w : World} {o : Oper} {fin : Bool} {rest : PlanT Oper} (hw : Region.wanted o (yielded ops a.tmps) = false)
  (h : wpG P ops Q S rest (a.put o.dst undef) w) : wpG P ops Q S (.run o fin rest) a w := .inr ⟨hw, h⟩
theorem wpG_take {Q : Act → World → Prop} {a : Act} {w : World} {o : Oper} {rest : PlanT Oper} (hw : Region.wanted o (yielded ops a.tmps) = true)
  (h : ∃ v, (∀ w', S w' → (execOp a.eval o).run P w' = .ok (.value v) w') ∧ wpG P ops Q S rest (a.put o.dst v) w) : wpG P ops Q S (.take o rest) a w := .inl ⟨hw, h⟩
theorem wpG_run {Q : Act → World → Prop} {a : Act} {w : World} {o : Oper} {rest : PlanT Oper} (hw : Region.wanted o (yielded ops a.tmps) = true)
  (h : ∀ K : Act → World → Prop, Shut (∀ a' w', S w' → wpG P ops Q S rest a' w' → K a' w') → o.wp P a w K (fun _ _ _ => False)) : wpG P ops Q S (.run o false rest) a w :=
 .inl ⟨hw, h _ fun _ _ hG hk => ⟨.inr hG, hk⟩⟩
theorem wpG_last {Q : Act → World → Prop} {a : Act} {w : World} {o : Oper} {rest : PlanT Oper} (hw : Region.wanted o (yielded ops a.tmps) = true)
  (h : ∀ K : Act → World → Prop, Shut (∀ a' w', wpG P ops Q S rest a' w' → K a' w') → o.wp P a w K (fun _ _ _ => False)) : wpG P ops Q S (.run o true rest) a w :=
 .inl ⟨hw, h _ fun _ _ hk => ⟨.inl rfl, hk⟩⟩
theorem wpG_fork {Q : Act → World → Prop} {a : Act} {w : World} {o1 o2 : Oper} {r1 r2 : PlanT Oper} (hw1 : Region.wanted o1 (yielded ops a.tmps) = true) (hw2 : Region.wanted o2 (yielded ops a.tmps) = true)
  (h1 : ∀ K : Act → World → Prop, Shut (∀ a' w', S w' → wpG P ops Q S r1 a' w' → K a' w') → o1.wp P a w K (fun _ _ _ => False))
  (h2 : ∀ K : Act → World → Prop, Shut (∀ a' w', S w' → wpG P ops Q S r2 a' w' → K a' w') → o2.wp P a w K (fun _ _ _ => False)) : wpG P ops Q S (.fork o1 r1 o2 r2) a w :=
 ⟨.inl ⟨hw1, h1 _ fun _ _ hG hk => ⟨hG, hk⟩⟩, .inl ⟨hw2, h2 _ fun _ _ hG hk => ⟨hG, hk⟩⟩⟩
theorem wpG_done {Q : Act → World → Prop} {a : Act} {w : World} (h : Q a w) : wpG P ops Q S .nil a w := h
end
theorem name_world {P : Program} {c : Code} {Q : Exit → Act → World → Prop} {a : Act} {w0 : World} (h : ∀ W, W = w0 → c.wp P Q a W) : c.wp P Q a w0 := h _ rfl
theorem name_K {K : Act → World → Prop} {a : Act} {w0 : World} (h : ∀ W, W = w0 → K a W) : K a w0 := h _ rfl
theorem Gr.of_alloc {w W : World} {o : Obj} (h : W = w.alloc o) : Gr w W := h ▸ Gr.alloc w o
theorem name_calls {P : Program} {f : FuncId} {args : Array Value} {R : Ending → World → Prop} {w0 : World} (h : ∀ W, W = w0 → Calls P f args W R) : Calls P f args w0 R := h _ rfl
theorem Gr.cells {w w' : World} (h : Gr w w') : ∀ b o, b < w.heap.size → w'.cell? ⟨b, o, none⟩ = w.cell? ⟨b, o, none⟩ := fun b o hb => Below.cell (p := ⟨b, o, none⟩) h hb
theorem Gr.marks {w w' : World} (h : Gr w w') : ∀ b o, b < w.heap.size → w'.frozen? ⟨b, o, none⟩ = w.frozen? ⟨b, o, none⟩ := fun b o hb => Below.frozen (p := ⟨b, o, none⟩) h hb
end Go.Proofs.YtkkopdmemjncdaaGreatDoor
namespace Go.Proofs.YtkkopdmemjncdaaGreatDoor
open Go Go.RowKit
def Sl (w : World) (v : Value) (k n : Nat) (cs : List Value) : Prop :=
 cs.length = n * k ∧ n ≤ maxLen ∧
 (((∃ p c, v = .slice p 0 c) ∧ n = 0) ∨ ∃ b off cap, v = .slice (some ⟨b, off, none⟩) n cap ∧ (n ≠ 0 → b < w.heap.size) ∧ ∀ j u, cs[j]? = some u → w.cell? ⟨b, off + j, none⟩ = some u)
theorem Sl.later {w w' : World} {v : Value} {k n : Nat} {cs : List Value} (h : Sl w v k n cs) (hG : Gr w w') : Sl w' v k n cs := by
 obtain ⟨h1, h2, h3⟩ := h
 refine ⟨h1, h2, h3.imp id ?_⟩
 rintro ⟨b, off, cap, hv, hb, hc⟩
 exact ⟨b, off, cap, hv, fun h => Nat.lt_of_lt_of_le (hb h) hG.size, fun j u hj => hG.cell (hc j u hj)⟩
theorem Sl.nil (w : World) (k : Nat) : Sl w (.slice none 0 0) k 0 [] := ⟨by simp, by simp, .inl ⟨⟨_, _, rfl⟩, rfl⟩⟩
theorem Sl.zero (w : World) (p : Option Addr) (c k : Nat) : Sl w (.slice p 0 c) k 0 [] := ⟨by simp, by simp, .inl ⟨⟨_, _, rfl⟩, rfl⟩⟩
theorem Sl.len {w : World} {v : Value} {k n : Nat} {cs : List Value} (h : Sl w v k n cs) : ∃ p cap, v = .slice p n cap := by
 obtain ⟨_, _, ⟨⟨p, c, rfl⟩, rfl⟩ | ⟨b, off, cap, rfl, _⟩⟩ := h
 · exact ⟨_, _, rfl⟩
 · exact ⟨_, _, rfl⟩
theorem Sl.of_owns {w : World} {base e size : Nat} {v : Value} {n : Nat} {xs : List Value} (h : w.ownsRow base e size v n xs) : Sl w v size n xs := by
 obtain ⟨h1, h2⟩ := h
 rcases h2 with ⟨hv, hn⟩ | ⟨g, cap, cur, hv, hbase, hheap, hle, hcap, hsz, htake⟩
 · refine ⟨h1, by omega, .inl ⟨⟨_, _, hv⟩, hn⟩⟩
 ·
  refine ⟨h1, by omega, .inr ⟨g, 0, cap, hv, fun _ => (Array.getElem?_eq_some_iff.1 hheap).1, fun j u hj => ?_⟩⟩
  have hown : w.ownsRow base e size v n xs := ⟨h1, .inr ⟨g, cap, cur, hv, hbase, hheap, hle, hcap, hsz, htake⟩⟩
  have := World.ownsRow.cells hown (g := g) (by rw [hv]; rfl) j u hj
  rw [show (⟨g, 0 + j, none⟩ : Addr) = (⟨g, 0, none⟩ : Addr).add j by
   unfold Addr.add
   by_cases h0 : j = 0
   · subst h0; rfl
   · rw [if_neg h0]]
  exact this
theorem ret_int {k : IntKind} {a b : Int} (h : a = b) : Ending.returned (.int k a) = .returned (.int k b) := by rw [h]
theorem ret_bool {a b : Bool} (h : a = b) : Ending.returned (.bool a) = .returned (.bool b) := by rw [h]
def boxAt (w : World) (b : Nat) (vs : List Value) : Prop := ∀ j u, vs[j]? = some u → w.cell? ⟨b, j, none⟩ = some u ∧ w.frozen? ⟨b, j, none⟩ = false
theorem boxAt.cell {w : World} {b : Nat} {vs : List Value} (h : boxAt w b vs) (j : Nat) (u : Value) (hj : vs[j]? = some u) : w.cell? ⟨b, j, none⟩ = some u := (h j u hj).1
theorem boxAt.mark {w : World} {b : Nat} {vs : List Value} (h : boxAt w b vs) (j : Nat) (u : Value) (hj : vs[j]? = some u) : w.frozen? ⟨b, j, none⟩ = false := (h j u hj).2
theorem boxAt.later {w w' : World} {b : Nat} {vs : List Value} (h : boxAt w b vs) (hG : Gr w w') : boxAt w' b vs := fun j u hj => by
 have hc := (h j u hj).1
 have hb := World.block_lt_of_cell? w _ hc
 exact ⟨hG.cell hc, hG.frozen hb (h j u hj).2⟩
theorem boxAt.below {w w' : World} {B b : Nat} {vs : List Value} (h : boxAt w b vs) (hG : Below B w w') (hb : b < B) : boxAt w' b vs := fun j u hj => by
 have hc := (h j u hj).1
 refine ⟨?_, ?_⟩
 · rw [Below.cell (p := ⟨b, j, none⟩) hG hb]; exact hc
 · rw [Below.frozen (p := ⟨b, j, none⟩) hG hb]; exact (h j u hj).2
theorem boxAt.put {w : World} {b : Nat} {vs : List Value} (h : boxAt w b vs) (j : Nat) (v : Value) (hj : j < vs.length) : boxAt (w.setCell ⟨b, j, none⟩ v) b (vs.set j v) := fun i u hi => by
 have hm : ∀ p : Addr, (w.setCell ⟨b, j, none⟩ v).frozen? p = w.frozen? p := fun p => World.frozen?_setCell ..
 by_cases hij : i = j
 ·
  subst hij
  rw [List.getElem?_set_self hj] at hi
  obtain rfl : v = u := by simpa using hi
  have hx := List.getElem?_eq_getElem hj
  exact ⟨World.cell?_setCell_same _ _ _ (h i _ hx).1, by rw [hm]; exact (h i _ hx).2⟩
 ·
  rw [List.getElem?_set_ne (Ne.symm hij)] at hi
  have h1 := h i u hi
  refine ⟨?_, by rw [hm]; exact h1.2⟩
  rw [World.cell?_setCell_other]
  · exact h1.1
  · intro e; injection e with e1 e2; exact hij e2.symm
theorem boxAt.far {w : World} {b : Nat} {vs : List Value} (h : boxAt w b vs) (p : Addr) (v : Value) (hp : p.block ≠ b) : boxAt (w.setCell p v) b vs := fun i u hi => by
 have h1 := h i u hi
 refine ⟨?_, by rw [World.frozen?_setCell]; exact h1.2⟩
 rw [World.cell?_setCell_other]
 · exact h1.1
 · intro e; exact hp (by rw [e])
theorem boxAt.new {w W : World} (vs : List Value) (e : TypeId) (hW : W = w.alloc (.cells vs.toArray e)) : boxAt W w.heap.size vs := fun j u hj => by
 subst hW
 constructor
 · rw [World.cell?_alloc_new]; simpa using hj
 · rw [World.frozen?_alloc_new]
theorem boxAt.heap {w w' : World} {b : Nat} {vs : List Value} (h : boxAt w b vs) (hb : w'.heap[b]? = w.heap[b]?) : boxAt w' b vs := fun i u hi => by
 have h1 := h i u hi
 unfold World.cell? World.frozen? at *
 rw [hb]; exact h1
theorem boxAt.lt {w : World} {b : Nat} {vs : List Value} (h : boxAt w b vs) (hn : 0 < vs.length) : b < w.heap.size :=
 World.block_lt_of_cell? w _ (h 0 _ (List.getElem?_eq_getElem hn)).1
theorem boxAt.grown {w w' : World} {b : Nat} {vs : List Value} {row : Option Nat} (h : boxAt w b vs) (hg : w.grownBy w' row) (hn : 0 < vs.length) (hr : row ≠ some b) : boxAt w' b vs :=
 h.heap (hg.block b (h.lt hn) (fun e => hr e.symm))
theorem Gr.grown {w a w' : World} {row : Option Nat} (h : Gr w a) (hg : a.grownBy w' row) (hr : ∀ k, row = some k → w.heap.size ≤ k) : Gr w w' :=
 Below.grown h hg (Gr.size h) hr
theorem Sl.cells {w w' : World} {v : Value} {k n : Nat} {cs : List Value} (h : Sl w v k n cs) (hs : w.heap.size ≤ w'.heap.size) (hc : ∀ p : Addr, w'.cell? p = w.cell? p) : Sl w' v k n cs := by
 obtain ⟨h1, h2, h3⟩ := h
 refine ⟨h1, h2, h3.imp id ?_⟩
 rintro ⟨b, off, cap, hv, hb, hc2⟩
 exact ⟨b, off, cap, hv, fun h => Nat.lt_of_lt_of_le (hb h) hs, fun j u hj => by rw [hc]; exact hc2 j u hj⟩
theorem flatMap_get {α : Type} (f : α → List Value) (k : Nat) (hf : ∀ a, (f a).length = k) : ∀ (l : List α) (i j : Nat) (a : α), l[i]? = some a → j < k → (l.flatMap f)[i * k + j]? = (f a)[j]?
 | [], i, j, a, h, _ => by simp at h
 |
  x :: l, 0, j, a, h, hj => by
  simp at h; subst h
  rw [List.flatMap_cons, Nat.zero_mul, Nat.zero_add, List.getElem?_append_left (by rw [hf]; exact hj)]
 |
  x :: l, i + 1, j, a, h, hj => by
  simp at h
  rw [List.flatMap_cons, List.getElem?_append_right (by rw [hf, Nat.succ_mul]; omega), hf, show (i + 1) * k + j - k = i * k + j by rw [Nat.succ_mul]; omega]
  exact flatMap_get f k hf l i j a h hj
theorem flatMap_len {α : Type} (f : α → List Value) (k : Nat) (hf : ∀ a, (f a).length = k) : ∀ (l : List α), (l.flatMap f).length = l.length * k
 | [] => by simp
 | x :: l => by rw [List.flatMap_cons, List.length_append, hf, flatMap_len f k hf l, List.length_cons, Nat.succ_mul]; omega
theorem unb2 {w : World} {b : Nat} {v0 v1 : Value} (h : boxAt w b [v0, v1]) : w.cell? ⟨b, 0, none⟩ = some v0 ∧ w.cell? ⟨b, 1, none⟩ = some v1 ∧ w.frozen? ⟨b, 0, none⟩ = false ∧ w.frozen? ⟨b, 1, none⟩ = false ∧ b < w.heap.size :=
 ⟨h.cell 0 _ rfl, h.cell 1 _ rfl, h.mark 0 _ rfl, h.mark 1 _ rfl, h.lt (Nat.succ_pos _)⟩
theorem unb3 {w : World} {b : Nat} {v0 v1 v2 : Value} (h : boxAt w b [v0, v1, v2]) : w.cell? ⟨b, 0, none⟩ = some v0 ∧ w.cell? ⟨b, 1, none⟩ = some v1 ∧ w.cell? ⟨b, 2, none⟩ = some v2 ∧ w.frozen? ⟨b, 0, none⟩ = false ∧ w.frozen? ⟨b, 1, none⟩ = false ∧ w.frozen? ⟨b, 2, none⟩ = false ∧ b < w.heap.size :=
 ⟨h.cell 0 _ rfl, h.cell 1 _ rfl, h.cell 2 _ rfl, h.mark 0 _ rfl, h.mark 1 _ rfl, h.mark 2 _ rfl, h.lt (Nat.succ_pos _)⟩
theorem unb4 {w : World} {b : Nat} {v0 v1 v2 v3 : Value} (h : boxAt w b [v0, v1, v2, v3]) : w.cell? ⟨b, 0, none⟩ = some v0 ∧ w.cell? ⟨b, 1, none⟩ = some v1 ∧ w.cell? ⟨b, 2, none⟩ = some v2 ∧ w.cell? ⟨b, 3, none⟩ = some v3 ∧ w.frozen? ⟨b, 0, none⟩ = false ∧ w.frozen? ⟨b, 1, none⟩ = false ∧ w.frozen? ⟨b, 2, none⟩ = false ∧ w.frozen? ⟨b, 3, none⟩ = false ∧ b < w.heap.size :=
 ⟨h.cell 0 _ rfl, h.cell 1 _ rfl, h.cell 2 _ rfl, h.cell 3 _ rfl, h.mark 0 _ rfl, h.mark 1 _ rfl, h.mark 2 _ rfl, h.mark 3 _ rfl, h.lt (Nat.succ_pos _)⟩
theorem unb5 {w : World} {b : Nat} {v0 v1 v2 v3 v4 : Value} (h : boxAt w b [v0, v1, v2, v3, v4]) : w.cell? ⟨b, 0, none⟩ = some v0 ∧ w.cell? ⟨b, 1, none⟩ = some v1 ∧ w.cell? ⟨b, 2, none⟩ = some v2 ∧ w.cell? ⟨b, 3, none⟩ = some v3 ∧ w.cell? ⟨b, 4, none⟩ = some v4 ∧ w.frozen? ⟨b, 0, none⟩ = false ∧ w.frozen? ⟨b, 1, none⟩ = false ∧ w.frozen? ⟨b, 2, none⟩ = false ∧ w.frozen? ⟨b, 3, none⟩ = false ∧ w.frozen? ⟨b, 4, none⟩ = false ∧ b < w.heap.size :=
 ⟨h.cell 0 _ rfl, h.cell 1 _ rfl, h.cell 2 _ rfl, h.cell 3 _ rfl, h.cell 4 _ rfl, h.mark 0 _ rfl, h.mark 1 _ rfl, h.mark 2 _ rfl, h.mark 3 _ rfl, h.mark 4 _ rfl, h.lt (Nat.succ_pos _)⟩
theorem unb6 {w : World} {b : Nat} {v0 v1 v2 v3 v4 v5 : Value} (h : boxAt w b [v0, v1, v2, v3, v4, v5]) : w.cell? ⟨b, 0, none⟩ = some v0 ∧ w.cell? ⟨b, 1, none⟩ = some v1 ∧ w.cell? ⟨b, 2, none⟩ = some v2 ∧ w.cell? ⟨b, 3, none⟩ = some v3 ∧ w.cell? ⟨b, 4, none⟩ = some v4 ∧ w.cell? ⟨b, 5, none⟩ = some v5 ∧ w.frozen? ⟨b, 0, none⟩ = false ∧ w.frozen? ⟨b, 1, none⟩ = false ∧ w.frozen? ⟨b, 2, none⟩ = false ∧ w.frozen? ⟨b, 3, none⟩ = false ∧ w.frozen? ⟨b, 4, none⟩ = false ∧ w.frozen? ⟨b, 5, none⟩ = false ∧ b < w.heap.size :=
 ⟨h.cell 0 _ rfl, h.cell 1 _ rfl, h.cell 2 _ rfl, h.cell 3 _ rfl, h.cell 4 _ rfl, h.cell 5 _ rfl, h.mark 0 _ rfl, h.mark 1 _ rfl, h.mark 2 _ rfl, h.mark 3 _ rfl, h.mark 4 _ rfl, h.mark 5 _ rfl, h.lt (Nat.succ_pos _)⟩
theorem unb8 {w : World} {b : Nat} {v0 v1 v2 v3 v4 v5 v6 v7 : Value} (h : boxAt w b [v0, v1, v2, v3, v4, v5, v6, v7]) : w.cell? ⟨b, 0, none⟩ = some v0 ∧ w.cell? ⟨b, 1, none⟩ = some v1 ∧ w.cell? ⟨b, 2, none⟩ = some v2 ∧ w.cell? ⟨b, 3, none⟩ = some v3 ∧ w.cell? ⟨b, 4, none⟩ = some v4 ∧ w.cell? ⟨b, 5, none⟩ = some v5 ∧ w.cell? ⟨b, 6, none⟩ = some v6 ∧ w.cell? ⟨b, 7, none⟩ = some v7 ∧ w.frozen? ⟨b, 0, none⟩ = false ∧ w.frozen? ⟨b, 1, none⟩ = false ∧ w.frozen? ⟨b, 2, none⟩ = false ∧ w.frozen? ⟨b, 3, none⟩ = false ∧ w.frozen? ⟨b, 4, none⟩ = false ∧ w.frozen? ⟨b, 5, none⟩ = false ∧ w.frozen? ⟨b, 6, none⟩ = false ∧ w.frozen? ⟨b, 7, none⟩ = false ∧ b < w.heap.size :=
 ⟨h.cell 0 _ rfl, h.cell 1 _ rfl, h.cell 2 _ rfl, h.cell 3 _ rfl, h.cell 4 _ rfl, h.cell 5 _ rfl, h.cell 6 _ rfl, h.cell 7 _ rfl, h.mark 0 _ rfl, h.mark 1 _ rfl, h.mark 2 _ rfl, h.mark 3 _ rfl, h.mark 4 _ rfl, h.mark 5 _ rfl, h.mark 6 _ rfl, h.mark 7 _ rfl, h.lt (Nat.succ_pos _)⟩
theorem unb10 {w : World} {b : Nat} {v0 v1 v2 v3 v4 v5 v6 v7 v8 v9 : Value} (h : boxAt w b [v0, v1, v2, v3, v4, v5, v6, v7, v8, v9]) : w.cell? ⟨b, 0, none⟩ = some v0 ∧ w.cell? ⟨b, 1, none⟩ = some v1 ∧ w.cell? ⟨b, 2, none⟩ = some v2 ∧ w.cell? ⟨b, 3, none⟩ = some v3 ∧ w.cell? ⟨b, 4, none⟩ = some v4 ∧ w.cell? ⟨b, 5, none⟩ = some v5 ∧ w.cell? ⟨b, 6, none⟩ = some v6 ∧ w.cell? ⟨b, 7, none⟩ = some v7 ∧ w.cell? ⟨b, 8, none⟩ = some v8 ∧ w.cell? ⟨b, 9, none⟩ = some v9 ∧ w.frozen? ⟨b, 0, none⟩ = false ∧ w.frozen? ⟨b, 1, none⟩ = false ∧ w.frozen? ⟨b, 2, none⟩ = false ∧ w.frozen? ⟨b, 3, none⟩ = false ∧ w.frozen? ⟨b, 4, none⟩ = false ∧ w.frozen? ⟨b, 5, none⟩ = false ∧ w.frozen? ⟨b, 6, none⟩ = false ∧ w.frozen? ⟨b, 7, none⟩ = false ∧ w.frozen? ⟨b, 8, none⟩ = false ∧ w.frozen? ⟨b, 9, none⟩ = false ∧ b < w.heap.size :=
 ⟨h.cell 0 _ rfl, h.cell 1 _ rfl, h.cell 2 _ rfl, h.cell 3 _ rfl, h.cell 4 _ rfl, h.cell 5 _ rfl, h.cell 6 _ rfl, h.cell 7 _ rfl, h.cell 8 _ rfl, h.cell 9 _ rfl, h.mark 0 _ rfl, h.mark 1 _ rfl, h.mark 2 _ rfl, h.mark 3 _ rfl, h.mark 4 _ rfl, h.mark 5 _ rfl, h.mark 6 _ rfl, h.mark 7 _ rfl, h.mark 8 _ rfl, h.mark 9 _ rfl, h.lt (Nat.succ_pos _)⟩
theorem unb12 {w : World} {b : Nat} {v0 v1 v2 v3 v4 v5 v6 v7 v8 v9 v10 v11 : Value} (h : boxAt w b [v0, v1, v2, v3, v4, v5, v6, v7, v8, v9, v10, v11]) : w.cell? ⟨b, 0, none⟩ = some v0 ∧ w.cell? ⟨b, 1, none⟩ = some v1 ∧ w.cell? ⟨b, 2, none⟩ = some v2 ∧ w.cell? ⟨b, 3, none⟩ = some v3 ∧ w.cell? ⟨b, 4, none⟩ = some v4 ∧ w.cell? ⟨b, 5, none⟩ = some v5 ∧ w.cell? ⟨b, 6, none⟩ = some v6 ∧ w.cell? ⟨b, 7, none⟩ = some v7 ∧ w.cell? ⟨b, 8, none⟩ = some v8 ∧ w.cell? ⟨b, 9, none⟩ = some v9 ∧ w.cell? ⟨b, 10, none⟩ = some v10 ∧ w.cell? ⟨b, 11, none⟩ = some v11 ∧ w.frozen? ⟨b, 0, none⟩ = false ∧ w.frozen? ⟨b, 1, none⟩ = false ∧ w.frozen? ⟨b, 2, none⟩ = false ∧ w.frozen? ⟨b, 3, none⟩ = false ∧ w.frozen? ⟨b, 4, none⟩ = false ∧ w.frozen? ⟨b, 5, none⟩ = false ∧ w.frozen? ⟨b, 6, none⟩ = false ∧ w.frozen? ⟨b, 7, none⟩ = false ∧ w.frozen? ⟨b, 8, none⟩ = false ∧ w.frozen? ⟨b, 9, none⟩ = false ∧ w.frozen? ⟨b, 10, none⟩ = false ∧ w.frozen? ⟨b, 11, none⟩ = false ∧ b < w.heap.size :=
 ⟨h.cell 0 _ rfl, h.cell 1 _ rfl, h.cell 2 _ rfl, h.cell 3 _ rfl, h.cell 4 _ rfl, h.cell 5 _ rfl, h.cell 6 _ rfl, h.cell 7 _ rfl, h.cell 8 _ rfl, h.cell 9 _ rfl, h.cell 10 _ rfl, h.cell 11 _ rfl, h.mark 0 _ rfl, h.mark 1 _ rfl, h.mark 2 _ rfl, h.mark 3 _ rfl, h.mark 4 _ rfl, h.mark 5 _ rfl, h.mark 6 _ rfl, h.mark 7 _ rfl, h.mark 8 _ rfl, h.mark 9 _ rfl, h.mark 10 _ rfl, h.mark 11 _ rfl, h.lt (Nat.succ_pos _)⟩
theorem unb24 {w : World} {b : Nat} {v0 v1 v2 v3 v4 v5 v6 v7 v8 v9 v10 v11 v12 v13 v14 v15 v16 v17 v18 v19 v20 v21 v22 v23 : Value} (h : boxAt w b [v0, v1, v2, v3, v4, v5, v6, v7, v8, v9, v10, v11, v12, v13, v14, v15, v16, v17, v18, v19, v20, v21, v22, v23]) : w.cell? ⟨b, 0, none⟩ = some v0 ∧ w.cell? ⟨b, 1, none⟩ = some v1 ∧ w.cell? ⟨b, 2, none⟩ = some v2 ∧ w.cell? ⟨b, 3, none⟩ = some v3 ∧ w.cell? ⟨b, 4, none⟩ = some v4 ∧ w.cell? ⟨b, 5, none⟩ = some v5 ∧ w.cell? ⟨b, 6, none⟩ = some v6 ∧ w.cell? ⟨b, 7, none⟩ = some v7 ∧ w.cell? ⟨b, 8, none⟩ = some v8 ∧ w.cell? ⟨b, 9, none⟩ = some v9 ∧ w.cell? ⟨b, 10, none⟩ = some v10 ∧ w.cell? ⟨b, 11, none⟩ = some v11 ∧ w.cell? ⟨b, 12, none⟩ = some v12 ∧ w.cell? ⟨b, 13, none⟩ = some v13 ∧ w.cell? ⟨b, 14, none⟩ = some v14 ∧ w.cell? ⟨b, 15, none⟩ = some v15 ∧ w.cell? ⟨b, 16, none⟩ = some v16 ∧ w.cell? ⟨b, 17, none⟩ = some v17 ∧ w.cell? ⟨b, 18, none⟩ = some v18 ∧ w.cell? ⟨b, 19, none⟩ = some v19 ∧ w.cell? ⟨b, 20, none⟩ = some v20 ∧ w.cell? ⟨b, 21, none⟩ = some v21 ∧ w.cell? ⟨b, 22, none⟩ = some v22 ∧ w.cell? ⟨b, 23, none⟩ = some v23 ∧ w.frozen? ⟨b, 0, none⟩ = false ∧ w.frozen? ⟨b, 1, none⟩ = false ∧ w.frozen? ⟨b, 2, none⟩ = false ∧ w.frozen? ⟨b, 3, none⟩ = false ∧ w.frozen? ⟨b, 4, none⟩ = false ∧ w.frozen? ⟨b, 5, none⟩ = false ∧ w.frozen? ⟨b, 6, none⟩ = false ∧ w.frozen? ⟨b, 7, none⟩ = false ∧ w.frozen? ⟨b, 8, none⟩ = false ∧ w.frozen? ⟨b, 9, none⟩ = false ∧ w.frozen? ⟨b, 10, none⟩ = false ∧ w.frozen? ⟨b, 11, none⟩ = false ∧ w.frozen? ⟨b, 12, none⟩ = false ∧ w.frozen? ⟨b, 13, none⟩ = false ∧ w.frozen? ⟨b, 14, none⟩ = false ∧ w.frozen? ⟨b, 15, none⟩ = false ∧ w.frozen? ⟨b, 16, none⟩ = false ∧ w.frozen? ⟨b, 17, none⟩ = false ∧ w.frozen? ⟨b, 18, none⟩ = false ∧ w.frozen? ⟨b, 19, none⟩ = false ∧ w.frozen? ⟨b, 20, none⟩ = false ∧ w.frozen? ⟨b, 21, none⟩ = false ∧ w.frozen? ⟨b, 22, none⟩ = false ∧ w.frozen? ⟨b, 23, none⟩ = false ∧ b < w.heap.size :=
 ⟨h.cell 0 _ rfl, h.cell 1 _ rfl, h.cell 2 _ rfl, h.cell 3 _ rfl, h.cell 4 _ rfl, h.cell 5 _ rfl, h.cell 6 _ rfl, h.cell 7 _ rfl, h.cell 8 _ rfl, h.cell 9 _ rfl, h.cell 10 _ rfl, h.cell 11 _ rfl, h.cell 12 _ rfl, h.cell 13 _ rfl, h.cell 14 _ rfl, h.cell 15 _ rfl, h.cell 16 _ rfl, h.cell 17 _ rfl, h.cell 18 _ rfl, h.cell 19 _ rfl, h.cell 20 _ rfl, h.cell 21 _ rfl, h.cell 22 _ rfl, h.cell 23 _ rfl, h.mark 0 _ rfl, h.mark 1 _ rfl, h.mark 2 _ rfl, h.mark 3 _ rfl, h.mark 4 _ rfl, h.mark 5 _ rfl, h.mark 6 _ rfl, h.mark 7 _ rfl, h.mark 8 _ rfl, h.mark 9 _ rfl, h.mark 10 _ rfl, h.mark 11 _ rfl, h.mark 12 _ rfl, h.mark 13 _ rfl, h.mark 14 _ rfl, h.mark 15 _ rfl, h.mark 16 _ rfl, h.mark 17 _ rfl, h.mark 18 _ rfl, h.mark 19 _ rfl, h.mark 20 _ rfl, h.mark 21 _ rfl, h.mark 22 _ rfl, h.mark 23 _ rfl, h.lt (Nat.succ_pos _)⟩
theorem unb26 {w : World} {b : Nat} {v0 v1 v2 v3 v4 v5 v6 v7 v8 v9 v10 v11 v12 v13 v14 v15 v16 v17 v18 v19 v20 v21 v22 v23 v24 v25 : Value} (h : boxAt w b [v0, v1, v2, v3, v4, v5, v6, v7, v8, v9, v10, v11, v12, v13, v14, v15, v16, v17, v18, v19, v20, v21, v22, v23, v24, v25]) : w.cell? ⟨b, 0, none⟩ = some v0 ∧ w.cell? ⟨b, 1, none⟩ = some v1 ∧ w.cell? ⟨b, 2, none⟩ = some v2 ∧ w.cell? ⟨b, 3, none⟩ = some v3 ∧ w.cell? ⟨b, 4, none⟩ = some v4 ∧ w.cell? ⟨b, 5, none⟩ = some v5 ∧ w.cell? ⟨b, 6, none⟩ = some v6 ∧ w.cell? ⟨b, 7, none⟩ = some v7 ∧ w.cell? ⟨b, 8, none⟩ = some v8 ∧ w.cell? ⟨b, 9, none⟩ = some v9 ∧ w.cell? ⟨b, 10, none⟩ = some v10 ∧ w.cell? ⟨b, 11, none⟩ = some v11 ∧ w.cell? ⟨b, 12, none⟩ = some v12 ∧ w.cell? ⟨b, 13, none⟩ = some v13 ∧ w.cell? ⟨b, 14, none⟩ = some v14 ∧ w.cell? ⟨b, 15, none⟩ = some v15 ∧ w.cell? ⟨b, 16, none⟩ = some v16 ∧ w.cell? ⟨b, 17, none⟩ = some v17 ∧ w.cell? ⟨b, 18, none⟩ = some v18 ∧ w.cell? ⟨b, 19, none⟩ = some v19 ∧ w.cell? ⟨b, 20, none⟩ = some v20 ∧ w.cell? ⟨b, 21, none⟩ = some v21 ∧ w.cell? ⟨b, 22, none⟩ = some v22 ∧ w.cell? ⟨b, 23, none⟩ = some v23 ∧ w.cell? ⟨b, 24, none⟩ = some v24 ∧ w.cell? ⟨b, 25, none⟩ = some v25 ∧ w.frozen? ⟨b, 0, none⟩ = false ∧ w.frozen? ⟨b, 1, none⟩ = false ∧ w.frozen? ⟨b, 2, none⟩ = false ∧ w.frozen? ⟨b, 3, none⟩ = false ∧ w.frozen? ⟨b, 4, none⟩ = false ∧ w.frozen? ⟨b, 5, none⟩ = false ∧ w.frozen? ⟨b, 6, none⟩ = false ∧ w.frozen? ⟨b, 7, none⟩ = false ∧ w.frozen? ⟨b, 8, none⟩ = false ∧ w.frozen? ⟨b, 9, none⟩ = false ∧ w.frozen? ⟨b, 10, none⟩ = false ∧ w.frozen? ⟨b, 11, none⟩ = false ∧ w.frozen? ⟨b, 12, none⟩ = false ∧ w.frozen? ⟨b, 13, none⟩ = false ∧ w.frozen? ⟨b, 14, none⟩ = false ∧ w.frozen? ⟨b, 15, none⟩ = false ∧ w.frozen? ⟨b, 16, none⟩ = false ∧ w.frozen? ⟨b, 17, none⟩ = false ∧ w.frozen? ⟨b, 18, none⟩ = false ∧ w.frozen? ⟨b, 19, none⟩ = false ∧ w.frozen? ⟨b, 20, none⟩ = false ∧ w.frozen? ⟨b, 21, none⟩ = false ∧ w.frozen? ⟨b, 22, none⟩ = false ∧ w.frozen? ⟨b, 23, none⟩ = false ∧ w.frozen? ⟨b, 24, none⟩ = false ∧ w.frozen? ⟨b, 25, none⟩ = false ∧ b < w.heap.size :=
 ⟨h.cell 0 _ rfl, h.cell 1 _ rfl, h.cell 2 _ rfl, h.cell 3 _ rfl, h.cell 4 _ rfl, h.cell 5 _ rfl, h.cell 6 _ rfl, h.cell 7 _ rfl, h.cell 8 _ rfl, h.cell 9 _ rfl, h.cell 10 _ rfl, h.cell 11 _ rfl, h.cell 12 _ rfl, h.cell 13 _ rfl, h.cell 14 _ rfl, h.cell 15 _ rfl, h.cell 16 _ rfl, h.cell 17 _ rfl, h.cell 18 _ rfl, h.cell 19 _ rfl, h.cell 20 _ rfl, h.cell 21 _ rfl, h.cell 22 _ rfl, h.cell 23 _ rfl, h.cell 24 _ rfl, h.cell 25 _ rfl, h.mark 0 _ rfl, h.mark 1 _ rfl, h.mark 2 _ rfl, h.mark 3 _ rfl, h.mark 4 _ rfl, h.mark 5 _ rfl, h.mark 6 _ rfl, h.mark 7 _ rfl, h.mark 8 _ rfl, h.mark 9 _ rfl, h.mark 10 _ rfl, h.mark 11 _ rfl, h.mark 12 _ rfl, h.mark 13 _ rfl, h.mark 14 _ rfl, h.mark 15 _ rfl, h.mark 16 _ rfl, h.mark 17 _ rfl, h.mark 18 _ rfl, h.mark 19 _ rfl, h.mark 20 _ rfl, h.mark 21 _ rfl, h.mark 22 _ rfl, h.mark 23 _ rfl, h.mark 24 _ rfl, h.mark 25 _ rfl, h.lt (Nat.succ_pos _)⟩
end Go.Proofs.YtkkopdmemjncdaaGreatDoor
namespace Go.Proofs.YtkkopdmemjncdaaGreatDoor
open Go Go.RowKit
set_option maxRecDepth 100000 in
theorem eqSet_d (d : Nat) (a0 a1 a2 a3 b0 b1 b2 b3 : Int) (w : World) : (Op.equalIn (d + 1 + 1) 52 (.agg #[.int .u64 a0, .int .u64 a1, .int .u64 a2, .int .u64 a3]) (.agg #[.int .u64 b0, .int .u64 b1, .int .u64 b2, .int .u64 b3])).run Tryz.prog w = .ok (a0 == b0 && (a1 == b1 && (a2 == b2 && a3 == b3))) w := by
 have hu := Tryz.underlying52
 have hs : ∀ w, (sizeOf 50 : Sem Nat).run Tryz.prog w = .ok 1 w := fun w => by kernel_rfl
 have h64 : ∀ a b w, (Op.equalIn (d + 1) 50 (.int .u64 a) (.int .u64 b)).run Tryz.prog w = .ok (a == b) w := fun a b w => run_equalIn_int w d _ _ _ _ _ Tryz.underlying50
 have hp0 : ∀ (x0 x1 x2 x3 : Int) w, (part 50 #[.int .u64 x0, .int .u64 x1, .int .u64 x2, .int .u64 x3] 0).run Tryz.prog w = .ok (.int .u64 x0) w := fun _ _ _ _ _ => rfl
 have hp1 : ∀ (x0 x1 x2 x3 : Int) w, (part 50 #[.int .u64 x0, .int .u64 x1, .int .u64 x2, .int .u64 x3] 1).run Tryz.prog w = .ok (.int .u64 x1) w := fun _ _ _ _ _ => rfl
 have hp2 : ∀ (x0 x1 x2 x3 : Int) w, (part 50 #[.int .u64 x0, .int .u64 x1, .int .u64 x2, .int .u64 x3] 2).run Tryz.prog w = .ok (.int .u64 x2) w := fun _ _ _ _ _ => rfl
 have hp3 : ∀ (x0 x1 x2 x3 : Int) w, (part 50 #[.int .u64 x0, .int .u64 x1, .int .u64 x2, .int .u64 x3] 3).run Tryz.prog w = .ok (.int .u64 x3) w := fun _ _ _ _ _ => rfl
 rw [Op.equalIn]
 simp only [Sem.run_bind, run_underlying hu, Result.andThen_ok, hs, Std.Legacy.Range.forIn_eq_forIn_range', Std.Legacy.Range.size, List.range']
 simp only [List.forIn_cons, List.forIn_nil, Nat.mul_one, Nat.zero_add, Nat.reduceAdd, Sem.run_bind, hp0, Result.andThen_ok, h64, Sem.run_ite, Sem.run_pure]
 cases h0 : (a0 == b0) <;> cases h1 : (a1 == b1) <;> cases h2 : (a2 == b2) <;> cases h3 : (a3 == b3) <;>
  simp only [Bool.not_true, Bool.not_false, Bool.false_eq_true, if_true, if_false, Result.andThen_ok, Sem.run_bind, Sem.run_pure, Sem.run_ite, hp1, hp2, hp3, h64, h1, h2, h3, Bool.and_true, Bool.and_false] <;> rfl
theorem wd_beq (s t : BitVec 256) : (wd s 0 == wd t 0 && (wd s 1 == wd t 1 && (wd s 2 == wd t 2 && wd s 3 == wd t 3))) = (s == t) := by
 rw [Bool.eq_iff_iff]
 simp only [Bool.and_eq_true, beq_iff_eq]
 constructor
 · rintro ⟨h0, h1, h2, h3⟩; exact wd_ext s t h0 h1 h2 h3
 · rintro rfl; exact ⟨rfl, rfl, rfl, rfl⟩
@[go_sem] theorem eqSet (s t : BitVec 256) (w : World) : (Op.equalIn 10000 52 (.agg #[.int .u64 (wd s 0), .int .u64 (wd s 1), .int .u64 (wd s 2), .int .u64 (wd s 3)]) (.agg #[.int .u64 (wd t 0), .int .u64 (wd t 1), .int .u64 (wd t 2), .int .u64 (wd t 3)])).run Tryz.prog w = .ok (s == t) w := by
 rw [← wd_beq]; exact eqSet_d 9998 _ _ _ _ _ _ _ _ w
@[go_sem] theorem eqSet_zero (s : BitVec 256) (w : World) : (Op.equalIn 10000 52 (.agg #[.int .u64 (wd s 0), .int .u64 (wd s 1), .int .u64 (wd s 2), .int .u64 (wd s 3)]) (.agg #[.int .u64 0, .int .u64 0, .int .u64 0, .int .u64 0])).run Tryz.prog w = .ok (s == emptyS) w := by
 rw [← wd_beq, wd_zero, wd_zero, wd_zero, wd_zero]; exact eqSet_d 9998 _ _ _ _ _ _ _ _ w
end Go.Proofs.YtkkopdmemjncdaaGreatDoor
