/- Texts of mine, put together: NmP, NmQ, NmR, NmT. No condition but what each says. -/
import Derived.Test.YtkkopdmemjncdaaGreatDoorPEx
import Derived.Test.YtkkopdmemjncdaaGreatDoorPHc
namespace Go.Proofs.YtkkopdmemjncdaaGreatDoor
structure Md where
 name : ByteArray
 own : Bool
 pos : Int
structure Df where
 name : ByteArray
 pos : Int
 ex : Ex
structure Us where
 name : ByteArray
 pos : Int
structure Ac where
 doo : Int
 mode : Us
structure Rl where
 pos : Int
 all : Bool
 modes : List Us
 head : Ex
 hasTrail : Bool
 trail : Ex
 label : ByteArray
 acts : List Ac
structure Sc where
 modes : List Md
 defs : List Df
 rules : List Rl
def namedB (s : ByteArray) : Bool := nameB s.data.toList
def placedB (n : Int) : Bool := decide (0 ≤ n ∧ n ≤ 65536)
def countedB (mn mx : Int) : Bool := decide (0 ≤ mn ∧ mn ≤ 1073741824) && (decide (mx = -1) || decide (mn ≤ mx ∧ mx ≤ 1073741824))
def kindE (op : Int) (n : Nat) (text : ByteArray) (mn mx : Int) : Bool :=
 if op = 1 ∨ op = 2 then decide (n = 0) else if op = 3 then decide (n = 0) && decide (text.size ≠ 0) else if op = 4 then decide (n = 0) && namedB text
 else if op = 5 ∨ op = 6 then decide (1 < n) else if op = 7 then decide (n = 1) && countedB mn mx else false
def flatE (deep : Nat) (op pos : Int) (set : BitVec 256) (text : ByteArray) (mn mx : Int) (n : Nat) : Bool :=
 decide (deep ≤ 2000) && (placedB pos && ((decide (op = 2) || decide (set = 0#256)) && ((decide (op = 7) || decide (mn = 0 ∧ mx = 0)) && ((decide (op = 3 ∨ op = 4) || decide (text.size = 0)) && kindE op n text mn mx))))
mutual
def mayE : Nat → Ex → Bool
 | deep, .mk op pos set text mn mx args => flatE deep op pos set text mn mx args.length && mayL (deep + 1) args
def mayL : Nat → List Ex → Bool
 | _, [] => true
 | deep, a :: r => mayE deep a && mayL deep r
end
theorem mayL_all (deep : Nat) : ∀ l : List Ex, mayL deep l = l.all (mayE deep)
 | [] => by rw [mayL]; rfl
 | a :: r => by rw [mayL, mayL_all deep r, List.all_cons]
def usedB (u : Us) : Bool := namedB u.name && placedB u.pos
def actedB (a : Ac) : Bool := if a.doo = 1 ∨ a.doo = 2 then usedB a.mode else decide (a.doo = 3 ∧ a.mode.name.size = 0 ∧ a.mode.pos = 0)
def noneE : Ex → Bool
 | .mk op pos set text mn mx args => decide (op = 0 ∧ pos = 0 ∧ set = 0#256 ∧ text.size = 0 ∧ mn = 0 ∧ mx = 0 ∧ args.length = 0)
def ruleC (r : Rl) : Bool :=
 placedB r.pos && (!(r.all && decide (0 < r.modes.length)) && (r.modes.all usedB && (mayE 1 r.head && (namedB r.label && (decide (r.acts.length ≤ 8) && ((if r.hasTrail then mayE 1 r.trail else noneE r.trail) && r.acts.all actedB))))))
def specC (s : Sc) : Bool :=
 decide (s.modes.length ≤ 16 ∧ s.defs.length ≤ 200 ∧ s.rules.length ≤ 200) && (s.modes.all (fun m => namedB m.name && placedB m.pos) && (s.defs.all (fun d => namedB d.name && (placedB d.pos && mayE 1 d.ex)) && s.rules.all ruleC))
mutual
def wtE : Ex → Nat
 | .mk _ _ _ _ _ _ args => 1 + wtL args
def wtL : List Ex → Nat
 | [] => 0
 | a :: r => wtE a + wtL r
end
theorem wtL_sum : ∀ l : List Ex, wtL l = (l.map wtE).sum
 | [] => by rw [wtL]; rfl
 | a :: r => by rw [wtL, wtL_sum r, List.map_cons, List.sum_cons]
def wtR (r : Rl) : Nat := r.modes.length + (wtE r.head + (wtE r.trail + r.acts.length))
def wtS (s : Sc) : Nat := s.modes.length + ((s.defs.map fun d => wtE d.ex).sum + (s.rules.map wtR).sum)
abbrev Nt := ByteArray × Int
mutual
def refsE : Ex → List Nt
 | .mk op pos _ text _ _ args => (if op = 4 then [(text, pos)] else []) ++ refsL args
def refsL : List Ex → List Nt
 | [] => []
 | a :: r => refsE a ++ refsL r
end
theorem refsL_flat : ∀ l : List Ex, refsL l = l.flatMap refsE
 | [] => by rw [refsL]; rfl
 | a :: r => by rw [refsL, refsL_flat r, List.flatMap_cons]
def memN (l : List ByteArray) (s : ByteArray) : Bool := l.any fun x => decide (x = s)
theorem memN_iff {l : List ByteArray} {s : ByteArray} : memN l s = true ↔ s ∈ l := by
 unfold memN
 rw [List.any_eq_true]
 exact ⟨fun ⟨x, h1, h2⟩ => by rw [← of_decide_eq_true h2]; exact h1, fun h => ⟨s, h, decide_eq_true rfl⟩⟩
def withN (l : List ByteArray) (s : ByteArray) : List ByteArray := if memN l s = true then l else l ++ [s]
def usesN (e : Ex) : List ByteArray := (refsE e).foldl (fun l x => withN l x.1) []
def dups (seen : List ByteArray) : List Nt → List Nt
 | [] => []
 | x :: r => (if memN seen x.1 = true then [x] else []) ++ dups (seen ++ [x.1]) r
def modeN (s : Sc) : List Nt := s.modes.map fun m => (m.name, m.pos)
def defN (s : Sc) : List Nt := s.defs.map fun d => (d.name, d.pos)
def modesN (s : Sc) : List ByteArray := if s.modes = [] then [⟨#[115, 116, 97, 114, 116]⟩] else s.modes.map (·.name)
def defsN (s : Sc) : List ByteArray := s.defs.map (·.name)
def lost (known : List ByteArray) (l : List Nt) : List Nt := l.filter fun x => !memN known x.1
def usN (u : Us) : Nt := (u.name, u.pos)
def trailsR (r : Rl) : List Ex := if r.hasTrail then [r.head, r.trail] else [r.head]
def useR (r : Rl) : List Nt := r.modes.map usN ++ (r.acts.filter fun a => decide (a.doo ≠ 3)).map fun a => usN a.mode
def notes (s : Sc) : List Nt :=
 dups [] (modeN s) ++ (dups [] (defN s) ++ (s.defs.flatMap (fun d => lost (defsN s) (refsE d.ex)) ++ (s.rules.flatMap (fun r => (trailsR r).flatMap fun e => lost (defsN s) (refsE e)) ++ s.rules.flatMap fun r => lost (modesN s) (useR r))))
def note1 (b : Option Nt) (x : Nt) : Option Nt := match b with
 | none => some x
 | some y => if x.2 < y.2 then some x else some y
def worst (l : List Nt) : Option Nt := l.foldl note1 none
def noOf (l : List ByteArray) (s : ByteArray) : Nat := l.findIdx (fun x => decide (x = s))
def linksN (s : Sc) : List (List Nat) := s.defs.map fun d => (usesN d.ex).map (noOf (defsN s))
def freeN (U : List (List Nat)) (told : List Nat) (i : Nat) : Bool := decide (i ∉ told) && (U[i]?.getD []).all fun u => decide (u ∈ told)
def
  orderN (U : List (List Nat)) : Nat → List Nat → List Nat
 | 0, l => l
 |
  n + 1, l => match (List.range U.length).find? (freeN U l) with
  | none => l
  | some i => orderN U n (l ++ [i])
structure Nms where
 modes : List ByteArray
 active : List (List Nat)
 order : List Nat
 acts : List (List (Int × Int))
def activeB (s : Sc) (m : Nat) (own : Bool) (r : Rl) : Bool := r.all || (r.modes.any (fun u => decide (noOf (modesN s) u.name = m)) || (decide (r.modes = []) && !own))
def activeN (s : Sc) (m : Nat) (own : Bool) : List Nat := (List.range s.rules.length).filter fun i => match s.rules[i]? with
 | some r => activeB s m own r
 | none => false
def ownM (s : Sc) (m : Nat) : Bool := match s.modes[m]? with
 | some x => x.own
 | none => false
def stepA (s : Sc) (a : Ac) : Int × Int := (a.doo, if a.doo = 3 then 0 else (noOf (modesN s) a.mode.name : Int))
def namesN (s : Sc) : Nms := ⟨modesN s, (List.range (modesN s).length).map fun m => activeN s m (ownM s m), orderN (linksN s) s.defs.length [], s.rules.map fun r => r.acts.map (stepA s)⟩
end Go.Proofs.YtkkopdmemjncdaaGreatDoor
namespace Go.Proofs.YtkkopdmemjncdaaGreatDoor
theorem note1_some (b : Option Nt) (x : Nt) : ∃ y, note1 b x = some y ∧ (y = x ∨ b = some y) := by
 cases b with
 | none => exact ⟨x, rfl, .inl rfl⟩
 |
  some y =>
  unfold note1
  by_cases h : x.2 < y.2
  · exact ⟨x, by simp only [if_pos h], .inl rfl⟩
  · exact ⟨y, by simp only [if_neg h], .inr rfl⟩
theorem fold_some : ∀ (l : List Nt) (y : Nt), ∃ z, l.foldl note1 (some y) = some z ∧ (z = y ∨ z ∈ l)
 | [], y => ⟨y, rfl, .inl rfl⟩
 |
  x
   :: l, y => by
  obtain ⟨u, hu, h⟩ := note1_some (some y) x
  obtain ⟨z, hz, h2⟩ := fold_some l u
  refine ⟨z, by rw [List.foldl_cons, hu]; exact hz, ?_⟩
  rcases h2 with rfl | h2
  ·
   rcases h with rfl | h
   · exact .inr (by simp)
   · injection h with h; exact .inl h.symm
  · exact .inr (List.mem_cons_of_mem _ h2)
theorem worst_none {l : List Nt} : worst l = none ↔ l = [] := by
 cases l with
 | nil => exact ⟨fun _ => rfl, fun _ => rfl⟩
 |
  cons x l =>
  obtain ⟨z, hz, _⟩ := fold_some l x
  refine ⟨fun h => ?_, fun h => by cases h⟩
  have h2 : worst (x :: l) = some z := hz
  rw [h2] at h; cases h
theorem dups_nil : ∀ {l : List Nt} {seen : List ByteArray}, dups seen l = [] → (l.map (·.1)).Nodup ∧ ∀ x ∈ l, x.1 ∉ seen
 | [], _, _ => ⟨List.nodup_nil, fun x h => by cases h⟩
 |
  y
   :: l, seen, h => by
  rw [dups, List.append_eq_nil_iff] at h
  obtain ⟨h1, h2⟩ := h
  obtain ⟨h3, h4⟩ := dups_nil h2
  have hy : y.1 ∉ seen := fun hm => by rw [if_pos (memN_iff.2 hm)] at h1; cases h1
  refine ⟨?_, fun x hx => ?_⟩
  ·
   rw [List.map_cons, List.nodup_cons]
   refine ⟨fun hm => ?_, h3⟩
   obtain ⟨x, hx, hxe⟩ := List.mem_map.1 hm
   exact h4 x hx (by rw [hxe]; simp)
  ·
   rcases List.mem_cons.1 hx with rfl | hx
   · exact hy
   · exact fun hm => h4 x hx (by simp [hm])
theorem lost_nil {known : List ByteArray} {l : List Nt} (h : lost known l = []) : ∀ x ∈ l, x.1 ∈ known := fun x hx => by
 unfold lost at h
 rw [List.filter_eq_nil_iff] at h
 have h2 := h x hx
 exact memN_iff.1 (by simpa using h2)
def Ordered (U : List (List Nat)) (l : List Nat) : Prop := ∀ k x, l[k]? = some x → x < U.length ∧ freeN U (l.take k) x = true ∧ ∀ y, y < x → freeN U (l.take k) y = false
theorem ordered_snoc {U : List (List Nat)} {l : List Nat} {i : Nat} (h : Ordered U l) (hf : (List.range U.length).find? (freeN U l) = some i) : Ordered U (l ++ [i]) := fun k x hk => by
 rw [List.find?_range_eq_some] at hf
 rcases Nat.lt_trichotomy k l.length with h1 | h1 | h1
 ·
  rw [List.getElem?_append_left h1] at hk
  rw [List.take_append_of_le_length (by omega)]
  exact h k x hk
 ·
  subst h1
  rw [List.getElem?_append_right (Nat.le_refl _), Nat.sub_self] at hk
  simp at hk; subst hk
  rw [List.take_append_of_le_length (Nat.le_refl _), List.take_length]
  obtain ⟨h2, h3, h4⟩ := hf
  exact ⟨List.mem_range.1 h3, h2, fun y hy => by simpa using h4 y hy⟩
 · rw [List.getElem?_eq_none (by simp; omega)] at hk; cases hk
theorem orderN_ordered (U : List (List Nat)) : ∀ (n : Nat) (l : List Nat), Ordered U l → Ordered U (orderN U n l)
 | 0, l, h => h
 |
  n
   + 1, l, h => by
  rw [orderN]
  split
  · exact h
  ·
   rename_i i hf
   exact orderN_ordered U n _ (ordered_snoc h hf)
theorem ordered_nil (U : List (List Nat)) : Ordered U [] := fun k x h => by simp at h
theorem ordered_nodup {U : List (List Nat)} {l : List Nat} (h : Ordered U l) : l.Nodup := by
 rw [List.nodup_iff_pairwise_ne, List.pairwise_iff_getElem]
 intro i j hi hj hij e
 have h1 := (h j l[j] (List.getElem?_eq_getElem hj)).2.1
 unfold freeN at h1
 rw [Bool.and_eq_true] at h1
 refine of_decide_eq_true h1.1 ?_
 rw [← e, List.mem_take_iff_getElem]
 exact ⟨i, by omega, rfl⟩
theorem nodup_le : ∀ (n : Nat) (l : List Nat), l.Nodup → (∀ x ∈ l, x < n) → l.length ≤ n
 |
  0, l, _, h => by
  cases l with
  | nil => simp
  | cons a l => have := h a (by simp); omega
 |
  n
   + 1, l, hn, h => by
  have h1 := nodup_le n (l.erase n) (hn.erase n) (fun x hx => by
   have := (List.Nodup.mem_erase_iff hn).1 hx
   have := h x this.2
   omega)
  have h2 := List.length_erase (a := n) (l := l)
  split at h2 <;> omega
def wayN (U : List (List Nat)) : Nat → Nat → Nat → Prop
 | 0, i, j => i = j
 | n + 1, i, j => ∃ k, k ∈ U[i]?.getD [] ∧ wayN U n k j
def Cyc (U : List (List Nat)) (i : Nat) : Prop := ∃ n, wayN U (n + 1) i i
theorem wayN_add (U : List (List Nat)) : ∀ (a b i j k : Nat), wayN U a i j → wayN U b j k → wayN U (a + b) i k
 |
  0, b, i, j, k, h1, h2 => by
  have : i = j := h1
  subst this; rw [Nat.zero_add]; exact h2
 |
  a + 1, b, i, j, k, ⟨m, hm, h1⟩, h2 => by
  rw [show a + 1 + b = (a + b) + 1 by omega]
  exact ⟨m, hm, wayN_add U a b m j k h1 h2⟩
theorem comes_back (U : List (List Nat)) (n : Nat) (R : Nat → Prop) (hn : ∀ i, R i → i < n) (hs : ∀ i, R i → ∃ k, k ∈ U[i]?.getD [] ∧ R k) (i0 : Nat) (h0 : R i0) : ∃ i, R i ∧ Cyc U i := by
 classical
 let f : Nat → Nat := fun i => if h : R i then Classical.choose (hs i h) else i
 have hf : ∀ i, R i → f i ∈ U[i]?.getD [] ∧ R (f i) := fun i h => by
  show (if h : R i then Classical.choose (hs i h) else i) ∈ _ ∧ R (if h : R i then Classical.choose (hs i h) else i)
  rw [dif_pos h]; exact Classical.choose_spec (hs i h)
 let g : Nat → Nat := fun k => Nat.rec i0 (fun _ x => f x) k
 have hg : ∀ k, R (g k) := fun k => by
  induction k with
  | zero => exact h0
  | succ k ih => exact (hf _ ih).2
 have hw : ∀ d a, wayN U d (g a) (g (a + d)) := fun d => by
  induction d with
  | zero => intro a; exact rfl
  |
   succ d ih =>
   intro a
   refine ⟨g (a + 1), (hf _ (hg a)).1, ?_⟩
   have := ih (a + 1)
   rw [show a + (d + 1) = a + 1 + d by omega]; exact this
 by_cases hd : ((List.range (n + 1)).map g).Nodup
 ·
  have := nodup_le n _ hd (fun x hx => by
   obtain ⟨k, _, rfl⟩ := List.mem_map.1 hx
   exact hn _ (hg k))
  rw [List.length_map, List.length_range] at this; omega
 ·
  rw [List.nodup_iff_pairwise_ne, List.pairwise_iff_getElem] at hd
  simp only [List.length_map, List.length_range, List.getElem_map, List.getElem_range] at hd
  obtain ⟨a, ha⟩ := Classical.not_forall.1 hd
  obtain ⟨b, hb⟩ := Classical.not_forall.1 ha
  obtain ⟨h1, h2⟩ := Classical.not_forall.1 hb
  obtain ⟨h3, h4⟩ := Classical.not_forall.1 h2
  obtain ⟨h5, h6⟩ := Classical.not_forall.1 h4
  have he : g a = g b := Classical.not_not.1 h6
  refine ⟨g a, hg a, b - a - 1, ?_⟩
  have := hw (b - a) a
  rw [show b - a - 1 + 1 = b - a by omega]
  rw [show a + (b - a) = b by omega, ← he] at this
  exact this
theorem orderN_stuck (U : List (List Nat)) : ∀ (n : Nat) (l : List Nat), (orderN U n l).length < l.length + n → (List.range U.length).find? (freeN U (orderN U n l)) = none
 | 0, l, h => by simp [orderN] at h
 |
  n
   + 1, l, h => by
  cases hf : (List.range U.length).find? (freeN U l) with
  |
   none =>
   have e : orderN U (n + 1) l = l := by rw [orderN, hf]
   rw [e]; exact hf
  |
   some i =>
   have e : orderN U (n + 1) l = orderN U n (l ++ [i]) := by rw [orderN, hf]
   rw [e] at h ⊢
   exact orderN_stuck U n (l ++ [i]) (by simp only [List.length_append, List.length_cons, List.length_nil]; omega)
theorem
    order_cyc {U : List (List Nat)} (hU : ∀ (i k : Nat), k ∈ U[i]?.getD [] → k < U.length) (h : (orderN U U.length []).length < U.length) : ∃ i, i < U.length ∧ Cyc U i := by
 have hst := orderN_stuck U U.length [] (by simpa using h)
 have hord := orderN_ordered U U.length [] (ordered_nil U)
 generalize hL : orderN U U.length [] = L at *
 obtain ⟨i0, h0, h1⟩ : ∃ i, i < U.length ∧ i ∉ L := by
  apply Classical.byContradiction
  intro hc
  have hall : ∀ i, i < U.length → i ∈ L := fun i hi => Classical.byContradiction fun hn => hc ⟨i, hi, hn⟩
  have hsub : (List.range U.length).length ≤ L.length := by
   have : ∀ (n : Nat) (m : List Nat), m.Nodup → (∀ i, i < n → i ∈ m) → n ≤ m.length := fun n => by
    induction n with
    | zero => intro m _ _; exact Nat.zero_le _
    |
     succ n ih =>
     intro m hm hi
     have h2 := ih (m.erase n) (hm.erase n) (fun i hin => (List.Nodup.mem_erase_iff hm).2 ⟨by omega, hi i (by omega)⟩)
     have h3 := List.length_erase_of_mem (hi n (by omega))
     have := List.length_pos_of_mem (hi n (by omega))
     omega
   rw [List.length_range]
   exact this _ _ (ordered_nodup hord) hall
  rw [List.length_range] at hsub; omega
 obtain ⟨i, ⟨hi, _⟩, hc⟩ := comes_back U U.length (fun i => i < U.length ∧ i ∉ L) (fun i h => h.1) (fun i ⟨hi, hn⟩ => by
  rw [List.find?_eq_none] at hst
  have h2 := hst i (List.mem_range.2 hi)
  unfold freeN at h2
  rw [Bool.not_eq_true, Bool.and_eq_false_iff] at h2
  rcases h2 with h2 | h2
  · exact absurd hn (of_decide_eq_false h2)
  ·
   rw [List.all_eq_false] at h2
   obtain ⟨k, hk, hk2⟩ := h2
   exact ⟨k, hk, hU i k hk, of_decide_eq_false (by simpa using hk2)⟩) i0 ⟨h0, h1⟩
 exact ⟨i, hi, hc⟩
end Go.Proofs.YtkkopdmemjncdaaGreatDoor
namespace Go.Proofs.YtkkopdmemjncdaaGreatDoor
def farAt (far : List Int) (i : Nat) : Int := far[i]?.getD (-1)
def
  near1 (far : List Int) (b : Option Nat) (k : Nat) : Option Nat :=
 if farAt far k < 0 then b else match b with
  | none => some k
  | some j => if farAt far k < farAt far j then some k else some j
def nearP (far : List Int) (row : List Nat) : Option Nat := row.foldl (near1 far) none
theorem
    near1_fin {far : List Int} {b : Option Nat} {k x : Nat} (h : near1 far b k = some x) (hb : ∀ j, b = some j → 0 ≤ farAt far j) : 0 ≤ farAt far x ∧ (x = k ∨ b = some x) ∧ (0 ≤ farAt far k → farAt far x ≤ farAt far k) ∧ ∀ j, b = some j → farAt far x ≤ farAt far j := by
 unfold near1 at h
 by_cases hk : farAt far k < 0
 ·
  rw [if_pos hk] at h
  subst h
  exact ⟨hb x rfl, .inr rfl, fun h => by omega, fun j hj => by injection hj with hj; subst hj; exact Int.le_refl _⟩
 ·
  rw [if_neg hk] at h
  cases b with
  | none => injection h with h; subst h; exact ⟨by omega, .inl rfl, fun _ => Int.le_refl _, fun j hj => by cases hj⟩
  |
   some j =>
   dsimp only at h
   by_cases h2 : farAt far k < farAt far j
   ·
    rw [if_pos h2] at h; injection h with h; subst h
    exact ⟨by omega, .inl rfl, fun _ => Int.le_refl _, fun j' hj => by injection hj with hj; subst hj; omega⟩
   ·
    rw [if_neg h2] at h; injection h with h; subst h
    exact ⟨hb j rfl, .inr rfl, fun _ => by omega, fun j' hj => by injection hj with hj; subst hj; exact Int.le_refl _⟩
theorem near1_none {far : List Int} {b : Option Nat} {k : Nat} (h : near1 far b k = none) : b = none ∧ farAt far k < 0 := by
 unfold near1 at h
 by_cases hk : farAt far k < 0
 · rw [if_pos hk] at h; exact ⟨h, hk⟩
 ·
  rw [if_neg hk] at h
  cases b with
  | none => cases h
  | some j => dsimp only at h; split at h <;> cases h
theorem
    near_fold (far : List Int) : ∀ (row : List Nat) (b : Option Nat), (∀ j, b = some j → 0 ≤ farAt far j) →
  (row.foldl (near1 far) b = none → b = none ∧ ∀ k ∈ row, farAt far k < 0) ∧
  ∀ x, row.foldl (near1 far) b = some x → 0 ≤ farAt far x ∧ (x ∈ row ∨ b = some x) ∧ (∀ k ∈ row, 0 ≤ farAt far k → farAt far x ≤ farAt far k) ∧ ∀ j, b = some j → farAt far x ≤ farAt far j
 |
  [], b, hb => ⟨fun h => ⟨h, fun k hk => by cases hk⟩, fun x h => by
  have h : b = some x := h
  subst h
  exact ⟨hb x rfl, .inr rfl, (fun k hk => by cases hk), fun j hj => by injection hj with hj; subst hj; exact Int.le_refl _⟩⟩
 |
  k
   :: row, b, hb => by
  rw [List.foldl_cons]
  have hb2 : ∀ j, near1 far b k = some j → 0 ≤ farAt far j := fun j hj => (near1_fin hj hb).1
  obtain ⟨h1, h2⟩ := near_fold far row (near1 far b k) hb2
  refine ⟨fun h => ?_, fun x hx => ?_⟩
  ·
   obtain ⟨h3, h4⟩ := h1 h
   obtain ⟨h5, h6⟩ := near1_none h3
   refine ⟨h5, fun k' hk' => ?_⟩
   rcases List.mem_cons.1 hk' with rfl | hk'
   · exact h6
   · exact h4 k' hk'
  ·
   obtain ⟨h3, h4, h5, h6⟩ := h2 x hx
   refine ⟨h3, ?_, fun k' hk' hf => ?_, fun j hj => ?_⟩
   ·
    rcases h4 with h4 | h4
    · exact .inl (List.mem_cons_of_mem _ h4)
    ·
     rcases (near1_fin h4 hb).2.1 with rfl | h7
     · exact .inl (by simp)
     · exact .inr h7
   ·
    rcases List.mem_cons.1 hk' with rfl | hk'
    ·
     cases hn : near1 far b k' with
     | none => have := (near1_none hn).2; omega
     | some y => exact Int.le_trans (h6 y hn) ((near1_fin hn hb).2.2.1 hf)
    · exact h5 k' hk' hf
   ·
    subst hj
    cases hn : near1 far (some j) k with
    | none => exact absurd (near1_none hn).1 (by simp)
    | some y => exact Int.le_trans (h6 y hn) ((near1_fin hn hb).2.2.2 j rfl)
theorem near_none {far : List Int} {row : List Nat} (h : nearP far row = none) : ∀ k ∈ row, farAt far k < 0 := ((near_fold far row none (fun j hj => by cases hj)).1 h).2
theorem near_some {far : List Int} {row : List Nat} {x : Nat} (h : nearP far row = some x) : x ∈ row ∧ 0 ≤ farAt far x ∧ ∀ k ∈ row, 0 ≤ farAt far k → farAt far x ≤ farAt far k := by
 obtain ⟨h1, h2, h3, _⟩ := (near_fold far row none (fun j hj => by cases hj)).2 x h
 exact ⟨h2.resolve_right (fun h => by cases h), h1, h3⟩
def finN (far : List Int) : Nat := (far.filter fun x => decide (0 ≤ x)).length
structure FarIn (U : List (List Nat)) (fr : Nat) (far : List Int) : Prop where
 len : far.length = U.length
 lt : fr < U.length
 zero : farAt far fr = 0
 low : ∀ i, -1 ≤ farAt far i
 way : ∀ i, 0 ≤ farAt far i → wayN U (farAt far i).toNat i fr
 step : ∀ i, i ≠ fr → 0 ≤ farAt far i → ∃ k, k ∈ U[i]?.getD [] ∧ 0 ≤ farAt far k ∧ farAt far k + 1 ≤ farAt far i
 cnt : ∀ i, farAt far i < finN far
structure FarOk (U : List (List Nat)) (fr : Nat) (far : List Int) : Prop extends FarIn U fr far where
 done : ∀ i, i < U.length → i ≠ fr → ∀ k, nearP far (U[i]?.getD []) = some k → 0 ≤ farAt far i ∧ farAt far i ≤ farAt far k + 1
theorem farAt_set {far : List Int} {i j : Nat} {x : Int} (hi : i < far.length) : farAt (far.set i x) j = if j = i then x else farAt far j := by
 unfold farAt
 by_cases h : j = i
 · subst h; rw [if_pos rfl, List.getElem?_set_self hi]; rfl
 · rw [if_neg h, List.getElem?_set_ne (Ne.symm h)]
theorem fin_set_new : ∀ {far : List Int} {i : Nat} {x : Int}, i < far.length → farAt far i < 0 → 0 ≤ x → finN (far.set i x) = finN far + 1
 | [], _, _, h, _, _ => by simp at h
 |
  y :: far, 0, x, _, h, hx => by
  have h : y < 0 := h
  unfold finN
  rw [List.set_cons_zero, List.filter_cons, List.filter_cons, if_pos (decide_eq_true hx), if_neg (by simpa using h)]; rfl
 |
  y :: far, i + 1, x, hl, h, hx => by
  have ih := fin_set_new (far := far) (i := i) (x := x) (by simpa using hl) (by simpa [farAt] using h) hx
  unfold finN at ih ⊢
  rw [List.set_cons_succ, List.filter_cons, List.filter_cons]
  by_cases hy : 0 ≤ y
  · rw [if_pos (decide_eq_true hy), if_pos (decide_eq_true hy), List.length_cons, List.length_cons, ih]
  · rw [if_neg (by simpa using hy), if_neg (by simpa using hy), ih]
theorem fin_set_old : ∀ {far : List Int} {i : Nat} {x : Int}, 0 ≤ farAt far i → 0 ≤ x → finN (far.set i x) = finN far
 | [], _, _, _, _ => rfl
 |
  y :: far, 0, x, h, hx => by
  have h : 0 ≤ y := h
  unfold finN
  rw [List.set_cons_zero, List.filter_cons, List.filter_cons, if_pos (decide_eq_true hx), if_pos (decide_eq_true h)]; rfl
 |
  y :: far, i + 1, x, h, hx => by
  have ih := fin_set_old (far := far) (i := i) (x := x) (by simpa [farAt] using h) hx
  unfold finN at ih ⊢
  rw [List.set_cons_succ, List.filter_cons, List.filter_cons]
  by_cases hy : 0 ≤ y
  · rw [if_pos (decide_eq_true hy), if_pos (decide_eq_true hy), List.length_cons, List.length_cons, ih]
  · rw [if_neg (by simpa using hy), if_neg (by simpa using hy), ih]
theorem fin_le (far : List Int) : finN far ≤ far.length := List.length_filter_le ..
theorem fin_lt : ∀ {far : List Int} {i : Nat}, i < far.length → farAt far i < 0 → finN far < far.length
 | [], _, h, _ => by simp at h
 |
  y :: far, 0, _, h => by
  have h : y < 0 := h
  unfold finN
  rw [List.filter_cons, if_neg (by simpa using h)]
  have := fin_le far; unfold finN at this; simp only [List.length_cons]; omega
 |
  y :: far, i + 1, hl, h => by
  have ih := fin_lt (far := far) (i := i) (by simpa using hl) (by simpa [farAt] using h)
  unfold finN at ih ⊢
  rw [List.filter_cons]
  split <;> simp only [List.length_cons] <;> omega
theorem
    FarIn.put {U : List (List Nat)} {fr : Nat} {far : List Int} (h : FarIn U fr far) {i k : Nat} (hi : i < U.length) (hne : i ≠ fr) (hk : nearP far (U[i]?.getD []) = some k) (hb : farAt far i < 0 ∨ farAt far k + 1 < farAt far i) : FarIn U fr (far.set i (farAt far k + 1)) := by
 obtain ⟨hm, hf, _⟩ := near_some hk
 have hil : i < far.length := by rw [h.len]; exact hi
 have hki : k ≠ i := fun e => by subst e; rcases hb with hb | hb <;> omega
 have hcn : ∀ j, (if j = i then farAt far k + 1 else farAt far j) < (finN (far.set i (farAt far k + 1)) : Int) := fun j => by
  have hc := h.cnt
  by_cases hneg : farAt far i < 0
  ·
   rw [fin_set_new hil hneg (by omega)]
   have h1 := hc k
   have h2 := hc j
   split <;> omega
  ·
   rw [fin_set_old (by omega) (by omega)]
   have h1 := hc i
   have h2 := hc j
   split <;> omega
 refine ⟨by rw [List.length_set]; exact h.len, h.lt, by rw [farAt_set hil, if_neg (Ne.symm hne)]; exact h.zero, fun j => ?_, fun j hj => ?_, fun j hjf hj => ?_, fun j => by rw [farAt_set hil]; exact hcn j⟩
 ·
  rw [farAt_set hil]
  split
  · omega
  · exact h.low j
 ·
  rw [farAt_set hil] at hj ⊢
  by_cases hji : j = i
  ·
   subst hji
   rw [if_pos rfl] at hj ⊢
   rw [show (farAt far k + 1).toNat = (farAt far k).toNat + 1 by omega]
   exact ⟨k, hm, h.way k hf⟩
  · rw [if_neg hji] at hj ⊢; exact h.way j hj
 ·
  rw [farAt_set hil] at hj ⊢
  by_cases hji : j = i
  ·
   subst hji
   rw [if_pos rfl]
   exact ⟨k, hm, by rw [farAt_set hil, if_neg hki]; exact hf, by rw [farAt_set hil, if_neg hki]; exact Int.le_refl _⟩
  ·
   rw [if_neg hji] at hj ⊢
   obtain ⟨x, hx1, hx2, hx3⟩ := h.step j hjf hj
   refine ⟨x, hx1, ?_, ?_⟩
   · rw [farAt_set hil]; split <;> omega
   ·
    rw [farAt_set hil]
    split
    ·
     rename_i e
     subst e
     rcases hb with hb | hb <;> omega
    · exact hx3
def farM (n : Nat) : List Int → Nat
 | [] => 0
 | x :: r => (if x < 0 then n else x.toNat) + farM n r
theorem farM_set : ∀ {n : Nat} {far : List Int} {i : Nat} {x : Int}, i < far.length → 0 ≤ x → (farAt far i < 0 ∧ x < n ∨ x < farAt far i) → farM n (far.set i x) < farM n far
 | _, [], _, _, h, _, _ => by simp at h
 |
  n, y :: far, 0, x, _, hx, h => by
  rw [List.set_cons_zero, farM, farM]
  have h : (y < 0 ∧ x < n) ∨ x < y := h
  rw [if_neg (by omega)]
  split <;> omega
 |
  n, y :: far, i + 1, x, hl, hx, h => by
  rw [List.set_cons_succ, farM, farM]
  have := farM_set (n := n) (far := far) (i := i) (x := x) (by simpa using hl) hx (by simpa [farAt] using h)
  omega
theorem FarIn.less {U : List (List Nat)} {fr : Nat} {far : List Int} (h : FarIn U fr far) {i k : Nat} (hi : i < U.length) (hk : nearP far (U[i]?.getD []) = some k) (hb : farAt far i < 0 ∨ farAt far k + 1 < farAt far i) : farM U.length (far.set i (farAt far k + 1)) < farM U.length far := by
 obtain ⟨_, hf, _⟩ := near_some hk
 have hil : i < far.length := by rw [h.len]; exact hi
 refine farM_set hil (by omega) ?_
 rcases hb with hb | hb
 ·
  refine .inl ⟨hb, ?_⟩
  have h1 := h.cnt k
  have h2 := fin_lt hil hb
  rw [h.len] at h2
  omega
 · exact .inr hb
theorem farIn_start (U : List (List Nat)) (fr : Nat) (h : fr < U.length) : FarIn U fr ((List.replicate U.length (-1)).set fr 0) := by
 have hl : fr < (List.replicate U.length (-1 : Int)).length := by rw [List.length_replicate]; exact h
 have hm : ∀ j, farAt (List.replicate U.length (-1)) j = -1 := fun j => by
  unfold farAt; rw [List.getElem?_replicate]; split <;> rfl
 have hz : ∀ n : Nat, finN (List.replicate n (-1)) = 0 := fun n => by
  induction n with
  | zero => rfl
  | succ n ih => rw [List.replicate_succ]; unfold finN at ih ⊢; rw [List.filter_cons, if_neg (by simp)]; exact ih
 refine ⟨by rw [List.length_set, List.length_replicate], h, by rw [farAt_set hl, if_pos rfl], fun j => ?_, fun j hj => ?_, fun j hjf hj => ?_, fun j => ?_⟩
 · rw [farAt_set hl, hm]; split <;> omega
 ·
  rw [farAt_set hl, hm] at hj ⊢
  by_cases e : j = fr
  · rw [if_pos e]; exact e
  · rw [if_neg e] at hj; omega
 · rw [farAt_set hl, hm, if_neg hjf] at hj; omega
 ·
  rw [farAt_set hl, hm, fin_set_new hl (by rw [hm]; omega) (by omega), hz]
  split <;> omega
theorem FarOk.next {U : List (List Nat)} {fr : Nat} {far : List Int} (h : FarOk U fr far) {i : Nat} (hi : i < U.length) (hne : i ≠ fr) (hf : 0 ≤ farAt far i) : ∃ k, nearP far (U[i]?.getD []) = some k ∧ farAt far k + 1 = farAt far i := by
 obtain ⟨x, hx1, hx2, hx3⟩ := h.step i hne hf
 cases hn : nearP far (U[i]?.getD []) with
 | none => have := near_none hn x hx1; omega
 |
  some k =>
  refine ⟨k, rfl, ?_⟩
  have h1 := (h.done i hi hne k hn).2
  have h2 := (near_some hn).2.2 x hx1 hx2
  omega
theorem
    FarOk.reach {U : List (List Nat)} {fr : Nat} {far : List Int} (h : FarOk U fr far) (hU : ∀ (i k : Nat), k ∈ U[i]?.getD [] → k < U.length) : ∀ (n i : Nat), wayN U n i fr → 0 ≤ farAt far i
 |
  0, i, e => by
  have e : i = fr := e
  subst e; rw [h.zero]; exact Int.le_refl _
 |
  n
   +
    1, i, ⟨k, hk, hw⟩ => by
  have h1 := h.reach hU n k hw
  by_cases e : i = fr
  · subst e; rw [h.zero]; exact Int.le_refl _
  ·
   cases hn : nearP far (U[i]?.getD []) with
   | none => have := near_none hn k hk; omega
   |
    some x =>
    have hi : i < U.length := by
     rcases Nat.lt_or_ge i U.length with h2 | h2
     · exact h2
     · rw [List.getElem?_eq_none h2] at hk; simp at hk
    exact (h.done i hi e x hn).1
theorem FarOk.cyc {U : List (List Nat)} {fr : Nat} {far : List Int} (h : FarOk U fr far) (hU : ∀ (i k : Nat), k ∈ U[i]?.getD [] → k < U.length) : Cyc U fr ↔ ∃ k, nearP far (U[fr]?.getD []) = some k := by
 constructor
 ·
  rintro ⟨n, k, hk, hw⟩
  have h1 := h.reach hU n k hw
  cases hn : nearP far (U[fr]?.getD []) with
  | none => have := near_none hn k hk; omega
  | some x => exact ⟨x, rfl⟩
 ·
  rintro ⟨k, hk⟩
  obtain ⟨h1, h2, _⟩ := near_some hk
  exact ⟨_, k, h1, h.way k h2⟩
def
  pathP (U : List (List Nat)) (far : List Int) (fr : Nat) : Nat → Nat → List Nat
 | 0, _ => []
 |
  n + 1, i => match nearP far (U[i]?.getD []) with
  | none => []
  | some k => i :: (if k = fr then [] else pathP U far fr n k)
end Go.Proofs.YtkkopdmemjncdaaGreatDoor
namespace Go.Proofs.YtkkopdmemjncdaaGreatDoor
def thingsD (d : Df) : List Nt := (d.name, d.pos) :: refsE d.ex
def thingsR (r : Rl) : List Nt := refsE r.head ++ (refsE r.trail ++ (r.modes.map usN ++ r.acts.map fun a => usN a.mode))
def things (s : Sc) : List Nt := modeN s ++ (s.defs.flatMap thingsD ++ s.rules.flatMap thingsR)
mutual
theorem
    may_placed : ∀ (deep : Nat) (e : Ex), mayE deep e = true → ∀ x ∈ refsE e, placedB x.2 = true
 |
  deep, .mk op pos set text mn mx args, h, x, hx => by
  rw [mayE, Bool.and_eq_true] at h
  rw [refsE, List.mem_append] at hx
  rcases hx with hx | hx
  ·
   split at hx
   ·
    rw [List.mem_singleton] at hx; subst hx
    have h1 := h.1
    unfold flatE at h1
    simp only [Bool.and_eq_true] at h1
    exact h1.2.1
   · cases hx
  · exact mayL_placed (deep + 1) args h.2 x hx
theorem mayL_placed : ∀ (deep : Nat) (l : List Ex), mayL deep l = true → ∀ x ∈ refsL l, placedB x.2 = true
 | _, [], _, x, hx => by rw [refsL] at hx; cases hx
 |
  deep, a :: r, h, x, hx => by
  rw [mayL, Bool.and_eq_true] at h
  rw [refsL, List.mem_append] at hx
  rcases hx with hx | hx
  · exact may_placed deep a h.1 x hx
  · exact mayL_placed deep r h.2 x hx
end
theorem noOf_some {l : List ByteArray} {s : ByteArray} (h : s ∈ l) : noOf l s < l.length ∧ l[noOf l s]? = some s := by
 have h1 : noOf l s < l.length := List.findIdx_lt_length_of_exists ⟨s, h, decide_eq_true rfl⟩
 refine ⟨h1, ?_⟩
 have h2 := List.findIdx_getElem (xs := l) (p := fun x => decide (x = s)) (w := h1)
 rw [List.getElem?_eq_getElem h1]
 exact congrArg some (of_decide_eq_true h2)
structure Right (s : Sc) : Prop where
 modes : (modesN s).Nodup
 defs : (defsN s).Nodup
 drefs : ∀ d ∈ s.defs, ∀ x ∈ refsE d.ex, x.1 ∈ defsN s
 rrefs : ∀ r ∈ s.rules, ∀ e ∈ trailsR r, ∀ x ∈ refsE e, x.1 ∈ defsN s
 uses : ∀ r ∈ s.rules, ∀ x ∈ useR r, x.1 ∈ modesN s
theorem right_of {s : Sc} (h : notes s = []) : Right s := by
 unfold notes at h
 simp only [List.append_eq_nil_iff, List.flatMap_eq_nil_iff] at h
 obtain ⟨h1, h2, h3, h4, h5⟩ := h
 refine ⟨?_, ?_, fun d hd x hx => lost_nil (h3 d hd) x hx, fun r hr e he x hx => lost_nil (h4 r hr e he) x hx, fun r hr x hx => lost_nil (h5 r hr) x hx⟩
 ·
  unfold modesN
  split
  · simp
  ·
   have := (dups_nil h1).1
   unfold modeN at this
   rw [List.map_map] at this
   exact this
 ·
  have := (dups_nil h2).1
  unfold defN at this
  rw [List.map_map] at this
  exact this
theorem modesN_len {s : Sc} (h : s.modes ≠ []) : (modesN s).length = s.modes.length := by unfold modesN; rw [if_neg h, List.length_map]
end Go.Proofs.YtkkopdmemjncdaaGreatDoor
