/- Texts of mine, put together: N6J. No condition but what each says. -/
import Derived.Test.YtkkopdmemjncdaaGreatDoorPN6G
namespace Go.Proofs.YtkkopdmemjncdaaGreatDoor
open Go Go.RowKit
def best1 (d : List Int) (n fr : Nat) (b : Option Nat) (j : Nat) : Option Nat := if farAt d j = (n : Int) ∧ j ≠ fr ∧ (∀ x, b = some x → j < x) then some j else b
def bestD (d : List Int) (n fr : Nat) (row : List Nat) : Option Nat := row.foldl (best1 d n fr) none
def LeastD (d : List Int) (n fr : Nat) (row : List Nat) : Option Nat → Prop
 | none => ∀ j ∈ row, ¬ (farAt d j = (n : Int) ∧ j ≠ fr)
 | some x => x ∈ row ∧ farAt d x = (n : Int) ∧ x ≠ fr ∧ ∀ j ∈ row, farAt d j = (n : Int) → j ≠ fr → x ≤ j
theorem best_snoc (d : List Int) (n fr : Nat) (row : List Nat) (j : Nat) : bestD d n fr (row ++ [j]) = best1 d n fr (bestD d n fr row) j := by unfold bestD; rw [List.foldl_append]; rfl
theorem
    best_least (d : List Int) (n fr : Nat) (row : List Nat) : LeastD d n fr row (bestD d n fr row) := by
 obtain ⟨m, hm⟩ : ∃ m, row.length = m := ⟨_, rfl⟩
 induction m generalizing row with
 |
  zero =>
  rw [List.eq_nil_of_length_eq_zero hm]
  intro j hj
  cases hj
 |
  succ m ih =>
  obtain ⟨r, j, rfl⟩ : ∃ r j, row = r ++ [j] := by
   rcases List.eq_nil_or_concat row with h | ⟨r, j, h⟩
   · rw [h] at hm; simp at hm
   · exact ⟨r, j, by rw [h, List.concat_eq_append]⟩
  rw [best_snoc]
  have h1 := ih r (by simpa using hm)
  generalize bestD d n fr r = b at h1
  unfold best1
  by_cases h : farAt d j = (n : Int) ∧ j ≠ fr ∧ (∀ x, b = some x → j < x)
  ·
   rw [if_pos h]
   obtain ⟨h2, h3, h4⟩ := h
   refine ⟨by simp, h2, h3, fun y hy hy2 hy3 => ?_⟩
   rcases List.mem_append.1 hy with hy | hy
   ·
    cases b with
    | none => exact absurd ⟨hy2, hy3⟩ (h1 y hy)
    |
     some x =>
     have := h4 x rfl
     have := h1.2.2.2 y hy hy2 hy3
     omega
   · rw [List.mem_singleton.1 hy]; exact Nat.le_refl _
  ·
   rw [if_neg h]
   cases b with
   |
    none =>
    intro y hy ⟨h2, h3⟩
    rcases List.mem_append.1 hy with hy | hy
    · exact h1 y hy ⟨h2, h3⟩
    ·
     rw [List.mem_singleton.1 hy] at h2 h3
     exact h ⟨h2, h3, fun x hx => by cases hx⟩
   |
    some x =>
    refine ⟨List.mem_append_left _ h1.1, h1.2.1, h1.2.2.1, fun y hy hy2 hy3 => ?_⟩
    rcases List.mem_append.1 hy with hy | hy
    · exact h1.2.2.2 y hy hy2 hy3
    ·
     have hyj := List.mem_singleton.1 hy
     subst hyj
     rcases Nat.lt_or_ge y x with h5 | h5
     · exact absurd ⟨hy2, hy3, fun z hz => by injection hz with hz; subst hz; exact h5⟩ h
     · exact h5
def
  pathD (U : List (List Nat)) (d : List Int) (fr : Nat) : Nat → Nat → List Nat
 | 0, _ => []
 |
  n + 1, i => match bestD d (n + 1) fr (U[i]?.getD []) with
  | none => []
  | some j => j :: pathD U d fr n j
theorem srtN_rise (l : List Nat) : (srtN l).Pairwise (· ≤ ·) := by
 have := List.pairwise_mergeSort (le := fun x y : Nat => decide (x ≤ y)) (fun a b c h1 h2 => by simp only [decide_eq_true_eq] at *; omega) (fun a b => by simp only [Bool.or_eq_true, decide_eq_true_eq]; omega) l
 exact this.imp (fun h => of_decide_eq_true h)
theorem
    FarOk.least {U : List (List Nat)} {fr : Nat} {far : List Int} (h : FarOk U fr far) (hU : ∀ (i k : Nat), k ∈ U[i]?.getD [] → k < U.length) : ∀ (m j : Nat), wayN U m j fr → 0 ≤ farAt far j ∧ farAt far j ≤ (m : Int)
 |
  0, j, e => by
  have e : j = fr := e
  subst e
  rw [h.zero]
  exact ⟨Int.le_refl _, Int.le_refl _⟩
 |
  m
   +
    1, j, ⟨k, hk, hw⟩ => by
  obtain ⟨h1, h2⟩ := h.least hU m k hw
  by_cases e : j = fr
  ·
   subst e
   rw [h.zero]
   omega
  ·
   have hj : j < U.length := by
    rcases Nat.lt_or_ge j U.length with h3 | h3
    · exact h3
    · rw [List.getElem?_eq_none h3] at hk; simp at hk
   cases hn : nearP far (U[j]?.getD []) with
   | none => have := near_none hn k hk; omega
   |
    some x =>
    have h3 := h.done j hj e x hn
    have h4 := (near_some hn).2.2 k hk h1
    omega
theorem
    near_first {far : List Int} : ∀ (row : List Nat) (b : Option Nat) (x : Nat), row.foldl (near1 far) b = some x → b = some x ∨ ∃ r1 r2, row = r1 ++ x :: r2 ∧ (∀ k ∈ r1, 0 ≤ farAt far k → farAt far x < farAt far k) ∧ ∀ j, b = some j → farAt far x < farAt far j
 | [], b, x, h => .inl h
 |
  k
   :: row, b, x, h => by
  rw [List.foldl_cons] at h
  rcases near_first row _ x h with h1 | ⟨r1, r2, h1, h2, h3⟩
  ·
   unfold near1 at h1
   by_cases hk : farAt far k < 0
   · rw [if_pos hk] at h1; exact .inl h1
   ·
    rw [if_neg hk] at h1
    cases b with
    |
     none =>
     injection h1 with h1; subst h1
     exact .inr ⟨[], row, rfl, (fun y hy => by cases hy), fun j hj => by cases hj⟩
    |
     some j =>
     dsimp only at h1
     by_cases h4 : farAt far k < farAt far j
     ·
      rw [if_pos h4] at h1; injection h1 with h1; subst h1
      exact .inr ⟨[], row, rfl, (fun y hy => by cases hy), fun j' hj => by injection hj with hj; subst hj; exact h4⟩
     · rw [if_neg h4] at h1; exact .inl h1
  ·
   have hb : ∀ j, near1 far b k = some j → farAt far x < farAt far j := h3
   have hkx : 0 ≤ farAt far k → farAt far x < farAt far k := fun hk => by
    unfold near1 at hb
    rw [if_neg (by omega)] at hb
    cases b with
    | none => exact hb k rfl
    |
     some j =>
     dsimp only at hb
     by_cases h4 : farAt far k < farAt far j
     · rw [if_pos h4] at hb; exact hb k rfl
     ·
      rw [if_neg h4] at hb
      have := hb j rfl
      omega
   refine .inr ⟨k :: r1, r2, by rw [h1]; rfl, fun y hy => ?_, fun j hj => ?_⟩
   ·
    rcases List.mem_cons.1 hy with rfl | hy
    · exact hkx
    · exact h2 y hy
   ·
    subst hj
    unfold near1 at hb
    by_cases hk : farAt far k < 0
    · rw [if_pos hk] at hb; exact hb j rfl
    ·
     rw [if_neg hk] at hb
     dsimp only at hb
     by_cases h4 : farAt far k < farAt far j
     ·
      rw [if_pos h4] at hb
      have := hb k rfl
      omega
     · rw [if_neg h4] at hb; exact hb j rfl
theorem near_least {far : List Int} {row : List Nat} (hs : row.Pairwise (· ≤ ·)) {x : Nat} (h : nearP far row = some x) : ∀ j ∈ row, farAt far j = farAt far x → x ≤ j := by
 rcases near_first row none x h with h1 | ⟨r1, r2, h1, h2, _⟩
 · cases h1
 ·
  obtain ⟨_, h0, _⟩ := near_some h
  intro j hj he
  rw [h1] at hj hs
  rw [List.pairwise_append] at hs
  rcases List.mem_append.1 hj with hj | hj
  ·
   have := h2 j hj (by omega)
   omega
  ·
   rcases List.mem_cons.1 hj with rfl | hj
   · exact Nat.le_refl _
   · exact (List.pairwise_cons.1 hs.2.1).1 j hj
structure DsOk (U : List (List Nat)) (fr : Nat) (d : List Int) : Prop where
 len : d.length = U.length
 at' : ∀ i, i < U.length → Ds U fr (U.length + 1) i (farAt d i)
theorem DsIn.ok {U : List (List Nat)} {fr : Nat} {d : List Int} (h : DsIn U fr (U.length + 1) 0 d) : DsOk U fr d := ⟨h.len, fun i hi => h.old i (Nat.zero_le _) hi⟩
theorem
    far_dist {U : List (List Nat)} {fr : Nat} {far d : List Int} (h : FarOk (U.map srtN) fr far) (hd : DsOk U fr d) (hU : ∀ (i k : Nat), k ∈ U[i]?.getD [] → k < U.length) {j : Nat} (hj : j < U.length) (hne : j ≠ fr) : farAt d j = farAt far j := by
 have hUs : ∀ (i k : Nat), k ∈ (U.map srtN)[i]?.getD [] → k < (U.map srtN).length := fun i k hk => by
  rw [List.length_map]
  exact hU i k ((srt_row U i k).1 hk)
 have hl := h.least hUs
 rcases hd.at' j hj with ⟨h1, h2⟩ | ⟨m, h1, h2, h3, h4, h5⟩
 ·
  rw [h1]
  rcases Int.lt_or_le (farAt far j) 0 with h6 | h6
  ·
   have := h.low j
   omega
  ·
   exfalso
   have h7 := (srt_way U _ j fr).1 (h.way j h6)
   have h8 : 1 ≤ (farAt far j).toNat := by
    have := far_pos h hne h6
    omega
   refine h2 _ h8 ?_ h7
   have h9 := h.cnt j
   have h10 := fin_le far
   rw [h.len, List.length_map] at h10
   omega
 ·
  have h6 := hl m j ((srt_way U m j fr).2 h4)
  have h7 := far_pos h hne h6.1
  rcases Int.lt_or_le (farAt far j) (m : Int) with h8 | h8
  · exact absurd ((srt_way U _ j fr).1 (h.way j h6.1)) (h5 (farAt far j).toNat (by omega) (by omega))
  · omega
theorem best_near {U : List (List Nat)} {fr : Nat} {far d : List Int} (h : FarOk (U.map srtN) fr far) (hd : DsOk U fr d) (hU : ∀ (i k : Nat), k ∈ U[i]?.getD [] → k < U.length) {i k n : Nat} (hk : nearP far ((U.map srtN)[i]?.getD []) = some k) (hf : farAt far k = (n : Int)) (hn : 1 ≤ n) (hfr : ∀ j, j ∈ U[i]?.getD [] → j ≠ fr) : bestD d n fr (U[i]?.getD []) = some k := by
 obtain ⟨hm, h0, hmin⟩ := near_some hk
 have hm2 := (srt_row U i k).1 hm
 have hkf : k ≠ fr := fun e => by subst e; rw [h.zero] at hf; omega
 have hsort : ((U.map srtN)[i]?.getD []).Pairwise (· ≤ ·) := by
  rw [List.getElem?_map]
  cases U[i]? with
  | none => exact List.Pairwise.nil
  | some r => exact srtN_rise r
 have hle := near_least hsort hk
 have hb := best_least d n fr (U[i]?.getD [])
 generalize bestD d n fr (U[i]?.getD []) = b at hb ⊢
 cases b with
 | none => exact absurd ⟨by rw [far_dist h hd hU (hU i k hm2) hkf]; exact hf, hkf⟩ (hb k hm2)
 |
  some x =>
  obtain ⟨h1, h2, h3, h4⟩ := hb
  have h5 := h4 k hm2 (by rw [far_dist h hd hU (hU i k hm2) hkf]; exact hf) hkf
  have h6 := hle x ((srt_row U i x).2 h1) (by rw [← far_dist h hd hU (hU i x h1) h3, h2, hf])
  rw [show x = k by omega]
theorem
    path_same {U : List (List Nat)} {fr : Nat} {far d : List Int} (h : FarOk (U.map srtN) fr far) (hd : DsOk U fr d) (hU : ∀ (i k : Nat), k ∈ U[i]?.getD [] → k < U.length) : ∀ (n f i : Nat), i < U.length → i ≠ fr → farAt far i = ((n + 1 : Nat) : Int) → n + 1 ≤ f → pathP (U.map srtN) far fr f i = i :: pathD U d fr n i
 |
  0, f, i, hi, hne, hf, hl => by
  obtain ⟨g, rfl⟩ : ∃ g, f = g + 1 := ⟨f - 1, by omega⟩
  obtain ⟨k, hk, he⟩ := h.next (by rw [List.length_map]; exact hi) hne (by omega)
  have hkf : k = fr := by
   by_cases e : k = fr
   · exact e
   ·
    have := far_pos h e (near_some hk).2.1
    omega
  rw [pathP, hk]
  simp only [if_pos hkf, pathD]
 |
  n
   + 1, f, i, hi, hne, hf, hl => by
  obtain ⟨g, rfl⟩ : ∃ g, f = g + 1 := ⟨f - 1, by omega⟩
  obtain ⟨k, hk, he⟩ := h.next (by rw [List.length_map]; exact hi) hne (by omega)
  obtain ⟨hm, h0, hmin⟩ := near_some hk
  have hfk : farAt far k = ((n + 1 : Nat) : Int) := by omega
  have hkf : k ≠ fr := fun e => by subst e; rw [h.zero] at hfk; omega
  have hb := best_near h hd hU hk hfk (by omega) (fun j hj e => by
   subst e
   have := hmin j ((srt_row U i j).2 hj) (by rw [h.zero]; exact Int.le_refl _)
   rw [h.zero] at this
   omega)
  rw [pathP, hk]
  simp only [if_neg hkf]
  rw [pathD, hb]
  simp only
  rw [path_same h hd hU n g k (hU i k ((srt_row U i k).1 hm)) hkf hfk (by omega)]
theorem
    path_dist {U : List (List Nat)} {fr : Nat} {far d : List Int} (h : FarOk (U.map srtN) fr far) (hd : DsOk U fr d) (hU : ∀ (i k : Nat), k ∈ U[i]?.getD [] → k < U.length) (hfr : fr < U.length) (hne : pathP (U.map srtN) far fr (U.length + 1) fr ≠ []) : ∃ L : Nat, farAt d fr = ((L + 1 : Nat) : Int) ∧ pathP (U.map srtN) far fr (U.length + 1) fr = fr :: pathD U d fr L fr := by
 have hUs : ∀ (i k : Nat), k ∈ (U.map srtN)[i]?.getD [] → k < (U.map srtN).length := fun i k hk => by
  rw [List.length_map]
  exact hU i k ((srt_row U i k).1 hk)
 rw [pathP] at hne ⊢
 cases hk : nearP far ((U.map srtN)[fr]?.getD []) with
 | none => rw [hk] at hne; exact absurd rfl hne
 |
  some k =>
  obtain ⟨hm, h0, hmin⟩ := near_some hk
  obtain ⟨L, hL⟩ : ∃ L : Nat, farAt far k = (L : Int) := ⟨(farAt far k).toNat, by omega⟩
  have hLU : L < U.length := by
   have h9 := h.cnt k
   have h10 := fin_le far
   rw [h.len, List.length_map] at h10
   omega
  have hway : wayN U (L + 1) fr fr := ⟨k, (srt_row U fr k).1 hm, by
   have := (srt_way U _ k fr).1 (h.way k h0)
   rwa [hL] at this⟩
  have hmn : ∀ m', 1 ≤ m' → m' < L + 1 → ¬ wayN U m' fr fr := fun m' h1 h2 hw => by
   obtain ⟨M, rfl⟩ : ∃ M, m' = M + 1 := ⟨m' - 1, by omega⟩
   obtain ⟨j, hj, hw⟩ := hw
   have h3 := h.least hUs M j ((srt_way U M j fr).2 hw)
   have h4 := hmin j ((srt_row U fr j).2 hj) h3.1
   omega
  have hdl : farAt d fr = ((L + 1 : Nat) : Int) := by
   rcases hd.at' fr hfr with ⟨_, h2⟩ | ⟨m, h1, h2, h3, h4, h5⟩
   · exact absurd hway (h2 (L + 1) (by omega) (by omega))
   ·
    rcases Nat.lt_trichotomy m (L + 1) with h6 | h6 | h6
    · exact absurd h4 (hmn m h1 h6)
    · rw [h3, h6]
    · exact absurd hway (h5 (L + 1) (by omega) h6)
  refine ⟨L, hdl, ?_⟩
  simp only
  cases L with
  |
   zero =>
   have hkf : k = fr := by
    by_cases e : k = fr
    · exact e
    ·
     have := far_pos h e h0
     omega
   rw [if_pos hkf]; rfl
  |
   succ L =>
   have hkf : k ≠ fr := fun e => by subst e; rw [h.zero] at hL; omega
   rw [if_neg hkf]
   have hb := best_near h hd hU hk hL (by omega) (fun j hj e => by
    subst e
    have := hmin j ((srt_row U j j).2 hj) (by rw [h.zero]; exact Int.le_refl _)
    rw [h.zero] at this
    omega)
   rw [pathD, hb]
   simp only
   rw [path_same h hd hU L U.length k (hU fr k ((srt_row U fr k).1 hm)) hkf hL (by omega)]
theorem
    best_next {U : List (List Nat)} {fr : Nat} {d : List Int} (hd : DsOk U fr d) (hU : ∀ (i k : Nat), k ∈ U[i]?.getD [] → k < U.length) {i n L : Nat} (hi : i < U.length) (hL : farAt d fr = (L : Int)) (hnL : n + 1 < L) (hf : farAt d i = ((n + 1 + 1 : Nat) : Int)) : ∃ j, bestD d (n + 1) fr (U[i]?.getD []) = some j ∧ j < U.length ∧ farAt d j = ((n + 1 : Nat) : Int) := by
 have hb := best_least d (n + 1) fr (U[i]?.getD [])
 generalize bestD d (n + 1) fr (U[i]?.getD []) = b at hb ⊢
 cases b with
 | some x => exact ⟨x, rfl, hU i x hb.1, hb.2.1⟩
 |
  none =>
  exfalso
  rcases hd.at' i hi with ⟨h1, _⟩ | ⟨m, h1, h2, h3, h4, h5⟩
  · omega
  ·
   have hm : m = n + 1 + 1 := by omega
   subst hm
   obtain ⟨j, hj, hw⟩ := h4
   have hjl := hU i j hj
   have hdj : farAt d j = ((n + 1 : Nat) : Int) := by
    rcases hd.at' j hjl with ⟨_, h6⟩ | ⟨m, h6, h7, h8, h9, h10⟩
    · exact absurd hw (h6 (n + 1) (by omega) (by omega))
    ·
     rcases Nat.lt_trichotomy m (n + 1) with h11 | h11 | h11
     · exact absurd ⟨j, hj, h9⟩ (h5 (m + 1) (by omega) (by omega))
     · rw [h8, h11]
     · exact absurd hw (h10 (n + 1) (by omega) h11)
   refine hb j hj ⟨hdj, fun e => ?_⟩
   subst e
   omega
end Go.Proofs.YtkkopdmemjncdaaGreatDoor
