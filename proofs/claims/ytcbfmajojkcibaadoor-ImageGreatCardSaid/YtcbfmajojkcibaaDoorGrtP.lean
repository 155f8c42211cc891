/- bolterlaw17, plain: the greatest tables; they may be. No condition. -/
import Derived.Test.YtcbfmajojkcibaaDoorImgR
namespace Go.Proofs.YtcbfmajojkcibaaDoor

def gLab (s : Nat) : Int := (s : Int) % 201 - 1
def gBas (s : Nat) : Int := 256 * (s : Int)
def gDfl (s : Nat) : Int := (s : Int) - 1
def gChk (i : Nat) : Int := ((i / 256 : Nat) : Int)
def gNxt (i : Nat) : Int := (((i / 256 : Nat) : Int) * 31 + ((i % 256 : Nat) : Int) * 7) % 601 - 1
def gName : List UInt8 := [97, 98, 99, 100, 101, 102, 103, 104, 105, 106, 107, 108, 109, 110, 111, 112, 113, 114, 115, 116, 117, 118, 119, 120, 121, 122, 97, 98, 99, 100, 101, 102]
def gCut (r : Nat) : Int × Int := ((r : Int) % 3, 65536 * (((r : Int) % 3 + 1) / 2))
def gActs (n : Nat) : List (Int × Int) := (List.range n).map fun k : Nat => (2, (k : Int) % 2)
def gMode (m : Nat) : List UInt8 := if m = 0 then [115, 116, 97, 114, 116] else [109, UInt8.ofNat (97 + m)]
def gStart (m : Nat) : Int := if m = 0 then 0 else 600 - (m : Int)
/-- The greatest tables, so far. -/
def gTb (a s q r m : Nat) : Tb := ⟨(List.range m).map gMode, (List.range r).map fun _ => gName, (List.range r).map gCut, (List.range r).map fun _ => gActs 8,
  (List.range a).map (fun i : Nat => (i : Int)) ++ List.replicate (256 - a) 0, 256, (List.range m).map gStart, (List.range s).map gLab, (List.range s).map gBas, (List.range s).map gDfl, (List.range q).map gNxt, (List.range q).map gChk⟩
theorem g_base (a s q r m : Nat) : (gTb a s q r m).base = (List.range s).map gBas := rfl
theorem g_dflt (a s q r m : Nat) : (gTb a s q r m).dflt = (List.range s).map gDfl := rfl
theorem g_next (a s q r m : Nat) : (gTb a s q r m).next = (List.range q).map gNxt := rfl
theorem g_check (a s q r m : Nat) : (gTb a s q r m).check = (List.range q).map gChk := rfl
theorem g_modes (a s q r m : Nat) : (gTb a s q r m).modes = (List.range m).map gMode := rfl
theorem g_starts (a s q r m : Nat) : (gTb a s q r m).starts = (List.range m).map gStart := rfl
theorem g_label (a s q r m : Nat) : (gTb a s q r m).label = (List.range s).map gLab := rfl
theorem range_get {α : Type} (f : Nat → α) (n k : Nat) (a : α) (h : ((List.range n).map f)[k]? = some a) : k < n ∧ a = f k := by
  rw [List.getElem?_map] at h
  obtain ⟨i, hi, rfl⟩ := Option.map_eq_some_iff.1 h
  obtain ⟨h1, h2⟩ := List.getElem?_eq_some_iff.1 hi
  rw [List.length_range] at h1
  rw [List.getElem_range] at h2
  subst h2
  exact ⟨h1, rfl⟩
theorem zip_get {α β : Type} {l : List α} {m : List β} {k : Nat} {x : α × β} (h : (l.zip m)[k]? = some x) : l[k]? = some x.1 ∧ m[k]? = some x.2 := by
  rw [List.getElem?_zip_eq_some] at h
  exact h
theorem cls_range : ∀ (n a : Nat), clsGo (a : Int) ((List.range' a n).map (fun i : Nat => (i : Int))) = some ((a + n : Nat) : Int)
  | 0, a => by simp [clsGo]
  | n + 1, a => by
    rw [List.range'_succ, List.map_cons, clsGo, if_neg (by omega)]
    have : max (a : Int) ((a : Int) + 1) = ((a + 1 : Nat) : Int) := by omega
    rw [this, cls_range n (a + 1)]
    congr 2; omega
theorem gMode_name (m : Nat) (h : m < 16) : nameB (gMode m) = true := by
  have : ∀ k : Fin 16, nameB (gMode k.val) = true := by decide +kernel
  exact this ⟨m, h⟩
theorem gMode_inj (m k : Nat) (h : m < 16) (hk : k < 16) (e : gMode m = gMode k) : m = k := by
  have : ∀ a b : Fin 16, gMode a.val = gMode b.val → a.val = b.val := by decide +kernel
  exact this ⟨m, h⟩ ⟨k, hk⟩ e
theorem gActs_ok : actsB 16 (gActs 8) = true := by decide +kernel
theorem gName_ok : nameB gName = true := by decide +kernel
theorem gCut_ok (r : Nat) : cutB (gCut r) = true := by
  unfold cutB gCut
  rcases (by omega : (r : Int) % 3 = 0 ∨ (r : Int) % 3 = 1 ∨ (r : Int) % 3 = 2) with h | h | h <;> rw [h] <;> decide
theorem great_may : mayB (gTb 256 600 153600 200 16) = true := by
  unfold mayB
  simp only [Bool.and_eq_true, decide_eq_true_eq]
  refine ⟨⟨by simp [gTb], by simp [gTb], by simp [gTb]⟩, ?_, ?_, ?_, by simp [gTb], ?_, ?_⟩
  · unfold ruledB
    simp only [Bool.and_eq_true, decide_eq_true_eq]
    refine ⟨⟨by simp [gTb], by simp [gTb], by simp [gTb]⟩, List.all_eq_true.2 fun x hx => ?_⟩
    obtain ⟨k, hk, rfl⟩ := List.mem_iff_getElem.1 hx
    have h0 := List.getElem?_eq_getElem hk
    obtain ⟨h1, h2⟩ := zip_get h0
    obtain ⟨h3, h4⟩ := zip_get h2
    obtain ⟨_, e1⟩ := range_get (fun _ => gName) 200 _ _ h1
    obtain ⟨_, e2⟩ := range_get gCut 200 _ _ h3
    obtain ⟨_, e3⟩ := range_get (fun _ => gActs 8) 200 _ _ h4
    have hm : (gTb 256 600 153600 200 16).modes.length = 16 := by simp [gTb]
    unfold ruleB
    rw [e1, e2, e3, hm, gName_ok, gCut_ok, gActs_ok]; rfl
  · unfold classesB
    simp only [Bool.and_eq_true, decide_eq_true_eq]
    have e : (gTb 256 600 153600 200 16).classes = (List.range 256).map (fun i : Nat => (i : Int)) := by
      show (List.range 256).map (fun i : Nat => (i : Int)) ++ List.replicate (256 - 256) 0 = _
      rw [Nat.sub_self, List.replicate_zero, List.append_nil]
    rw [e]
    refine ⟨by simp, ?_⟩
    rw [List.range_eq_range']
    exact cls_range 256 0
  · unfold combB
    simp only [Bool.and_eq_true, decide_eq_true_eq]
    have hbl : (gTb 256 600 153600 200 16).base.length = 600 := by simp [gTb]
    have hnl : (gTb 256 600 153600 200 16).next.length = 153600 := by simp [gTb]
    refine ⟨⟨by decide, by decide, by rw [hbl]; omega, by rw [hbl]; omega, by rw [hnl]; omega, by simp [gTb], by simp [gTb]⟩, allI_iff.2 fun k a hk => ?_, allI_iff.2 fun k a hk => ?_⟩
    · obtain ⟨h1, h2⟩ := zip_get hk
      rw [g_base] at h1
      rw [g_dflt] at h2
      obtain ⟨hk1, e1⟩ := range_get gBas 600 _ _ h1
      obtain ⟨_, e2⟩ := range_get gDfl 600 _ _ h2
      unfold rowB
      rw [e1, e2, Nat.zero_add]
      unfold gBas gDfl
      simp only [decide_eq_true_eq]
      omega
    · obtain ⟨h1, h2⟩ := zip_get hk
      rw [g_check] at h1
      rw [g_next] at h2
      obtain ⟨hk1, e1⟩ := range_get gChk 153600 _ _ h1
      obtain ⟨_, e2⟩ := range_get gNxt 153600 _ _ h2
      have hb : (gTb 256 600 153600 200 16).base.getD (gChk k).toNat 0 = 256 * ((k / 256 : Nat) : Int) := by
        have : (gChk k).toNat = k / 256 := by unfold gChk; omega
        rw [this]
        rw [g_base, List.getD_eq_getElem?_getD, List.getElem?_map, List.getElem?_range (by omega)]
        rfl
      unfold slotB
      rw [e1, e2, Nat.zero_add, hbl, hnl, hb, Bool.and_eq_true, Bool.and_eq_true]
      unfold gChk gNxt
      simp only [decide_eq_true_eq]
      refine ⟨by omega, fun h => by omega, fun h => ?_⟩
      show 256 * ((k / 256 : Nat) : Int) ≤ (k : Int) ∧ (k : Int) < 256 * ((k / 256 : Nat) : Int) + 256
      omega
  · refine allI_iff.2 fun k a hk => ?_
    obtain ⟨h1, h2⟩ := zip_get hk
    obtain ⟨hk1, e1⟩ := range_get gMode 16 _ _ h1
    obtain ⟨_, e2⟩ := range_get gStart 16 _ _ h2
    have hl : (gTb 256 600 153600 200 16).label.length = 600 := by simp [gTb]
    unfold modeB
    rw [e1, e2, Nat.zero_add, gMode_name k hk1, hl, Bool.true_and, Bool.and_eq_true]
    refine ⟨?_, by simp only [decide_eq_true_eq]; unfold gStart; split <;> omega⟩
    rw [Bool.not_eq_true', ← Bool.not_eq_true]
    intro hc
    rw [List.contains_iff_mem] at hc
    obtain ⟨j, hj, hje⟩ := List.mem_iff_getElem.1 hc
    have hjk : j < k := by rw [List.length_take] at hj; omega
    have hj1 : ((List.range 16).map gMode)[j]? = some (gMode k) := by
      have := List.getElem?_eq_getElem hj
      rw [hje, List.getElem?_take_of_lt hjk] at this
      exact this
    obtain ⟨hj2, hj3⟩ := range_get gMode 16 _ _ hj1
    have := gMode_inj j k hj2 hk1 hj3.symm
    omega
  · refine List.all_eq_true.2 fun x hx => ?_
    rw [g_label] at hx
    obtain ⟨s, _, rfl⟩ := List.mem_map.1 hx
    have hl : (gTb 256 600 153600 200 16).labels.length = 200 := by simp [gTb]
    unfold labB gLab
    rw [hl]
    simp only [decide_eq_true_eq]
    omega

end Go.Proofs.YtcbfmajojkcibaaDoor
