/- The reader of bolterref17, plain: it goes on with nothing when something was wrong; it says the same as the readers of XImgR. No condition. -/
import Derived.Test.YtcbfmajojkcibaaDoorImgR
namespace Go.Proofs.YtcbfmajojkcibaaDoor

/-- What is left to read, and whether something was wrong. -/
abbrev St17 := List UInt8 × Bool
def numS (most : Nat) (s : St17) : Nat × St17 := if s.2 then (0, s) else match numR most s.1 with
  | some (n, r) => (n, (r, false))
  | none => (0, (s.1, true))
def textS (s : St17) : List UInt8 × St17 :=
  if (numS 32 s).2.2 || decide ((numS 32 s).2.1.length < (numS 32 s).1) then ([], ((numS 32 s).2.1, true))
  else ((numS 32 s).2.1.take (numS 32 s).1, ((numS 32 s).2.1.drop (numS 32 s).1, false))
def loopS {α : Type} (f : St17 → α × St17) : Nat → St17 → List α × St17
  | 0, s => ([], s)
  | n + 1, s => if s.2 then ([], s) else ((f s).1 :: (loopS f n (f s).2).1, (loopS f n (f s).2).2)
def appS {α : Type} (d : List α) (x : List α × St17) : List α × St17 := (d ++ x.1, x.2)
theorem appS_nil {α : Type} (x : List α × St17) : appS [] x = x := rfl
theorem loop_bad {α : Type} (f : St17 → α × St17) (n : Nat) (s : St17) (h : s.2 = true) (d : List α) : appS d (loopS f n s) = (d, s) := by
  cases n with
  | zero => simp [loopS, appS]
  | succ n => rw [loopS, if_pos h]; simp [appS]
theorem loop_end {α : Type} (f : St17 → α × St17) (s : St17) (d : List α) : appS d (loopS f 0 s) = (d, s) := by simp [loopS, appS]
theorem loop_on {α : Type} (f : St17 → α × St17) (n : Nat) (s : St17) (h : s.2 = false) (hn : 0 < n) (d : List α) : appS d (loopS f n s) = appS (d ++ [(f s).1]) (loopS f (n - 1) (f s).2) := by
  obtain ⟨m, rfl⟩ : ∃ m, n = m + 1 := ⟨n - 1, by omega⟩
  rw [loopS, if_neg (by rw [h]; simp), Nat.add_sub_cancel]
  simp [appS]
theorem loop_len {α : Type} (f : St17 → α × St17) : ∀ (n : Nat) (s : St17), (loopS f n s).1.length ≤ n
  | 0, s => by simp [loopS]
  | n + 1, s => by
    rw [loopS]
    split
    · simp
    · simp only [List.length_cons]; have := loop_len f n (f s).2; omega

def numI (most : Nat) (s : St17) : Int × St17 := (((numS most s).1 : Int), (numS most s).2)
def numD (most : Nat) (s : St17) : Int × St17 := (((numS most s).1 : Int) - 1, (numS most s).2)
def seqS {α β : Type} (f : St17 → α × St17) (g : α → St17 → β × St17) (s : St17) : (α × β) × St17 := (((f s).1, (g (f s).1 (f s).2).1), (g (f s).1 (f s).2).2)
def listS {α : Type} (most : Nat) (f : St17 → α × St17) (s : St17) : List α × St17 := loopS f (numS most s).1 (numS most s).2
def modeS : St17 → (List UInt8 × Int) × St17 := seqS textS (fun _ => numI 600)
def actS : St17 → (Int × Int) × St17 := seqS (numI 9) (fun _ => numI 16)
def cutS : St17 → (Int × Int) × St17 := seqS (numI 9) (fun _ => numI 65536)
def ruleS : St17 → (List UInt8 × ((Int × Int) × List (Int × Int))) × St17 := seqS textS (fun _ => seqS cutS (fun _ => listS 8 actS))
def stateS : St17 → (Int × (Int × Int)) × St17 := seqS (numD 200) (fun _ => seqS (numI 262144) (fun _ => numD 600))
def nextS (c : Int) (s : St17) : Int × St17 := if 0 ≤ c then numD 600 s else (-1, s)
def slotS : St17 → (Int × Int) × St17 := seqS (numD 600) nextS
def rcS0 : St17 → (List (List UInt8 × Int) × (List (List UInt8 × ((Int × Int) × List (Int × Int))) × (Int × (List Int × (List (Int × (Int × Int)) × List (Int × Int)))))) × St17 :=
  seqS (listS 16 modeS) (fun _ => seqS (listS 200 ruleS) (fun _ => seqS (numI 256) (fun _ => seqS (loopS (numI 256) 256) (fun _ => seqS (listS 600 stateS) (fun _ => listS 262144 slotS)))))

/-- They say the same. -/
def Agr {α : Type} (f : St17 → α × St17) (r : List UInt8 → Option (α × List UInt8)) : Prop :=
  (∀ l, match r l with | some (a, l') => f (l, false) = (a, (l', false)) | none => (f (l, false)).2.2 = true) ∧ ∀ l, (f (l, true)).2.2 = true
theorem Agr.some {α : Type} {f : St17 → α × St17} {r : List UInt8 → Option (α × List UInt8)} (h : Agr f r) {l l' : List UInt8} {a : α} (e : r l = some (a, l')) : f (l, false) = (a, (l', false)) := by
  have := h.1 l; rw [e] at this; exact this
theorem Agr.none {α : Type} {f : St17 → α × St17} {r : List UInt8 → Option (α × List UInt8)} (h : Agr f r) {l : List UInt8} (e : r l = none) : (f (l, false)).2.2 = true := by
  have := h.1 l; rw [e] at this; exact this
theorem Agr.bad {α : Type} {f : St17 → α × St17} {r : List UInt8 → Option (α × List UInt8)} (h : Agr f r) {s : St17} (e : s.2 = true) : (f s).2.2 = true := by
  obtain ⟨l, b⟩ := s; dsimp only at e; subst e; exact h.2 l
theorem agr_num (most : Nat) : Agr (numS most) (numR most) := by
  refine ⟨fun l => ?_, fun l => by simp [numS]⟩
  cases e : numR most l with
  | none => simp [numS, e]
  | some y => obtain ⟨n, r⟩ := y; simp [numS, e]
theorem agr_i (most : Nat) : Agr (numI most) (iR most) := by
  refine ⟨fun l => ?_, fun l => (agr_num most).2 l⟩
  unfold iR mapR
  cases e : numR most l with
  | none => exact (agr_num most).none e
  | some y => obtain ⟨n, r⟩ := y; show numI most (l, false) = _; unfold numI; rw [(agr_num most).some e]
theorem agr_d (most : Nat) : Agr (numD most) (dR most) := by
  refine ⟨fun l => ?_, fun l => (agr_num most).2 l⟩
  unfold dR mapR
  cases e : numR most l with
  | none => exact (agr_num most).none e
  | some y => obtain ⟨n, r⟩ := y; show numD most (l, false) = _; unfold numD; rw [(agr_num most).some e]
theorem agr_text : Agr textS txR := by
  refine ⟨fun l => ?_, fun l => by simp [textS, numS]⟩
  unfold txR
  cases e : numR 32 l with
  | none =>
    have h := (agr_num 32).none e
    show (textS (l, false)).2.2 = true
    unfold textS; rw [h]; rfl
  | some y =>
    obtain ⟨n, r⟩ := y
    have h := (agr_num 32).some e
    unfold textS
    rw [h]
    dsimp only
    by_cases hn : n ≤ r.length
    · rw [if_pos hn, decide_eq_false (by omega)]; rfl
    · rw [if_neg hn, decide_eq_true (by omega)]; rfl
theorem agr_seq {α β : Type} {f : St17 → α × St17} {r : List UInt8 → Option (α × List UInt8)} {g : α → St17 → β × St17} {q : α → List UInt8 → Option (β × List UInt8)} (h : Agr f r) (h2 : ∀ a, Agr (g a) (q a)) : Agr (seqS f g) (seqR r q) := by
  refine ⟨fun l => ?_, fun l => (h2 _).bad (h.2 l)⟩
  unfold seqR
  cases e : r l with
  | none => exact (h2 _).bad (h.none e)
  | some y =>
    obtain ⟨a, l'⟩ := y
    have hf := h.some e
    dsimp only
    cases e2 : q a l' with
    | none => show (seqS f g (l, false)).2.2 = true; unfold seqS; rw [hf]; exact (h2 a).none e2
    | some z =>
      obtain ⟨b, l2⟩ := z
      show seqS f g (l, false) = _
      unfold seqS; rw [hf]; dsimp only; rw [(h2 a).some e2]
theorem loop_true {α : Type} (f : St17 → α × St17) (n : Nat) (s : St17) (h : s.2 = true) : loopS f n s = ([], s) := by
  have := loop_bad f n s h []
  rw [appS_nil] at this; exact this
theorem agr_many {α : Type} {f : St17 → α × St17} {r : List UInt8 → Option (α × List UInt8)} (h : Agr f r) : ∀ n, Agr (loopS f n) (manyR r n)
  | 0 => ⟨fun l => by simp [manyR, loopS], fun l => by simp [loopS]⟩
  | n + 1 => by
    refine ⟨fun l => ?_, fun l => by rw [loop_true f _ _ rfl]⟩
    rw [manyR, loopS, if_neg (by simp)]
    cases e : r l with
    | none =>
      have hb := h.none e
      dsimp only
      rw [loop_true f n _ hb]; exact hb
    | some y =>
      obtain ⟨a, l'⟩ := y
      have hf := h.some e
      rw [hf]
      dsimp only
      cases e2 : manyR r n l' with
      | none => exact (agr_many h n).none e2
      | some z => obtain ⟨b, l2⟩ := z; dsimp only; rw [(agr_many h n).some e2]
theorem agr_list {α : Type} {f : St17 → α × St17} {r : List UInt8 → Option (α × List UInt8)} (h : Agr f r) (most : Nat) : Agr (listS most f) (listR most r) := by
  refine ⟨fun l => ?_, fun l => ?_⟩
  · unfold listR
    cases e : numR most l with
    | none =>
      have hb := (agr_num most).none e
      show (listS most f (l, false)).2.2 = true
      unfold listS; rw [loop_true f _ _ hb]; exact hb
    | some y =>
      obtain ⟨n, l'⟩ := y
      have hf := (agr_num most).some e
      dsimp only
      unfold listS; rw [hf]; exact (agr_many h n).1 l'
  · unfold listS
    have hb := (agr_num most).2 l
    rw [loop_true f _ _ hb]; exact hb
theorem agr_next (c : Int) : Agr (nextS c) (nextR c) := by
  unfold nextS nextR
  by_cases h : 0 ≤ c
  · simp only [if_pos h]; exact agr_d 600
  · simp only [if_neg h]; exact ⟨fun l => rfl, fun l => rfl⟩
theorem agr_mode : Agr modeS modeR := agr_seq agr_text fun _ => agr_i 600
theorem agr_act : Agr actS (actR 9) := agr_seq (agr_i 9) fun _ => agr_i 16
theorem agr_cut : Agr cutS (cutR 9) := agr_seq (agr_i 9) fun _ => agr_i 65536
theorem agr_rule : Agr ruleS (ruleR 9 9) := agr_seq agr_text fun _ => agr_seq agr_cut fun _ => agr_list agr_act 8
theorem agr_state : Agr stateS stateR := agr_seq (agr_d 200) fun _ => agr_seq (agr_i 262144) fun _ => agr_d 600
theorem agr_slot : Agr slotS slotR := agr_seq (agr_d 600) agr_next
theorem agr_rc : Agr rcS0 (seqR (listR 16 modeR) (fun _ => seqR (listR 200 (ruleR 9 9)) (fun _ => seqR (iR 256) (fun _ => seqR (manyR (iR 256) 256) (fun _ => seqR (listR 600 stateR) (fun _ => listR 262144 slotR)))))) :=
  agr_seq (agr_list agr_mode 16) fun _ => agr_seq (agr_list agr_rule 200) fun _ => agr_seq (agr_i 256) fun _ => agr_seq (agr_many (agr_i 256) 256) fun _ => agr_seq (agr_list agr_state 600) fun _ => agr_list agr_slot 262144
/-- The parts as one. -/
def rcM (x : List (List UInt8 × Int) × (List (List UInt8 × ((Int × Int) × List (Int × Int))) × (Int × (List Int × (List (Int × (Int × Int)) × List (Int × Int)))))) : Rc := ⟨x.1, x.2.1, x.2.2.1, x.2.2.2.1, x.2.2.2.2.1, x.2.2.2.2.2⟩
def rcS (s : St17) : Rc × St17 := (rcM (rcS0 s).1, (rcS0 s).2)
theorem agr_rcS : Agr rcS (rcR 9 9 256) := by
  refine ⟨fun l => ?_, fun l => agr_rc.2 l⟩
  unfold rcR mapR
  have h := agr_rc.1 l
  split at h
  · rename_i a l' e
    rw [e]
    dsimp only
    show rcS (l, false) = _
    unfold rcS; rw [h]; rfl
  · rename_i e
    rw [e]
    exact h
/-- What the document's own reader says. -/
theorem dec_rcS (b : List UInt8) (h4 : 4 ≤ b.length) (hm : b.length ≤ 2097152) (hh : b.take 4 = headB) :
    decT 2 3 255 b = if (rcS (b.drop 4, false)).2.2 = true ∨ 0 < (rcS (b.drop 4, false)).2.1.length then none else if mayB (tbOf (rcS (b.drop 4, false)).1) = true then some (tbOf (rcS (b.drop 4, false)).1) else none := by
  rw [← dec_same, decT, if_pos ⟨h4, hm, hh⟩]
  have h := agr_rcS.1 (b.drop 4)
  split at h
  · rename_i a l' e
    rw [e, h]
    cases l' with
    | nil => simp
    | cons x l => simp
  · rename_i e
    rw [e, h]
    simp
theorem dec_bytes {b : List UInt8} (h4 : 4 ≤ b.length) (hh : b.take 4 = headB) (hb : (rcS (b.drop 4, false)).2.2 = false) (hl : (rcS (b.drop 4, false)).2.1 = []) : encT (tbOf (rcS (b.drop 4, false)).1) = b := by
  have h := agr_rcS.1 (b.drop 4)
  split at h
  · rename_i a l' e
    rw [h] at hl ⊢
    dsimp only at hl ⊢
    subst hl
    have h2 := ((cod_rc 9 9 256).2 _ _ _ e).1
    unfold encT
    rw [rcOf_tbOf, ← hh]
    rw [List.append_nil] at h2
    rw [← h2, List.take_append_drop]
  · rw [h] at hb; cases hb

end Go.Proofs.YtcbfmajojkcibaaDoor
