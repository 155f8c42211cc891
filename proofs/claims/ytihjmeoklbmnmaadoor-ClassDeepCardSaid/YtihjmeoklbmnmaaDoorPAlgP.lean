/- Texts of classes, put together: what they are read as. Plain; no condition. -/
import Derived.Test.YtihjmeoklbmnmaaDoorPGe
namespace Go.Proofs.YtihjmeoklbmnmaaDoor
open Go

/-- A rising list has longest rows of neighbours. -/
theorem runs_exist : ∀ (n : Nat) (l : List UInt8), l.length = n → l.Pairwise (fun a b => a.toNat < b.toNat) → ∃ r, Runs r l
  | 0, l, h, _ => ⟨[], by rw [List.eq_nil_of_length_eq_zero h]; exact .nil⟩
  | n + 1, l, h, hp => by
    rcases List.eq_nil_or_concat l with rfl | ⟨l', x, rfl⟩
    · simp at h
    rw [List.concat_eq_append] at h hp ⊢
    obtain ⟨h1, h2, h3⟩ := List.pairwise_append.1 hp
    obtain ⟨r, hr⟩ := runs_exist n l' (by simpa using h) h1
    rcases List.eq_nil_or_concat r with rfl | ⟨q, p, rfl⟩
    · exact ⟨[] ++ [(x, x)], .new _ _ _ hr (fun p hp => by simp at hp)⟩
    rw [List.concat_eq_append] at hr
    have hlt := h3 p.2 (hr.mem p (by simp)).2 x (by simp)
    by_cases hx : p.2.toNat + 1 = x.toNat
    · exact ⟨_, .ext _ _ _ _ hr hx⟩
    · exact ⟨_, .new _ _ _ hr (fun p' hp' => by simp at hp'; subst hp'; omega)⟩
/-- A set's spans. -/
theorem set_runs (s : BitVec 256) : ∃ r, Runs r (bytesOf s) ∧ ofSpans r = s ∧ (∀ p ∈ r, p.1.toNat ≤ p.2.toNat) ∧ r.length ≤ 256 := by
  obtain ⟨r, hr⟩ := runs_exist _ _ rfl (bytesOf_rising s)
  exact ⟨r, hr, by rw [hr.set, ofList_bytesOf], fun p hp => (hr.mem p hp).1, Nat.le_trans hr.len (bytesTo_len s 256)⟩
theorem parse0 (t : List UInt8) : parseP t 0 = classF 0 t := by
  rw [parseP_eq, if_neg (by omega)]; rfl
theorem textL_nil : textL [] = [91, 93] := rfl
theorem pre_two (a b : UInt8) (r : List UInt8) : pre [a, b] (a :: b :: r) = true := by simp [pre, List.isPrefixOf]
section
variable {ra rb rc : List Sp} (ha : ∀ p ∈ ra, p.1.toNat ≤ p.2.toNat) (hb : ∀ p ∈ rb, p.1.toNat ≤ p.2.toNat) (hc : ∀ p ∈ rc, p.1.toNat ≤ p.2.toNat)
include ha in
theorem alg_not : parseP ([91, 94] ++ bodyL ra ++ [93]) 0 = .ok (~~~ofSpans ra) [] := by
  rw [parse0, show [91, 94] ++ bodyL ra ++ [93] = 91 :: 94 :: (bodyL ra ++ [93]) by simp, classF_ok rfl (by omega) (by rw [List.drop_succ_cons, List.drop_zero]; exact head_not ra [93] ha rfl), tailsF_end rfl]; rfl
include ha hb in
theorem alg_two : parseP ([91] ++ bodyL ra ++ (bodyL rb ++ [93])) 0 = .ok (ofSpans ra ||| ofSpans rb) [] := by
  have := class_text 0 (by omega) (ra ++ rb) [] (fun p hp => by rcases List.mem_append.1 hp with h | h; exact ha p h; exact hb p h)
  rw [ofSpans_append] at this
  rw [parse0, ← this]
  congr 1
  simp [textL, bodyL]
include ha hb hc in
theorem alg_all : parseP ([91] ++ bodyL ra ++ [45, 45] ++ textL rb ++ [38, 38] ++ textL rc ++ [45, 45, 91, 93, 93]) 0 = .ok ((ofSpans ra &&& ~~~ofSpans rb) &&& ofSpans rc) [] := by
  rw [parse0]
  have e : [91] ++ bodyL ra ++ [45, 45] ++ textL rb ++ [38, 38] ++ textL rc ++ [45, 45, 91, 93, 93] = 91 :: (bodyL ra ++ (45 :: 45 :: (textL rb ++ (38 :: 38 :: (textL rc ++ (45 :: 45 :: (textL [] ++ [93]))))))) := by
    rw [textL_nil]; simp only [List.append_assoc, List.cons_append, List.nil_append]
  rw [e, classF_ok rfl (by omega) (by rw [List.drop_succ_cons, List.drop_zero]; exact head_body ra _ ha rfl)]
  rw [tailsF_go (r := 38 :: 38 :: (textL rc ++ (45 :: 45 :: (textL [] ++ [93])))) (x := ofSpans rb) rfl (.inl (pre_two _ _ _)) (by simp only [List.drop_succ_cons, List.drop_zero]; exact class_text 1 (by omega) rb _ hb), pre_two]
  rw [tailsF_go (r := 45 :: 45 :: (textL [] ++ [93])) (x := ofSpans rc) rfl (.inr (pre_two _ _ _)) (by simp only [List.drop_succ_cons, List.drop_zero]; exact class_text 1 (by omega) rc _ hc), show pre [45, 45] (38 :: 38 :: (textL rc ++ (45 :: 45 :: (textL [] ++ [93])))) = false from rfl]
  rw [tailsF_go (r := [93]) (x := ofSpans []) rfl (.inl (pre_two _ _ _)) (by simp only [List.drop_succ_cons, List.drop_zero]; exact class_text 1 (by omega) [] _ (fun p h => by cases h)), pre_two, tailsF_end rfl]
  simp only [if_true, Bool.false_eq_true, if_false, ofSpans]
  congr 1
  have : ~~~emptyS = BitVec.allOnes 256 := by unfold emptyS; decide
  rw [this, BitVec.and_allOnes]
include ha hb in
theorem alg_both : parseP ([91, 94] ++ bodyL ra ++ [38, 38] ++ [91, 94] ++ (bodyL rb ++ [93]) ++ [93]) 0 = .ok (~~~(ofSpans ra ||| ofSpans rb)) [] := by
  rw [parse0]
  have e : [91, 94] ++ bodyL ra ++ [38, 38] ++ [91, 94] ++ (bodyL rb ++ [93]) ++ [93] = 91 :: 94 :: (bodyL ra ++ (38 :: 38 :: 91 :: 94 :: (bodyL rb ++ (93 :: [93])))) := by simp only [List.append_assoc, List.cons_append, List.nil_append]
  rw [e, classF_ok rfl (by omega) (by rw [List.drop_succ_cons, List.drop_zero]; exact head_not ra _ ha rfl)]
  rw [tailsF_go (r := [93]) (x := ~~~ofSpans rb) rfl (.inr (pre_two _ _ _)) (by
    simp only [List.drop_succ_cons, List.drop_zero]
    rw [classF_ok rfl (by omega) (by rw [List.drop_succ_cons, List.drop_zero]; exact head_not rb (93 :: [93]) hb rfl), tailsF_end rfl]; rfl)]
  rw [show pre [45, 45] (38 :: 38 :: 91 :: 94 :: (bodyL rb ++ (93 :: [93]))) = false from rfl, tailsF_end rfl]
  simp only [Bool.false_eq_true, if_false, BitVec.not_or]; rfl
end

end Go.Proofs.YtihjmeoklbmnmaaDoor
