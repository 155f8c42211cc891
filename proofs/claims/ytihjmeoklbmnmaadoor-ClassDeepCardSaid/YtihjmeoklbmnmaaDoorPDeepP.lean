/- Classes within classes, plain: as deep as may be, and deeper. No condition. -/
import Derived.Test.YtihjmeoklbmnmaaDoorPItem
namespace Go.Proofs.YtihjmeoklbmnmaaDoor
open Go Go.RowKit

/-- n classes open. -/
def openL : Nat → List UInt8
  | 0 => []
  | n + 1 => 91 :: 97 :: 45 :: 45 :: openL n
def shutL (n : Nat) : List UInt8 := List.replicate n 93
theorem openL_len : ∀ n, (openL n).length = 4 * n
  | 0 => rfl
  | n + 1 => by simp [openL, openL_len n]; omega
theorem openL_snoc : ∀ n, openL n ++ [91, 97, 45, 45] = openL (n + 1)
  | 0 => rfl
  | n + 1 => by
    show 91 :: 97 :: 45 :: 45 :: (openL n ++ [91, 97, 45, 45]) = _
    rw [openL_snoc n]; rfl
theorem shutL_len (n : Nat) : (shutL n).length = n := List.length_replicate
theorem shutL_snoc (n : Nat) : shutL n ++ [93] = shutL (n + 1) := by unfold shutL; rw [List.replicate_succ']
theorem shutL_cons (n : Nat) (r : List UInt8) : shutL (n + 1) ++ r = shutL n ++ 93 :: r := by rw [← shutL_snoc, List.append_assoc]; rfl
theorem item_a (c : UInt8) (r : List UInt8) (h1 : c ≠ 91) (h2 : c ≠ 93) (h3 : c ≠ 45) (h4 : c ≠ 10) (h5 : c ≠ 92) (h : (pre [45] r && !pre [45, 45] r) = false) : itemP (c :: r) = .ok (ofList [c]) r :=
  itemP_one (pre_no h1) (by rw [charP_cons, if_neg (by simp [h1, h2, h3, h4]), if_neg h5]) h
theorem items_a (c : UInt8) (r : List UInt8) (h1 : c ≠ 91) (h2 : c ≠ 93) (h3 : c ≠ 45) (h4 : c ≠ 10) (h5 : c ≠ 92) (h6 : c ≠ 38) (h : (pre [45] r && !pre [45, 45] r) = false) (hs : stops r = true) : itemsF (c :: r) emptyS = .ok (ofList [c]) r := by
  rw [itemsF_go emptyS (by unfold stops; rw [pre_no h3, pre_no h6, pre_no h2]; rfl) (item_a c r h1 h2 h3 h4 h5 h), itemsF_stop _ hs, emptyS_or]
theorem head_a (c : UInt8) (r : List UInt8) (h1 : c ≠ 91) (h2 : c ≠ 93) (h3 : c ≠ 45) (h4 : c ≠ 10) (h5 : c ≠ 92) (h6 : c ≠ 38) (h7 : c ≠ 94) (h : (pre [45] r && !pre [45, 45] r) = false) (hs : stops r = true) : headP (c :: r) = .ok (ofList [c]) r := by
  have e : itemsP ((c :: r).length + 1) (c :: r) emptyS = itemsF (c :: r) emptyS := rfl
  unfold headP
  rw [pre_no h7]
  simp only [Bool.false_eq_true, if_false]
  rw [e, items_a c r h1 h2 h3 h4 h5 h6 h hs]
theorem pre_self1 (a : UInt8) (r : List UInt8) : pre [a] (a :: r) = true := by unfold pre; simp
theorem pre_self2 (a b : UInt8) (r : List UInt8) : pre [a, b] (a :: b :: r) = true := by unfold pre; simp
/-- What the classes come to. -/
def deepS : Nat → BitVec 256
  | 0 => ofList [98]
  | n + 1 => ofList [97] &&& ~~~(deepS n)
theorem deepS_39 : deepS 39 = ofList [97] := by decide +kernel
theorem head_less (c : UInt8) (r : List UInt8) (h1 : c ≠ 91) (h2 : c ≠ 93) (h3 : c ≠ 45) (h4 : c ≠ 10) (h5 : c ≠ 92) (h6 : c ≠ 38) (h7 : c ≠ 94) : headP (c :: 45 :: 45 :: r) = .ok (ofList [c]) (45 :: 45 :: r) :=
  head_a c _ h1 h2 h3 h4 h5 h6 h7 (by rw [pre_self2]; simp) (by unfold stops; rw [pre_self2]; rfl)
theorem head_end (c : UInt8) (r : List UInt8) (h1 : c ≠ 91) (h2 : c ≠ 93) (h3 : c ≠ 45) (h4 : c ≠ 10) (h5 : c ≠ 92) (h6 : c ≠ 38) (h7 : c ≠ 94) : headP (c :: 93 :: r) = .ok (ofList [c]) (93 :: r) :=
  head_a c _ h1 h2 h3 h4 h5 h6 h7 (by rw [pre_no (by decide)]; rfl) (by unfold stops; rw [pre_self1]; simp)
theorem class_end (c : UInt8) (o : Nat) (r : List UInt8) (ho : o < 40) (h1 : c ≠ 91) (h2 : c ≠ 93) (h3 : c ≠ 45) (h4 : c ≠ 10) (h5 : c ≠ 92) (h6 : c ≠ 38) (h7 : c ≠ 94) : classF o (91 :: c :: 93 :: r) = .ok (ofList [c]) r := by
  rw [classF_ok (s := ofList [c]) (r := 93 :: r) (pre_self1 _ _) (by omega) (by exact head_end c r h1 h2 h3 h4 h5 h6 h7), tailsF_end (pre_self1 _ _)]; rfl
theorem class_deep : ∀ (n o : Nat) (r : List UInt8), o + n < 40 → classF o (openL n ++ 91 :: 98 :: 93 :: (shutL n ++ r)) = .ok (deepS n) r
  | 0, o, r, h => class_end 98 o r (by omega) (by decide) (by decide) (by decide) (by decide) (by decide) (by decide) (by decide)
  | n + 1, o, r, h => by
    show classF o (91 :: 97 :: 45 :: 45 :: (openL n ++ 91 :: 98 :: 93 :: (shutL (n + 1) ++ r))) = _
    rw [shutL_cons]
    rw [classF_ok (s := ofList [97]) (pre_self1 _ _) (by omega) (by exact head_less 97 _ (by decide) (by decide) (by decide) (by decide) (by decide) (by decide) (by decide))]
    rw [tailsF_go (r := 93 :: r) (x := deepS n) (pre_no (by decide)) (.inl (pre_self2 _ _ _)) (by exact class_deep n (o + 1) (93 :: r) (by omega)), tailsF_end (pre_self1 _ _), pre_self2]
    rfl
theorem class_deeper : ∀ (n o : Nat) (r : List UInt8), o + n = 39 → classF o (openL n ++ 91 :: 98 :: 45 :: 45 :: 91 :: r) = .bad true (91 :: r)
  | 0, o, r, h => by
    show classF o (91 :: 98 :: 45 :: 45 :: 91 :: r) = _
    rw [classF_ok (s := ofList [98]) (pre_self1 _ _) (by omega) (by exact head_less 98 _ (by decide) (by decide) (by decide) (by decide) (by decide) (by decide) (by decide))]
    exact tailsF_bad (pre_no (by decide)) (.inl (pre_self2 _ _ _)) (by exact classF_deep _ _ (pre_self1 _ _) (by omega))
  | n + 1, o, r, h => by
    show classF o (91 :: 97 :: 45 :: 45 :: (openL n ++ 91 :: 98 :: 45 :: 45 :: 91 :: r)) = _
    rw [classF_ok (s := ofList [97]) (pre_self1 _ _) (by omega) (by exact head_less 97 _ (by decide) (by decide) (by decide) (by decide) (by decide) (by decide) (by decide))]
    exact tailsF_bad (pre_no (by decide)) (.inl (pre_self2 _ _ _)) (by exact class_deeper n (o + 1) r (by omega))
theorem parse_deep : parseP (openL 39 ++ 91 :: 98 :: 93 :: shutL 39) 0 = .ok (ofList [97]) [] := by
  rw [parseP_eq, if_neg (by omega)]
  have := class_deep 39 0 [] (by omega)
  rw [List.append_nil, deepS_39] at this
  exact this
theorem parse_deeper : parseP (openL 39 ++ 91 :: 98 :: 45 :: 45 :: 91 :: 99 :: 93 :: 93 :: shutL 39) 0 = .bad true (91 :: 99 :: 93 :: 93 :: shutL 39) := by
  rw [parseP_eq, if_neg (by omega)]
  exact class_deeper 39 0 _ (by omega)

end Go.Proofs.YtihjmeoklbmnmaaDoor
