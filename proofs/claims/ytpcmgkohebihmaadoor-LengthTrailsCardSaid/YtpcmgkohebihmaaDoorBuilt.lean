/- Expressions that the code builds, and Of of them. No condition but that the error's variable holds one. -/
import Derived.Test.YtpcmgkohebihmaaDoorLawsB
namespace Go.Proofs.YtpcmgkohebihmaaDoor
open Go Go.RowKit

theorem Sl.box {w : World} {b n k c : Nat} {vs : List Value} (h : boxAt w b vs) (hl : vs.length = n * k) (hn : n ≤ maxLen) (hk : 0 < k) : Sl w (.slice (some ⟨b, 0, none⟩) n c) k n vs :=
  ⟨hl, hn, .inr ⟨b, 0, c, rfl, fun h0 => h.lt (by rw [hl]; exact Nat.mul_pos (Nat.pos_of_ne_zero h0) hk), fun j u hj => by rw [Nat.zero_add]; exact h.cell j u hj⟩⟩

/-- The expression that is built of an operation, a greatest number and parts. -/
def mkE (op mx : Int) (l : List Ex) : Ex := .mk op 0 emptyS ⟨#[]⟩ 0 mx l
theorem built_in {w : World} (op mx : Int) (b : Nat) (n c : Nat) (l : List (Ex × List Value)) (hop : fit64 op) (hmx : fit64 mx) (hn : l.length = n) (hn1 : n ≤ 1000) (hx : boxAt w b (l.flatMap (·.2))) (hl : ∀ p ∈ l, ExIn w p.1 p.2) :
    ExIn w (mkE op mx (l.map (·.1))) (exCells op 0 emptyS ⟨#[]⟩ 0 mx (.slice (some ⟨b, 0, none⟩) n c)) := by
  subst hn
  refine .mk op 0 emptyS ⟨#[]⟩ 0 mx _ l hop (by unfold fit64; omega) (by unfold fit64; omega) hmx (by decide) (fun p hp => (hl p hp).len) (Sl.box hx ?_ (by unfold maxLen; omega) (by omega)) (.inr ⟨_, _, _, rfl⟩) (by omega) hl
  clear hx hn1
  induction l with
  | nil => rfl
  | cons a r ih =>
    rw [List.flatMap_cons, List.length_append, (hl a (by simp)).len, ih (fun p hp => hl p (by simp [hp])), List.length_cons]; omega

theorem lenOf_built (op mx : Int) (b : Nat) (n c : Nat) (l : List (Ex × List Value)) (w : World) (hop : fit64 op) (hmx : fit64 mx) (hn : l.length = n) (hn1 : n ≤ 1000) (hx : boxAt w b (l.flatMap (·.2))) (hl : ∀ p ∈ l, ExIn w p.1 p.2) (v : Value) (hE : Errs w 0 v) :
    Calls Tryd.prog 9 #[.agg #[.int .i64 op, .int .i64 0, .int .u64 0, .int .u64 0, .int .u64 0, .int .u64 0, .string ⟨#[]⟩, .int .i64 0, .int .i64 mx, .slice (some ⟨b, 0, none⟩) n c]] w
      fun e' w' => e' = .returned (lenRes (isCore (mkE op mx (l.map (·.1)))) (ofE (mkE op mx (l.map (·.1)))) v) ∧ Gr w w' := by
  have h := lenOf_any _ _ w (built_in op mx b n c l hop hmx hn hn1 hx hl) v hE
  unfold exCells at h
  rw [wd_zero, wd_zero, wd_zero, wd_zero] at h
  exact h

theorem one_core {op mn mx : Int} {e : Ex} (he : isCore e = true) (h : mkE op mx [e] = mkE op mx [e]) : True := trivial

/-- A byte, and any number of it. -/
theorem byteE_of (s : BitVec 256) (h : (s == emptyS) = false) : ofE (byteE s) = ⟨false, 1, 1⟩ := by
  unfold byteE; rw [ofE]; simp [h]
theorem starE_core (s : BitVec 256) : isCore (mkE 7 (-1) [byteE s]) = true := by
  unfold isCore mkE byteE
  rw [partsE, if_neg (by simp [leanB, kindB]), partsL, partsE, if_neg (by simp [leanB, kindB]), partsL]; rfl
theorem starE_of (s : BitVec 256) (h : (s == emptyS) = false) : ofE (mkE 7 (-1) [byteE s]) = ⟨false, 0, -1⟩ := by
  unfold mkE; rw [ofE]; simp [ofL, byteE_of s h, manyL, altL, Le.zero]; omega
theorem setA_ne : (setA == emptyS) = false := by decide +kernel
theorem setB_ne : (setB == emptyS) = false := by decide +kernel

end Go.Proofs.YtpcmgkohebihmaaDoor
