/- Chains of wrappers, and what they say, plain. No condition. -/
import Derived.Test.YtndefbkcondmcaaDoorPTellH
import Derived.Test.YtndefbkcondmcaaDoorPErrNew
namespace Go.Proofs.YtndefbkcondmcaaDoor
open Go Go.RowKit

/-- A wrapper, as it is asked for. -/
structure WrP where
  kind : Int
  n : Int
  names : List (List UInt8)
instance : Inhabited WrP := ⟨⟨0, 0, []⟩⟩
instance : DecidableEq Wr := fun a b => by cases a <;> cases b <;> first | exact .isTrue rfl | exact .isFalse (by intro h; cases h)
def kindOf (k : Int) : Option Wr := if k = 1 then some .placed else if k = 2 then some .named else if k = 3 then some .ruled else if k = 4 then some .staged else none
/-- What the last wrapper of a kind says. -/
def sayP (k : Wr) (l : List WrP) : Int := l.foldl (fun acc x => if kindOf x.kind = some k then x.n else acc) 0
def namesP (l : List WrP) : List (List UInt8) := l.foldl (fun acc x => if kindOf x.kind = some .named then x.names else acc) []
theorem sayP_snoc (k : Wr) (l : List WrP) (x : WrP) : sayP k (l ++ [x]) = if kindOf x.kind = some k then x.n else sayP k l := by unfold sayP; rw [List.foldl_append]; rfl
theorem namesP_snoc (l : List WrP) (x : WrP) : namesP (l ++ [x]) = if kindOf x.kind = some .named then x.names else namesP l := by unfold namesP; rw [List.foldl_append]; rfl
/-- An error of these wrappers (the last one outermost) about the error at a place. -/
structure Chain (W : World) (s : Addr) (l : List WrP) (e : Er) : Prop where
  base : e.base = s
  inn : e.In W
  ok : e.ok
  say : ∀ k, k ≠ .named → e.say k = sayP k l
  names : NamesOf W e (namesP l)
theorem Chain.leaf {W : World} {s : Addr} (h : (Er.leaf s).In W) : Chain W s [] (.leaf s) := ⟨rfl, h, trivial, fun _ _ => rfl, rfl⟩
theorem Chain.later {W W' : World} {s : Addr} {l : List WrP} {e : Er} (h : Chain W s l e) (hG : Gr W W') : Chain W' s l e := ⟨h.base, h.inn.later hG, h.ok, h.say, h.names.later hG⟩
theorem Chain.skip {W : World} {s : Addr} {l : List WrP} {e : Er} {x : WrP} (h : Chain W s l e) (hk : kindOf x.kind = none) : Chain W s (l ++ [x]) e := by
  refine ⟨h.base, h.inn, h.ok, fun k hn => ?_, ?_⟩
  · rw [sayP_snoc, hk, if_neg (by simp)]; exact h.say k hn
  · rw [namesP_snoc, hk, if_neg (by simp)]; exact h.names
theorem Chain.num {W W' : World} {s : Addr} {l : List WrP} {e : Er} {x : WrP} {k : Wr} {b : Nat} (h : Chain W s l e) (hn : k ≠ .named) (hk : kindOf x.kind = some k) (hG : Gr W W') (hb : boxAt W' b [e.val, .int .i64 x.n]) :
    Chain W' s (l ++ [x]) (.wrap k b (.int .i64 x.n) e) := by
  refine ⟨h.base, ⟨hb.cell 0 _ rfl, hb.cell 1 _ rfl, h.inn.later hG⟩, ⟨fun _ => ⟨_, rfl⟩, h.ok⟩, fun k' hn' => ?_, ?_⟩
  · rw [sayP_snoc, hk]
    unfold Er.say
    by_cases hkk : k = k'
    · subst hkk; rw [if_pos rfl, if_pos rfl]
    · rw [if_neg hkk, if_neg (by intro h; injection h with h; exact hkk h)]; exact h.say k' hn'
  · rw [namesP_snoc, hk, if_neg (by intro h; injection h with h; exact hn h)]
    have := h.names.later hG
    unfold NamesOf at this ⊢
    unfold Er.first
    rw [if_neg hn]; exact this
theorem Chain.nam {W W' : World} {s : Addr} {l : List WrP} {e : Er} {x : WrP} {b : Nat} {nv : Value} (h : Chain W s l e) (hk : kindOf x.kind = some .named) (hG : Gr W W') (hb : boxAt W' b [e.val, nv]) (hs : Sl W' nv 1 x.names.length (x.names.map vS)) (hl : x.names.length * 16 ≤ 140737488355328) :
    Chain W' s (l ++ [x]) (.wrap .named b nv e) := by
  refine ⟨h.base, ⟨hb.cell 0 _ rfl, hb.cell 1 _ rfl, h.inn.later hG⟩, ⟨fun hn => absurd rfl hn, h.ok⟩, fun k' hn' => ?_, ?_⟩
  · rw [sayP_snoc, hk, if_neg (by intro h; injection h with h; exact hn' h.symm)]
    unfold Er.say
    rw [if_neg (fun h => hn' h.symm)]; exact h.say k' hn'
  · rw [namesP_snoc, hk, if_pos rfl]
    unfold NamesOf Er.first
    rw [if_pos rfl]
    exact ⟨nv, hb.cell 1 _ rfl, hs, hl⟩

end Go.Proofs.YtndefbkcondmcaaDoor
