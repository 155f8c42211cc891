/- What cut of length tells, and its inner function. No condition but bounds. -/
import Derived.Test.YtpcmgkohebihmaaDoorLenOf
namespace Go.Proofs.YtpcmgkohebihmaaDoor
open Go Go.RowKit

def oneL (z : Le) : Bool := z.none || (z.least == z.most)
set_option maxRecDepth 100000 in
set_option maxHeartbeats 2000000 in
theorem cut1_any (z : Le) (w : World) : Calls Tryd.prog 48 #[.agg #[.bool z.none, .int .i64 z.least, .int .i64 z.most]] w fun e' w' => e' = .returned (.bool (oneL z)) ∧ Gr w w' := by
  obtain ⟨zn, zl, zm⟩ := z
  dsimp only
  obtain ⟨b, hb⟩ : ∃ b, (zl == zm) = b := ⟨_, rfl⟩
  have HB := Lib.hid hb
  go_enter Tryd.func48, Tryd.ntmps48
  cases zn
  · go_wp2_with fail
    go_ret
    exact ⟨ret_bool (by unfold oneL; rw [HB.out]; rfl), Gr.alloc _ _⟩
  · go_wp2_with fail
    go_ret
    exact ⟨ret_bool rfl, Gr.alloc _ _⟩

/-- Where a token ends, of a rule with a trail: its kind and n, or none. -/
def cutRes (h t : Le) : Option (Int × Int) :=
  if h.none = false ∧ h.least = 0 then none else if oneL t then some (1, t.least) else if oneL h = false then none else if h.none then some (2, 1) else some (2, h.least)
def cutVal (r : Option (Int × Int)) : Value := match r with
  | none => .tuple #[.agg #[.int .i64 0, .int .i64 0], .bool false]
  | some (k, n) => .tuple #[.agg #[.int .i64 k, .int .i64 n], .bool true]

theorem cutRes_of {z y : Le} {b1 b2 b3 b4 : Bool} (h1 : z.none = b1) (h2 : (z.least == 0) = b2) (h3 : oneL y = b3) (h4 : oneL z = b4) :
    cutRes z y = if !b1 && b2 then none else if b3 then some (1, y.least) else if !b4 then none else if b1 then some (2, 1) else some (2, z.least) := by
  unfold cutRes
  subst h1 h2 h3 h4
  by_cases h : z.least = 0 <;> cases z.none <;> cases oneL y <;> cases oneL z <;> simp [h]
/-- A block laid behind W. -/
def NB (W w : World) (b : Nat) (vs : List Value) : Prop := boxAt w b vs ∧ W.heap.size ≤ b
theorem NB.later {W w w' : World} {b : Nat} {vs : List Value} (h : NB W w b vs) (hG : Gr w w') : NB W w' b vs := ⟨h.1.later hG, h.2⟩
theorem NB.put {W w : World} {b : Nat} {u0 u1 u2 : Value} (h : NB W w b [u0, u1, u2]) (v0 v1 v2 : Value) : NB W (((w.setCell ⟨b, 0, none⟩ v0).setCell ⟨b, 1, none⟩ v1).setCell ⟨b, 2, none⟩ v2) b [v0, v1, v2] :=
  ⟨((h.1.put 0 v0 (by simp)).put 1 v1 (by simp)).put 2 v2 (by simp), h.2⟩
theorem NB.far {W w : World} {b b' : Nat} {vs : List Value} (h : NB W w b vs) (hb : b' ≠ b) (v0 v1 v2 : Value) : NB W (((w.setCell ⟨b', 0, none⟩ v0).setCell ⟨b', 1, none⟩ v1).setCell ⟨b', 2, none⟩ v2) b vs :=
  ⟨((h.1.far _ v0 hb).far _ v1 hb).far _ v2 hb, h.2⟩

theorem NB.putE {W w w' : World} {b : Nat} {u0 u1 u2 : Value} (h : NB W w b [u0, u1, u2]) {v0 v1 v2 : Value} (e : w' = (((w.setCell ⟨b, 0, none⟩ v0).setCell ⟨b, 1, none⟩ v1).setCell ⟨b, 2, none⟩ v2)) : NB W w' b [v0, v1, v2] := e ▸ h.put v0 v1 v2
theorem NB.farE {W w w' : World} {b b' : Nat} {vs : List Value} (h : NB W w b vs) (hb : b' ≠ b) {v0 v1 v2 : Value} (e : w' = (((w.setCell ⟨b', 0, none⟩ v0).setCell ⟨b', 1, none⟩ v1).setCell ⟨b', 2, none⟩ v2)) : NB W w' b vs := e ▸ h.far hb v0 v1 v2
theorem NB.gr {W w w' : World} {b : Nat} {vs : List Value} (h : NB W w b vs) (hG : Gr W w) {v0 v1 v2 : Value} (e : w' = (((w.setCell ⟨b, 0, none⟩ v0).setCell ⟨b, 1, none⟩ v1).setCell ⟨b, 2, none⟩ v2)) : Gr W w' := e ▸ put3 hG h.2 v0 v1 v2

end Go.Proofs.YtpcmgkohebihmaaDoor
