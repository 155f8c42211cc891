/- The frame of a law: what its statement asks, from a contract that says: it answers true, and all that was there is as it was. No condition. -/
import Derived.Test.YtihjmeoklbmnmaaDoorRows
import Derived.Test.YtihjmeoklbmnmaaDoorMem
import Derived.Test.YtihjmeoklbmnmaaDoorSet
import Derived.ProofKit
import Derived.Lib.SmallJoins
import Derived.OpenShut
import Derived.Deep.Strs
namespace Go.Proofs.YtihjmeoklbmnmaaDoor
open Go Go.ChangeShapes Go.WideShapes Go.ChangeAt Go.RowKit

theorem own_knob : ownKnob Tryd.prog.godebug = none := by kernel_rfl
theorem laid_out : laidOutB Tryd.prog = true := by kernel_rfl

section
variable {H : Type} {enc : TypeId × Value → H}

theorem trodAll_later {W W' : World} (hb : Gr W W') : ∀ (ts : List TypeId) (vs : List Value) (ds : List (DataW H)) (p : List MemPlace), (∀ t ∈ ts, (Tryd.prog.readableRec t && decide (t < Tryd.prog.types.size)) = true) →
    (∀ x ∈ p, x.block < W.heap.size) → DataW.TrodAll enc Tryd.prog W 0 (fun _ => true) true ts vs ds p → DataW.TrodAll enc Tryd.prog W' 0 (fun b => decide (b < W.heap.size)) true ts vs ds p
  | [], vs, ds, p, _, _, h => by
    obtain ⟨rfl, rfl, rfl⟩ := trodAll_nil h
    exact trodAll_mk0
  | t :: ts, vs, ds, p, hr, hlt, h => by
    obtain ⟨v, vs', d, ds', p', q', rfl, rfl, rfl, h0, r0⟩ := trodAll_cons h
    have ht := hr t (by simp)
    simp only [Bool.and_eq_true, decide_eq_true_eq] at ht
    exact trodAll_cons_mk (Below.trod laid_out ht.1 ht.2 h0 hb (fun x hx => hlt x (by simp [hx])))
      (trodAll_later hb ts vs' ds' q' (fun u hu => hr u (by simp [hu])) (fun x hx => hlt x (by simp [hx])) r0)

/-- A law's post: of a law that names no variable. -/
theorem law_post {f : Func} {s : ChangeSpec} {W W' : World} {args : Array Value} {ds gs : List (DataW H)} {before : List MemPlace}
    (hW : DataW.Whole enc Tryd.prog f.params.toList s.vars false W args.toList ds gs before) (hg : Gr W W') (hvars : s.vars = []) (hr : (f.params.toList.all fun t => Tryd.prog.readableRec t && decide (t < Tryd.prog.types.size)) = true)
    (hres : f.resultTypes = #[4]) (hspec : s.fn H (ds ++ gs) = { results := [.lit (.bool true)], args := ds }) :
    s.post enc Tryd.prog f false true false false W args (.bool true) W' := by
  have hlt := hW.lt
  obtain ⟨p, q, hA, hV, hpq, hfz, hnd⟩ := id hW
  have hV' : gs = [] ∧ q = [] := by rw [hvars] at hV; exact trodVars_none hV
  obtain ⟨rfl, rfl⟩ := hV'
  refine ⟨ds, [], before, [], p, [], hW, ?_, ?_, ?_, ?_, fun h => by cases h⟩
  · rw [hspec, hres]
    exact trodAll_mk1 (shut_bool Tryd.underlying4 _)
  · rw [hspec]
    exact trodAll_later hg _ _ _ _ (fun t ht => List.all_eq_true.1 hr t ht) (fun x hx => hlt x (by rw [hpq]; simp [hx])) hA
  · rw [hvars, hspec]; rfl
  · exact Below.frame hg _

theorem list4 {α : Type} : ∀ (l : List α), l.length = 4 → ∃ c0 c1 c2 c3, l = [c0, c1, c2, c3]
  | [c0, c1, c2, c3], _ => ⟨c0, c1, c2, c3, rfl⟩
theorem cells_u64 : Tryd.prog.cellsOf 27 = 1 := by kernel_rfl
theorem cells_set : Tryd.prog.cellsOf 29 = 4 := by kernel_rfl
theorem bounds64 {n : Int} (h : (Lit.int .u64 n).wf = true) : 0 ≤ n ∧ n < 18446744073709551616 := by
  simp [Lit.wf, IntKind.min, IntKind.max, IntKind.signed, IntKind.bits] at h; omega
/-- A set among the cells that are read. -/
theorem trod_set {w : World} {base : Nat} {spare : Nat → Bool} {held : Bool} {fuel : Nat} {cs : List Value} {x : DataW H × List MemPlace} (h : DataW.trod enc Tryd.prog w base spare held fuel 29 cs = some x) :
    ∃ s : BitVec 256, cs = [.int .u64 (wd s 0), .int .u64 (wd s 1), .int .u64 (wd s 2), .int .u64 (wd s 3)] := by
  obtain ⟨_, _, _, _, hl, _, _⟩ := DataW.trod_array Tryd.underlying29 h
  rw [cells_set] at hl
  obtain ⟨c0, c1, c2, c3, rfl⟩ := list4 cs hl
  obtain ⟨y0, y1, y2, y3, n, _, h0, h1, h2, h3⟩ := trod_array4 Tryd.underlying29 cells_u64 h
  obtain ⟨a0, e0, _, w0⟩ := DataW.trod_int Tryd.underlying27 h0
  obtain ⟨a1, e1, _, w1⟩ := DataW.trod_int Tryd.underlying27 h1
  obtain ⟨a2, e2, _, w2⟩ := DataW.trod_int Tryd.underlying27 h2
  obtain ⟨a3, e3, _, w3⟩ := DataW.trod_int Tryd.underlying27 h3
  simp only [List.cons.injEq, and_true] at e0 e1 e2 e3
  subst e0 e1 e2 e3
  obtain ⟨s, r0, r1, r2, r3⟩ := wd_make a0 a1 a2 a3 (bounds64 w0) (bounds64 w1) (bounds64 w2) (bounds64 w3)
  exact ⟨s, by rw [r0, r1, r2, r3]⟩

end
end Go.Proofs.YtihjmeoklbmnmaaDoor
