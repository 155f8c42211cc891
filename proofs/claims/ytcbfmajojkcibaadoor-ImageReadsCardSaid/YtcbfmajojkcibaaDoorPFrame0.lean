/- The frame of a law: what its statement asks, from a contract that says: it answers true, and all that was there is as it was. No condition. -/
import Derived.Test.YtcbfmajojkcibaaDoorRows
import Derived.Test.YtcbfmajojkcibaaDoorPGa
import Derived.ProofKit
import Derived.Lib.SmallJoins
import Derived.OpenShut
import Derived.Deep.Strs
namespace Go.Proofs.YtcbfmajojkcibaaDoor
open Go Go.ChangeShapes Go.WideShapes Go.ChangeAt Go.RowKit

theorem own_knob : ownKnob Tryd.prog.godebug = none := by kernel_rfl
theorem laid_out : laidOutB Tryd.prog = true := by kernel_rfl

section
variable {H : Type} {enc : TypeId × Value → H}

theorem trodAll_later {W W' : World} (hb : Gr W W') : ∀ (ts : List TypeId) (vs : List Value) (ds : List (DataW H)) (p : List MemPlace), (∀ t ∈ ts, (Tryd.prog.readableRec t && decide (t < Tryd.prog.types.size)) = true) →
    (∀ x ∈ p, x.block < W.heap.size) → DataW.TrodAll enc Tryd.prog W 0 (fun _ => true) true ts vs ds p → DataW.TrodAll enc Tryd.prog W' 0 (fun b => decide (b < W.heap.size)) true ts vs ds p
  | [], vs, ds, p, _, _, h => by
    obtain ⟨rfl, rfl, rfl⟩ := trodAll_nil h
    exact trodAll_mk0
  | t :: ts, vs, ds, p, hr, hlt, h => by
    obtain ⟨v, vs', d, ds', p', q', rfl, rfl, rfl, h0, r0⟩ := trodAll_cons h
    have ht := hr t (by simp)
    simp only [Bool.and_eq_true, decide_eq_true_eq] at ht
    exact trodAll_cons_mk (Below.trod laid_out ht.1 ht.2 h0 hb (fun x hx => hlt x (by simp [hx])))
      (trodAll_later hb ts vs' ds' q' (fun u hu => hr u (by simp [hu])) (fun x hx => hlt x (by simp [hx])) r0)

/-- A law's post: of a law that names no variable. -/
theorem law_post {f : Func} {s : ChangeSpec} {W W' : World} {args : Array Value} {ds gs : List (DataW H)} {before : List MemPlace}
    (hW : DataW.Whole enc Tryd.prog f.params.toList s.vars false W args.toList ds gs before) (hg : Gr W W') (hvars : s.vars = []) (hr : (f.params.toList.all fun t => Tryd.prog.readableRec t && decide (t < Tryd.prog.types.size)) = true)
    (hres : f.resultTypes = #[4]) (hspec : s.fn H (ds ++ gs) = { results := [.lit (.bool true)], args := ds }) :
    s.post enc Tryd.prog f false true false false W args (.bool true) W' := by
  have hlt := hW.lt
  obtain ⟨p, q, hA, hV, hpq, hfz, hnd⟩ := id hW
  have hV' : gs = [] ∧ q = [] := by rw [hvars] at hV; exact trodVars_none hV
  obtain ⟨rfl, rfl⟩ := hV'
  refine ⟨ds, [], before, [], p, [], hW, ?_, ?_, ?_, ?_, fun h => by cases h⟩
  · rw [hspec, hres]
    exact trodAll_mk1 (shut_bool Tryd.underlying4 _)
  · rw [hspec]
    exact trodAll_later hg _ _ _ _ (fun t ht => List.all_eq_true.1 hr t ht) (fun x hx => hlt x (by rw [hpq]; simp [hx])) hA
  · rw [hvars, hspec]; rfl
  · exact Below.frame hg _


end
end Go.Proofs.YtcbfmajojkcibaaDoor
