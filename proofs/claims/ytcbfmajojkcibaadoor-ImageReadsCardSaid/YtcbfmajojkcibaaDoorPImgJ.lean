/- image: how many things in a row are read, one by one. No condition. -/
import Derived.Test.YtcbfmajojkcibaaDoorPImgI
namespace Go.Proofs.YtcbfmajojkcibaaDoor
open Go Go.RowKit

/-- .. behind what has been read. -/
def appD {α : Type} (d : List α) : Option (List α × List UInt8) → Option (List α × List UInt8)
  | none => none
  | some (l, r) => some (d ++ l, r)
theorem appD_nil {α : Type} (x : Option (List α × List UInt8)) : appD [] x = x := by
  cases x with
  | none => rfl
  | some y => obtain ⟨l, r⟩ := y; rfl
theorem many_none {α : Type} {f : List UInt8 → Option (α × List UInt8)} {l : List UInt8} (h : f l = none) (n : Nat) (hn : 0 < n) (d : List α) : appD d (manyR f n l) = none := by
  obtain ⟨m, rfl⟩ : ∃ m, n = m + 1 := ⟨n - 1, by omega⟩
  rw [manyR, h]; rfl
theorem many_some {α : Type} {f : List UInt8 → Option (α × List UInt8)} {l r : List UInt8} {a : α} (h : f l = some (a, r)) (n : Nat) (hn : 0 < n) (d : List α) : appD d (manyR f n l) = appD (d ++ [a]) (manyR f (n - 1) r) := by
  obtain ⟨m, rfl⟩ : ∃ m, n = m + 1 := ⟨n - 1, by omega⟩
  rw [manyR, h, Nat.add_sub_cancel]
  dsimp only
  cases manyR f m r with
  | none => rfl
  | some y => obtain ⟨l, r⟩ := y; simp [appD]
theorem many_end {α : Type} (f : List UInt8 → Option (α × List UInt8)) (l : List UInt8) (d : List α) : appD d (manyR f 0 l) = some (d, l) := by simp [manyR, appD]
theorem seq_none1 {α β : Type} {f : List UInt8 → Option (α × List UInt8)} {g : α → List UInt8 → Option (β × List UInt8)} {l : List UInt8} (h : f l = none) : seqR f g l = none := by unfold seqR; rw [h]
theorem seq_none2 {α β : Type} {f : List UInt8 → Option (α × List UInt8)} {g : α → List UInt8 → Option (β × List UInt8)} {l r : List UInt8} {a : α} (h : f l = some (a, r)) (h2 : g a r = none) : seqR f g l = none := by unfold seqR; rw [h]; dsimp only; rw [h2]
theorem seq_some {α β : Type} {f : List UInt8 → Option (α × List UInt8)} {g : α → List UInt8 → Option (β × List UInt8)} {l r r2 : List UInt8} {a : α} {b : β} (h : f l = some (a, r)) (h2 : g a r = some (b, r2)) : seqR f g l = some ((a, b), r2) := by unfold seqR; rw [h]; dsimp only; rw [h2]
theorem i_none {most : Nat} {l : List UInt8} (h : numR most l = none) : iR most l = none := by unfold iR mapR; rw [h]
theorem i_some {most m : Nat} {l r : List UInt8} (h : numR most l = some (m, r)) : iR most l = some ((m : Int), r) := by unfold iR mapR; rw [h]
theorem d_none {most : Nat} {l : List UInt8} (h : numR most l = none) : dR most l = none := by unfold dR mapR; rw [h]
theorem d_some {most m : Nat} {l r : List UInt8} (h : numR most l = some (m, r)) : dR most l = some ((m : Int) - 1, r) := by unfold dR mapR; rw [h]
theorem tx_len {l s r : List UInt8} (h : txR l = some (s, r)) : s.length ≤ 32 := (cod_tx.2 _ _ _ h).2
theorem num_le {l r : List UInt8} {most m : Nat} (h : numR most l = some (m, r)) : m ≤ most := (var_numR h).2
theorem list_none {α : Type} {most : Nat} {f : List UInt8 → Option (α × List UInt8)} {l : List UInt8} (h : numR most l = none) : listR most f l = none := by unfold listR; rw [h]
theorem list_some {α : Type} {most n : Nat} {f : List UInt8 → Option (α × List UInt8)} {l r : List UInt8} (h : numR most l = some (n, r)) : listR most f l = manyR f n r := by unfold listR; rw [h]

theorem rc_none {kk dd cc : Nat} {l : List UInt8} (h : seqR (listR 16 modeR) (fun _ => seqR (listR 200 (ruleR kk dd)) (fun _ => seqR (iR 256) (fun _ => seqR (manyR (iR cc) 256) (fun _ => seqR (listR 600 stateR) (fun _ => listR 262144 slotR))))) l = none) : rcR kk dd cc l = none := by unfold rcR mapR; rw [h]
theorem rc_some {kk dd cc : Nat} {l r : List UInt8} {a : List (List UInt8 × Int)} {b : List (List UInt8 × ((Int × Int) × List (Int × Int)))} {n : Int} {d : List Int} {e : List (Int × (Int × Int))} {f : List (Int × Int)}
    (h : seqR (listR 16 modeR) (fun _ => seqR (listR 200 (ruleR kk dd)) (fun _ => seqR (iR 256) (fun _ => seqR (manyR (iR cc) 256) (fun _ => seqR (listR 600 stateR) (fun _ => listR 262144 slotR))))) l = some ((a, (b, (n, (d, (e, f))))), r)) : rcR kk dd cc l = some (⟨a, b, n, d, e, f⟩, r) := by unfold rcR mapR; rw [h]

/-! The rows' growth, list by list. -/
section
variable (t : Tb) (v : TbV) (ex : List RwE) (u : Value)
theorem rows_modes (s : List UInt8) : rowsOf { t with modes := t.modes ++ [s] } { v with modes := u } ++ ex = (rowsOf t v ++ ex).set 0 ⟨u, 9, 1, t.modes.length + 1, t.modes.map vS ++ [vS s]⟩ := by simp [rowsOf]
theorem rows_labels (s : List UInt8) : rowsOf { t with labels := t.labels ++ [s] } { v with labels := u } ++ ex = (rowsOf t v ++ ex).set 1 ⟨u, 9, 1, t.labels.length + 1, t.labels.map vS ++ [vS s]⟩ := by simp [rowsOf]
theorem rows_cuts (s : Int × Int) : rowsOf { t with cuts := t.cuts ++ [s] } { v with cuts := u } ++ ex = (rowsOf t v ++ ex).set 2 ⟨u, 58, 2, t.cuts.length + 1, t.cuts.flatMap prC ++ [.int .i64 s.1, .int .i64 s.2]⟩ := by simp [rowsOf, prC]
theorem rows_acts (l : List (Int × Int)) (x : Value) (h : v.rows.length = t.acts.length) : rowsOf { t with acts := t.acts ++ [l] } { v with acts := u, rows := v.rows ++ [x] } ++ [] = (rowsOf t v ++ [(⟨x, 61, 2, l.length, l.flatMap prC⟩ : RwE)]).set 3 ⟨u, 59, 1, t.acts.length + 1, v.rows ++ [x]⟩ := by
  simp [rowsOf, actRows_snoc _ _ l x h]
theorem rows_classes (s : Int) : rowsOf { t with classes := t.classes ++ [s] } { v with classes := u } ++ ex = (rowsOf t v ++ ex).set 4 ⟨u, 3, 1, t.classes.length + 1, t.classes.map vI ++ [.int .i64 s]⟩ := by simp [rowsOf, vI]
theorem rows_starts (s : Int) : rowsOf { t with starts := t.starts ++ [s] } { v with starts := u } ++ ex = (rowsOf t v ++ ex).set 5 ⟨u, 3, 1, t.starts.length + 1, t.starts.map vI ++ [.int .i64 s]⟩ := by simp [rowsOf, vI]
theorem rows_label (s : Int) : rowsOf { t with label := t.label ++ [s] } { v with label := u } ++ ex = (rowsOf t v ++ ex).set 6 ⟨u, 3, 1, t.label.length + 1, t.label.map vI ++ [.int .i64 s]⟩ := by simp [rowsOf, vI]
theorem rows_base (s : Int) : rowsOf { t with base := t.base ++ [s] } { v with base := u } ++ ex = (rowsOf t v ++ ex).set 7 ⟨u, 3, 1, t.base.length + 1, t.base.map vI ++ [.int .i64 s]⟩ := by simp [rowsOf, vI]
theorem rows_dflt (s : Int) : rowsOf { t with dflt := t.dflt ++ [s] } { v with dflt := u } ++ ex = (rowsOf t v ++ ex).set 8 ⟨u, 3, 1, t.dflt.length + 1, t.dflt.map vI ++ [.int .i64 s]⟩ := by simp [rowsOf, vI]
theorem rows_next (s : Int) : rowsOf { t with next := t.next ++ [s] } { v with next := u } ++ ex = (rowsOf t v ++ ex).set 9 ⟨u, 3, 1, t.next.length + 1, t.next.map vI ++ [.int .i64 s]⟩ := by simp [rowsOf, vI]
theorem rows_check (s : Int) : rowsOf { t with check := t.check ++ [s] } { v with check := u } ++ ex = (rowsOf t v ++ ex).set 10 ⟨u, 3, 1, t.check.length + 1, t.check.map vI ++ [.int .i64 s]⟩ := by simp [rowsOf, vI]
theorem rows_count (n : Int) : rowsOf { t with count := n } v = rowsOf t v := rfl
end
set_option maxRecDepth 100000 in
theorem info_int : (Tryd.prog.info? 3).map (fun i => (i.zero, i.size, i.bytes)) = some (some (.int .i64 0), 1, 8) := by kernel_rfl
set_option maxRecDepth 100000 in
theorem info_string : (Tryd.prog.info? 9).map (fun i => (i.zero, i.size, i.bytes)) = some (some (.string { data := #[] }), 1, 16) := by kernel_rfl
set_option maxRecDepth 100000 in
theorem info_cut : (Tryd.prog.info? 58).map (fun i => (i.zero, i.size, i.bytes)) = some (some (.agg #[.int .i64 0, .int .i64 0]), 2, 16) := by kernel_rfl
set_option maxRecDepth 100000 in
theorem info_step : (Tryd.prog.info? 61).map (fun i => (i.zero, i.size, i.bytes)) = some (some (.agg #[.int .i64 0, .int .i64 0]), 2, 16) := by kernel_rfl
set_option maxRecDepth 100000 in
theorem info_steps : (Tryd.prog.info? 59).map (fun i => (i.zero, i.size, i.bytes)) = some (some (.slice none 0 0), 1, 24) := by kernel_rfl

end Go.Proofs.YtcbfmajojkcibaaDoor
