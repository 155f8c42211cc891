/- What Resolve's refusals tell. No condition but the errors' variables. -/
import Derived.Test.YtkkopdmemjncdaaGreatDoorPNmY
import Derived.Test.YtkkopdmemjncdaaGreatDoorPHg
import Derived.Test.YtkkopdmemjncdaaGreatDoorPGh
import Derived.Test.YtkkopdmemjncdaaGreatDoorPEqL
namespace Go.Proofs.YtkkopdmemjncdaaGreatDoor
open Go Go.RowKit

/-- The error of a code. -/
def esN (s : Nat → Addr) (k : Nat) : Value := .iface 220 (.pointer (some (s k)))
theorem vS_one (x : ByteArray) : [Value.string x] = [x.data.toList].map vS := by
  show [Value.string x] = [vS x.data.toList]
  unfold vS; rw [← st_of]
theorem vS_map {α : Type} (f : α → ByteArray) (l : List α) : (l.map fun i => Value.string (f i)) = (l.map fun i => (f i).data.toList).map vS := by
  rw [List.map_map]
  have e : (vS ∘ fun i => (f i).data.toList) = fun i => Value.string (f i) := funext fun i => by
    show vS _ = _
    unfold vS; rw [← st_of]
  rw [e]
theorem tell_bad {w : World} {s : Nat → Addr} (hF : FaultsIn w s) {X : List Nat} {v : Value} {x : Nt} (h : BadV w X (esN s 6) v x) :
    Calls Tryz.prog 28 #[v] w fun e w' => ∃ nv, e = .returned (.agg #[.int .i64 6, .int .i64 0, .int .i64 0, .int .i64 x.2, nv]) ∧ w'.ownsRow w.heap.size 9 1 nv 1 [.string x.1] ∧ Gr w w' := by
  obtain ⟨b1, b2, nv, rfl, hb2, hb1, ⟨B, hown⟩, _⟩ := h
  have hin : (Er.wrap .named b2 nv (.wrap .placed b1 (.int .i64 x.2) (.leaf (s 6)))).In w := ⟨hb2.cell 0 _ rfl, hb2.cell 1 _ rfl, hb1.cell 0 _ rfl, hb1.cell 1 _ rfl, hF.leaf 6 (by omega) (by omega)⟩
  have hok : (Er.wrap .named b2 nv (.wrap .placed b1 (.int .i64 x.2) (.leaf (s 6)))).ok := ⟨fun h => absurd rfl h, fun _ => ⟨_, rfl⟩, trivial⟩
  have hns : NamesOf w (Er.wrap .named b2 nv (.wrap .placed b1 (.int .i64 x.2) (.leaf (s 6)))) [x.1.data.toList] := by
    show ∃ y, _
    refine ⟨nv, hb2.cell 1 _ rfl, ?_, by simp⟩
    rw [← vS_one]
    exact Sl.of_owns hown
  refine (tell_gen hF _ hin hok _ hns 6 (fun W' hg => code_any (hF.later hg) _ (hin.later hg) 6 (by omega) (by omega) rfl)).mono ?_
  rintro e w' ⟨hg, nv', rfl, hown'⟩
  exact ⟨nv', rfl, by rw [← vS_one] at hown'; exact hown', hg⟩
theorem tell_cyc {w : World} {s : Nat → Addr} (hF : FaultsIn w s) {b : Nat} {nv : Value} (hb : boxAt w b [esN s 7, nv]) {α : Type} (f : α → ByteArray) (l : List α) (hown : ∃ B, w.ownsRow B 9 1 nv l.length (l.map fun i => .string (f i))) (hl : l.length ≤ 1048576) :
    Calls Tryz.prog 28 #[.iface 119 (.pointer (some ⟨b, 0, none⟩))] w fun e w' => ∃ nv, e = .returned (.agg #[.int .i64 7, .int .i64 0, .int .i64 0, .int .i64 0, nv]) ∧ w'.ownsRow w.heap.size 9 1 nv l.length (l.map fun i => .string (f i)) ∧ Gr w w' := by
  obtain ⟨B, hown⟩ := hown
  have hin : (Er.wrap .named b nv (.leaf (s 7))).In w := ⟨hb.cell 0 _ rfl, hb.cell 1 _ rfl, hF.leaf 7 (by omega) (by omega)⟩
  have hok : (Er.wrap .named b nv (.leaf (s 7))).ok := ⟨fun h => absurd rfl h, trivial⟩
  have hns : NamesOf w (Er.wrap .named b nv (.leaf (s 7))) (l.map fun i => (f i).data.toList) := by
    show ∃ y, _
    refine ⟨nv, hb.cell 1 _ rfl, ?_, by rw [List.length_map]; omega⟩
    rw [← vS_map, List.length_map]
    exact Sl.of_owns hown
  refine (tell_gen hF _ hin hok _ hns 7 (fun W' hg => code_any (hF.later hg) _ (hin.later hg) 7 (by omega) (by omega) rfl)).mono ?_
  rintro e w' ⟨hg, nv', rfl, hown'⟩
  exact ⟨nv', rfl, by rw [← vS_map, List.length_map] at hown'; exact hown', hg⟩
theorem tell_arg {w : World} {s : Nat → Addr} (hF : FaultsIn w s) : Calls Tryz.prog 28 #[esN s 15] w fun e w' => e = .returned (.agg #[.int .i64 15, .int .i64 0, .int .i64 0, .int .i64 0, .slice none 0 0]) ∧ Gr w w' :=
  tell_any hF (.leaf (s 15)) (hF.leaf 15 (by omega) (by omega)) trivial 15 (by omega) (by omega) rfl rfl
theorem faults_glo {w : World} {s : Nat → Addr} (hF : FaultsIn w s) : w.cell? ⟨0, 0, none⟩ = some (esN s 15) ∧ w.cell? ⟨3, 0, none⟩ = some (esN s 6) ∧ w.cell? ⟨1, 0, none⟩ = some (esN s 7) :=
  ⟨hF.var 15 (by omega) (by omega), hF.var 6 (by omega) (by omega), hF.var 7 (by omega) (by omega)⟩

end Go.Proofs.YtkkopdmemjncdaaGreatDoor
