/- Three sets, as they are handed in. No condition. -/
import Derived.Test.YtambkpgcccjhmaaDoorFrame
namespace Go.Proofs.YtambkpgcccjhmaaDoor
open Go Go.ChangeShapes Go.WideShapes Go.ChangeAt Go.RowKit

theorem cells_three : Tryd.prog.cellsOf 26 = 12 := by kernel_rfl

/-- Three sets, as they are handed in. -/
theorem three_form {H : Type} {enc : TypeId × Value → H} {w : World} {r : Reach} {b0 base : Nat} {spare : Nat → Bool} {held : Bool} {v : Value} {d : DataW H} {p : List MemPlace}
    (hv : Value.okWide Tryd.prog w r b0 26 v) (h : DataW.Trod enc Tryd.prog w base spare held 26 v d p) :
    ∃ A B C : BitVec 256, v = .agg #[.int .u64 (wd A 0), .int .u64 (wd A 1), .int .u64 (wd A 2), .int .u64 (wd A 3), .int .u64 (wd B 0), .int .u64 (wd B 1), .int .u64 (wd B 2), .int .u64 (wd B 3), .int .u64 (wd C 0), .int .u64 (wd C 1), .int .u64 (wd C 2), .int .u64 (wd C 3)] := by
  obtain ⟨cs, rfl, hsz⟩ := okWide_struct Tryd.underlying26 hv
  rw [cells_three] at hsz
  obtain ⟨fuel, hf⟩ := h
  obtain ⟨y0, y1, y2, n, _, _, h0, h1, h2⟩ := Go.Deep.trod_struct3 Tryd.underlying26 hf
  obtain ⟨l⟩ := cs
  simp only [Value.cells, cells_set] at h0 h1 h2
  obtain ⟨A, eA⟩ := trod_set h0
  obtain ⟨B, eB⟩ := trod_set h1
  obtain ⟨C, eC⟩ := trod_set h2
  simp only [List.size_toArray] at hsz
  match l, hsz with
  | [c0, c1, c2, c3, c4, c5, c6, c7, c8, c9, c10, c11], _ =>
    simp at eA eB eC
    obtain ⟨rfl, rfl, rfl, rfl⟩ := eA
    obtain ⟨rfl, rfl, rfl, rfl⟩ := eB
    obtain ⟨rfl, rfl, rfl, rfl⟩ := eC
    exact ⟨A, B, C, rfl⟩

end Go.Proofs.YtambkpgcccjhmaaDoor
