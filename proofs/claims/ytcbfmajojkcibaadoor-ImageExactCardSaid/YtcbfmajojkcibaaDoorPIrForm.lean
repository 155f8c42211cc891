/- bolterlaw17: what ImageExact is handed: tables in a row. No condition. -/
import Derived.Test.YtcbfmajojkcibaaDoorPIrX
namespace Go.Proofs.YtcbfmajojkcibaaDoor
open Go Go.ChangeShapes Go.WideShapes Go.ChangeAt Go.RowKit

theorem TbRd.cp {w : World} {t : Tb} {v : TbV} (h : TbRd w t v) : TbCp w t v := by
  obtain ⟨a0, a1, a2, a3, a4, a5, a6, a7, a8, a9, a10⟩ := h.nil
  obtain ⟨b0, b1, b2, b3, b4, b5, b6, b7, b8, b9, b10⟩ := h.reach
  exact ⟨h.tb, h.len, ⟨a0, by omega⟩, ⟨a1, by omega⟩, ⟨a2, by omega⟩, by omega, h.rnil, fun a ha => by have := h.areach a ha; omega, ⟨a4, by omega⟩, ⟨a5, by omega⟩, ⟨a6, by omega⟩, ⟨a7, by omega⟩, ⟨a8, by omega⟩, ⟨a9, by omega⟩, ⟨a10, by omega⟩⟩
instance : Inhabited Tb := ⟨⟨[], [], [], [], [], 0, [], [], [], [], [], []⟩⟩
instance : Inhabited TbV := ⟨⟨.bool true, .bool true, .bool true, .bool true, [], .bool true, .bool true, .bool true, .bool true, .bool true, .bool true, .bool true⟩⟩
set_option maxRecDepth 100000 in
theorem cards_form {H : Type} {enc : TypeId × Value → H} {w : World} {r : Reach} {b0 base : Nat} {spare : Nat → Bool} {held : Bool} {v : Value} {d : DataW H} {p : List MemPlace}
    (hv : Value.okWide Tryd.prog w r b0 22 v) (h : DataW.Trod enc Tryd.prog w base spare held 22 v d p) (hw : Reached Tryd.prog 22 d) :
    ∃ ts : List (Tb × TbV), Sl w v 12 ts.length (ts.flatMap cardC) ∧ ∀ x ∈ ts, TbCp w x.1 x.2 ∧ FitB x.1 := by
  obtain ⟨fuel, hf0⟩ := h
  obtain ⟨a0, n0, c0, rfl⟩ := okWide_slice Tryd.underlying22 hv
  obtain ⟨v', l, e6, hs, hq, _⟩ := slice_readF (f := cardC) (Q := fun x => TbRd w x.1 x.2) Tryd.underlying22 cells_tablesT (by omega) cardC_len (fun n' cs x _ h hw => by
    obtain ⟨t, tv, e, hT⟩ := tables_read h hw
    exact ⟨(t, tv), e, hT⟩) hf0 hw
  obtain rfl : Value.slice a0 n0 c0 = v' := by simpa [Value.cells] using e6
  exact ⟨l, hs, fun x hx => ⟨(hq x hx).cp, (hq x hx).fit⟩⟩

end Go.Proofs.YtcbfmajojkcibaaDoor
