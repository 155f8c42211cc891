/- errors.New: an error of nobody's. No condition. -/
import Derived.Test.YtndefbkcondmcaaDoorPTellG
namespace Go.Proofs.YtndefbkcondmcaaDoor
open Go Go.RowKit

set_option maxRecDepth 100000 in
theorem new_any (t : List UInt8) (w : World) : Calls Tryd.prog 22 #[.string (st t)] w fun e w' => e = .returned (.iface 82 (.pointer (some ⟨w.heap.size, 0, none⟩))) ∧ boxAt w' w.heap.size [.string (st t)] ∧ (Er.leaf ⟨w.heap.size, 0, none⟩).In w' ∧ Gr w w' := by
  go_enter Tryd.func22, Tryd.ntmps22
  go_wp2_with fail
  go_ret
  exact ⟨rfl, boxAt.new _ _ rfl, ⟨#[.string (st t)], 84, heap_alloc_new w _⟩, Gr.alloc _ _⟩

end Go.Proofs.YtndefbkcondmcaaDoor
