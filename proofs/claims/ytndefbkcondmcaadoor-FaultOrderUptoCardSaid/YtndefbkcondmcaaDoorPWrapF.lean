/- The wrappers of fault: of an error, of none. A bound of the names. -/
import Derived.Test.YtndefbkcondmcaaDoorPTellH
import Derived.Test.YtndefbkcondmcaaDoorPSaysP
import Derived.Test.YtndefbkcondmcaaDoorPAppend0
namespace Go.Proofs.YtndefbkcondmcaaDoor
open Go Go.RowKit

set_option maxRecDepth 100000 in
theorem placeF_any (t : TypeId) (x : Value) (i : Int) (w : World) : Calls Tryd.prog 29 #[.iface t x, .int .i64 i] w fun e' w' => e' = .returned (.iface 54 (.pointer (some ⟨w.heap.size, 0, none⟩))) ∧ boxAt w' w.heap.size [.iface t x, .int .i64 i] ∧ Gr w w' := by
  go_enter Tryd.func29, Tryd.ntmps29
  go_wp2_with fail
  go_ret
  exact ⟨rfl, boxAt.new _ _ rfl, Gr.alloc _ _⟩
set_option maxRecDepth 100000 in
theorem inRule_any (t : TypeId) (x : Value) (i : Int) (w : World) : Calls Tryd.prog 34 #[.iface t x, .int .i64 i] w fun e' w' => e' = .returned (.iface 64 (.pointer (some ⟨w.heap.size, 0, none⟩))) ∧ boxAt w' w.heap.size [.iface t x, .int .i64 i] ∧ Gr w w' := by
  go_enter Tryd.func34, Tryd.ntmps34
  go_wp2_with fail
  go_ret
  exact ⟨rfl, boxAt.new _ _ rfl, Gr.alloc _ _⟩
set_option maxRecDepth 100000 in
theorem inStage_any (t : TypeId) (x : Value) (i : Int) (w : World) : Calls Tryd.prog 28 #[.iface t x, .int .i64 i] w fun e' w' => e' = .returned (.iface 68 (.pointer (some ⟨w.heap.size, 0, none⟩))) ∧ boxAt w' w.heap.size [.iface t x, .int .i64 i] ∧ Gr w w' := by
  go_enter Tryd.func28, Tryd.ntmps28
  go_wp2_with fail
  go_ret
  exact ⟨rfl, boxAt.new _ _ rfl, Gr.alloc _ _⟩
set_option maxRecDepth 100000 in
theorem nil_Place (i : Int) (w : World) : Calls Tryd.prog 29 #[.nilIface, .int .i64 i] w fun e' w' => e' = .returned .nilIface ∧ Gr w w' := by
  go_enter Tryd.func29, Tryd.ntmps29
  go_wp2_with fail
  go_ret
  exact ⟨rfl, Gr.refl _⟩
set_option maxRecDepth 100000 in
theorem nil_InRule (i : Int) (w : World) : Calls Tryd.prog 34 #[.nilIface, .int .i64 i] w fun e' w' => e' = .returned .nilIface ∧ Gr w w' := by
  go_enter Tryd.func34, Tryd.ntmps34
  go_wp2_with fail
  go_ret
  exact ⟨rfl, Gr.refl _⟩
set_option maxRecDepth 100000 in
theorem nil_InStage (i : Int) (w : World) : Calls Tryd.prog 28 #[.nilIface, .int .i64 i] w fun e' w' => e' = .returned .nilIface ∧ Gr w w' := by
  go_enter Tryd.func28, Tryd.ntmps28
  go_wp2_with fail
  go_ret
  exact ⟨rfl, Gr.refl _⟩

set_option maxRecDepth 100000 in
theorem nil_Named (v : Value) (w : World) : Calls Tryd.prog 33 #[.nilIface, v] w fun e' w' => e' = .returned .nilIface ∧ Gr w w' := by
  go_enter Tryd.func33, Tryd.ntmps33
  go_wp2_with fail
  go_ret
  exact ⟨rfl, Gr.refl _⟩
set_option maxRecDepth 100000 in
set_option maxHeartbeats 1000000 in
/-- Names are the error's own. -/
theorem named_any (t : TypeId) (x v : Value) (ns : List (List UInt8)) (w : World) (h : Sl w v 1 ns.length (ns.map vS)) (hb : ns.length * 16 ≤ 140737488355328) :
    Calls Tryd.prog 33 #[.iface t x, v] w fun e' w' => ∃ (b : Nat) (nv : Value), e' = .returned (.iface 59 (.pointer (some ⟨b, 0, none⟩))) ∧ w.heap.size ≤ b ∧ boxAt w' b [.iface t x, nv] ∧ w'.ownsRow w.heap.size 9 1 nv ns.length (ns.map vS) ∧ Gr w w' := by
  have HC := Lib.hid (clone_any v ns w h hb)
  obtain ⟨p, c, rfl⟩ := h.len
  clear h hb
  go_enter Tryd.func33, Tryd.ntmps33
  go_wp2_with fail
  go_at_call 25
  refine HC.out.mono ?_; rintro e w1 ⟨nv, rfl, hnv, hg⟩
  obtain ⟨p1, c1, hp1⟩ := (Sl.of_owns hnv).len
  have HNV := Lib.hid hnv
  clear hnv
  subst hp1
  go_wp2_with fail
  go_ret
  exact ⟨_, _, rfl, hg.size, boxAt.new _ _ rfl, owns_later HNV.out (Gr.alloc _ _), hg.trans (Gr.alloc _ _)⟩
set_option maxRecDepth 100000 in
theorem info_str : (Tryd.prog.info? 9).map (fun i => (i.zero, i.size, i.bytes)) = some (some (.string ByteArray.empty), 1, 16) := by kernel_rfl
set_option maxRecDepth 100000 in
set_option maxHeartbeats 1000000 in
theorem copyTexts_any (v : Value) (ns : List (List UInt8)) (w : World) (h : Sl w v 1 ns.length (ns.map vS)) (hz : Nily v) (hb : ns.length * 16 ≤ 140737488355328) :
    Calls Tryd.prog 32 #[v] w fun e w' => ∃ v', e = .returned v' ∧ w'.ownsRow w.heap.size 9 1 v' ns.length (ns.map vS) ∧ Gr w w' := by
  obtain ⟨i0, hi, hz0, hz1, hz2⟩ := info_parts info_str
  obtain ⟨ao, c, rfl, hnone, hsome⟩ := src_of h hz
  have h1 := h.2.1
  clear h hz
  go_enter Tryd.func32, Tryd.ntmps32
  go_wp2_with (at_builtin; refine wpList_append_own_any rfl (.tmp 4) (.tmp 5) 31 rfl w.heap.size 9 i0 (.string ByteArray.empty) 1 16 Tryd.underlying31 hi hz0 hz1 hz2 rfl (by decide) _ 0 [] rfl (World.ownsRow_nil _ _ _ _) ao ns.length c (ns.map vS) rfl (by rw [List.length_map, Nat.mul_one]) hnone hsome ?c1 ?c2 ?c3 (Nat.le_refl _) ?_)
  case c1 => intro u hu; obtain ⟨x, _, rfl⟩ := List.mem_map.1 hu; rfl
  case c2 => rw [Nat.zero_add]; exact h1
  case c3 => rw [Nat.zero_add]; exact hb
  intro v' w' hown hg _
  go_wp2
  go_ret
  refine ⟨v', rfl, ?_, Gr.grown (Gr.refl _) hg (fun k hk => by cases hk)⟩
  simpa using hown

end Go.Proofs.YtndefbkcondmcaaDoor
