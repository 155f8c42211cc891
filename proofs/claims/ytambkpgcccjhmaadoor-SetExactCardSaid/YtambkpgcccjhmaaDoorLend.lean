/- bolterkit.Lend, Back, Over. No condition but that what is lent takes no more than the platform's reach. -/
import Derived.Test.YtambkpgcccjhmaaDoorKit
import Derived.Laws.OwnMore
import Derived.OwnWalk
namespace Go.Proofs.YtambkpgcccjhmaaDoor
open Go Go.RowKit

/-- Bytes in a row of their own, seven marks behind them. -/
def Lent (l : List UInt8) (w : World) (e : Ending) (w' : World) : Prop :=
  ∃ g cap, e = .returned (.slice (some ⟨g, 0, none⟩) l.length cap) ∧ w'.ownsRow w.heap.size 5 1 (.slice (some ⟨g, 0, none⟩) (l.length + 7) cap) (l.length + 7) (l.map vB ++ List.replicate 7 (.int .u8 165)) ∧ Gr w w'

theorem repl_snoc (k : Nat) (v : Value) : List.replicate k v ++ [v] = List.replicate (k + 1) v := (List.replicate_succ' ..).symm

set_option maxRecDepth 100000 in
set_option maxHeartbeats 2000000 in
theorem lend_any (l : List UInt8) (ao : Option Addr) (c : Nat) (w : World) (hn : l.length ≤ 140737488351232) (hnone : ao = none → l.length = 0 ∧ c = 0) (hlt : ∀ ad, ao = some ad → l.length ≠ 0 → ad.block < w.heap.size)
    (hc : ∀ ad, ao = some ad → ∀ (j : Nat) (u : Value), (l.map vB)[j]? = some u → w.cell? (ad.add j) = some u) :
    Calls Tryd.prog 17 #[.slice ao l.length c] w (Lent l w) := by
  obtain ⟨i0, hi, hz0, hz1, hz2⟩ := info_parts info_u8
  have en : IntKind.i64.wrap ((l.length : Int) + 7) = (l.length : Int) + 7 := IntWalk.i64_in _ (by omega)
  have hmk : ∀ w : World, (Instr.makeSlice 32 (.int .i64 0) (.int .i64 ((l.length : Int) + 7))).run Tryd.prog w = .ok (.slice (some ⟨w.heap.size, 0, none⟩) 0 (l.length + 7)) (w.alloc (.cells (madeCells #[.int .u8 0] (l.length + 7)) 5)) := fun w => by
    have := run_make (P := Tryd.prog) w 32 5 i0 (.int .u8 0) Tryd.underlying32 hi hz0 .i64 .i64 0 ((l.length : Int) + 7) (by omega) (by omega) (by rw [hz2]; omega) (by omega)
    rw [this, hz1]
    have h1 : ((l.length : Int) + 7).toNat = l.length + 7 := by omega
    rw [h1, Nat.mul_one]; rfl
  have hml : l.length + 7 ≤ maxLen := by unfold maxLen; omega
  have HC := Lib.hid hc
  have HN := Lib.hid hnone
  have HLT := Lib.hid hlt
  clear hc hnone hlt
  go_enter Tryd.func17, Tryd.ntmps17
  go_wp2_with (at_builtin; refine wpList_append_fits_any _ rfl (.tmp 9) (.tmp 10) 32 rfl w.heap.size 5 i0 1 Tryd.underlying32 hi hz1 w.heap.size 0 (l.length + 7) [] rfl (World.ownsRow_made w (madeCells #[.int .u8 0] (l.length + 7)) (l.length + 7) (Nat.le_refl _) hml (by rw [size_madeCells, Nat.mul_one])) ao l.length c (l.map vB) rfl (by rw [List.length_map, Nat.mul_one]) HN.out ?c1 ?c2 (by omega) ?_)
  case c1 =>
    intro ad had j u hj
    exact (Gr.alloc w _).cell (HC.out ad had j u hj)
  case c2 => intro u hu; obtain ⟨x, _, rfl⟩ := List.mem_map.1 hu; rfl
  intro w1 hown hgrow
  have hg : Gr w w1 := Gr.grown (Gr.alloc w _) hgrow (fun k hk => by injection hk with hk; omega)
  have hsz : w.heap.size < w1.heap.size := (World.ownsRow.lt hown _ rfl).2
  clear hgrow hmk en
  go_wp2_with fail
  go_loopw [3, 4] (fun v i wr => ∃ k : Nat, k ≤ 7 ∧ i = .int .i64 (k : Int) ∧ v = .slice (some ⟨w.heap.size, 0, none⟩) (l.length + k) (l.length + 7) ∧ wr.ownsRow w.heap.size 5 1 (.slice (some ⟨w.heap.size, 0, none⟩) (l.length + k) (l.length + 7)) (l.length + k) (l.map vB ++ List.replicate k (.int .u8 165)) ∧ Gr w wr) (fun _ i _ => 7 - (intOf i).toNat)
  case atStart => exact ⟨0, by omega, rfl, rfl, by simpa using hown, hg⟩
  case round =>
    obtain ⟨k, hk, rfl, rfl, hownk, hgk⟩ := hrel
    clear hown hg hsz
    by_cases hlt : k < 7
    · have hkI : (k : Int) < 7 := by omega
      have HK := Lib.hid hlt
      clear hlt hk
      go_wp2_with (at_builtin; refine wpList_append_fits _ rfl (.tmp 16) (.tmp 17) 32 rfl w.heap.size 5 i0 1 Tryd.underlying32 hi hz1 w.heap.size (l.length + k) (l.length + 7) _ rfl (hownk.alloc _) ⟨wr.heap.size, 0, none⟩ 1 1 [.int .u8 165] rfl rfl ?c1 ?c2 (by have := HK.out; omega) ?_)
      case c1 => exact new1_cell _ _ _
      case c2 => exact one_one _
      intro w2 hown2 hgrow2
      have hg2 : Gr w w2 := Gr.grown (hgk.trans (Gr.alloc _ _)) hgrow2 (fun k hk => by injection hk with hk; omega)
      rw [repl_snoc] at hown2
      clear hgrow2 hownk hgk
      go_wp2_with fail
      go_roundw
      case rel => exact ⟨k + 1, by have := HK.out; omega, by go_num, rfl, hown2, hg2⟩
      case measure => have := HK.out; simp [intOf]; omega
    · obtain rfl : k = 7 := by omega
      clear hlt hk
      have h1 : (l.length : Int) ≤ (l.length + 7 : Nat) := by omega
      go_wp2_with fail
      go_ret
      exact ⟨w.heap.size, l.length + 7, rfl, hownk, hgk⟩

end Go.Proofs.YtambkpgcccjhmaaDoor
