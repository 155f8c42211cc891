/- LexLong of bolterlaw4 answers true. No condition but the errors' variables. -/
import Derived.Test.YtdjankfcmoblhabDoorPGi
import Derived.Test.YtdjankfcmoblhabDoorPGh
import Derived.Laws.OwnMore
namespace Go.Proofs.YtdjankfcmoblhabDoor
open Go Go.RowKit

theorem info_byte : (Tryd.prog.info? 5).map (fun i => (i.zero, i.size, i.bytes)) = some (some (.int .u8 0), 1, 1) := by kernel_rfl
theorem long_last (n : Nat) (hn : 0 < n) : ((lexF (List.replicate n 43) 0).1.flatMap tokC)[(n - 1) * 9 + 1]? = some (.int .i64 ((n - 1 : Nat) : Int)) := by
  rw [lex_plus]
  have hx : ((List.range n).map (fun i => (⟨5, 0 + i, 0 + i + 1, [43], 0, emptyS⟩ : Tok)))[n - 1]? = some ⟨5, 0 + (n - 1), 0 + (n - 1) + 1, [43], 0, emptyS⟩ := by
    rw [List.getElem?_map, List.getElem?_range (by omega)]; rfl
  rw [flatMap_get tokC 9 tokC_len _ (n - 1) 1 _ hx (by omega)]
  show some (Value.int .i64 ((0 + (n - 1) : Nat) : Int)) = _
  rw [Nat.zero_add]
theorem long_len (n : Nat) : (lexF (List.replicate n 43) 0).1.length = n ∧ (lexF (List.replicate n 43) 0).2 = none := by
  rw [lex_plus]; simp

set_option maxRecDepth 100000 in
set_option maxHeartbeats 8000000 in
theorem lexLong_any (s : Nat → Addr) (w : World) (hF : FaultsIn w s) (hm : ∃ m, w.cell? ⟨17, 0, none⟩ = some (.int .i64 m)) :
    Calls Tryd.prog 3 #[] w fun e w' => e = .returned (.bool true) ∧ Gr w w' := by
  have HS := Lib.hid (hF.sy0 hm)
  have HF := Lib.hid hF
  clear hF hm
  obtain ⟨i0, hi, hz0, hz1, hz2⟩ := info_parts info_byte
  obtain ⟨N, hN⟩ : ∃ N : Nat, 65536 = N := ⟨_, rfl⟩
  obtain ⟨W0, hmk, hown0, hgr⟩ := run_makeSlice_full (P := Tryd.prog) w w.heap.size 22 5 i0 (.int .u8 0) 1 Tryd.underlying22 hi hz0 hz1 .i64 .i64 N (by omega) (by rw [hz2]; omega) (by unfold maxLen; omega) (Nat.le_refl _)
  have hg0 : Gr w W0 := Gr.grown (Gr.refl w) hgr (fun k hk => by cases hk)
  have hmk2 : (Instr.makeSlice 22 (.int .i64 65536) (.int .i64 65536)).run Tryd.prog w = .ok (.slice (some ⟨w.heap.size, 0, none⟩) N N) W0 := by
    rw [show (65536 : Int) = (N : Int) by omega]; exact hmk
  have HN := Lib.hid hN
  have HO0 := Lib.hid hown0
  clear hmk hgr hi hz0 hz1 hz2 hN hown0 i0
  go_enter Tryd.func3, Tryd.ntmps3
  go_wp2_with fail
  go_loopw [2] (fun iv wr => ∃ (i : Nat) (xs : List Value), iv = .int .i64 (i : Int) ∧ i ≤ N ∧ wr.ownsRow w.heap.size 5 1 (.slice (some ⟨w.heap.size, 0, none⟩) N N) N xs ∧ Hid (∀ j, j < i → xs[j]? = some (vB 43)) ∧ Gr w wr) (fun iv _ => N - (intOf iv).toNat)
  case atStart => exact ⟨0, _, rfl, Nat.zero_le _, HO0.out, Lib.hid (fun j h => absurd h (Nat.not_lt_zero _)), hg0⟩
  case round =>
    obtain ⟨i, xs, rfl, hi, hown, hxs, hg⟩ := hrel
    have hxl : xs.length = N := by have := hown.1; omega
    by_cases hil : i < N
    · obtain ⟨u, hx⟩ : ∃ u, xs[i]? = some u := ⟨_, List.getElem?_eq_getElem (l := xs) (i := i) (by omega)⟩
      have c1 := owns_cell hown i _ hx
      have m1 := owns_mark hown i
      have hiI : (i : Int) < (N : Int) := by omega
      have hiw : IntKind.i64.wrap ((i : Int) + 1) = ((i + 1 : Nat) : Int) := by have := HN.out; rw [IntWalk.i64_in _ (by omega)]; omega
      have hlt := hg.size
      have hbz : w.heap.size < wr.heap.size := World.block_lt_of_cell? wr _ c1
      have HOW := Lib.hid hown
      have HLT := Lib.hid (show i < N ∧ xs.length = N from ⟨hil, hxl⟩)
      have HG := Lib.hid hg
      clear hown hxl hil hx hi hg hlt
      go_wp2_with fail
      go_roundw
      case rel =>
        refine ⟨i + 1, xs.set i (vB 43), by go_num, by have := HLT.out; omega, owns_set HOW.out i (by have := HLT.out; omega) _, Lib.hid (fun j hj => ?_), HG.out.setCell (p := ⟨w.heap.size, i, none⟩) (Nat.le_refl _) _⟩
        by_cases hji : j = i
        · subst hji; rw [List.getElem?_set_self (by have := HLT.out; omega)]
        · rw [List.getElem?_set_ne (Ne.symm hji)]; exact hxs.out j (by omega)
      case measure => have := HLT.out; simp [intOf]; omega
    · obtain rfl : i = N := by omega
      have hl1 := long_last i (by have := HN.out; omega)
      obtain ⟨hl2, hl3⟩ := long_len i
      have hlL := fun (W : World) (hW : Gr w W) => lex_any (List.replicate i 43) _ _ W (by have := HN.out; simp; omega) (HS.out.later hW)
      obtain ⟨X, hX⟩ : ∃ X, lexF (List.replicate i 43) 0 = X := ⟨_, rfl⟩
      rw [hX] at hl1 hl2 hl3 hlL
      obtain ⟨L, er⟩ := X
      simp only at hl1 hl2 hl3
      subst hl3
      obtain ⟨l, hl⟩ : ∃ l : List UInt8, List.replicate i 43 = l := ⟨_, rfl⟩
      rw [hl] at hlL
      have hll : l.length = i := by rw [← hl]; simp
      have hconv : ∀ W, Gr wr W → (convert 22 9 (.slice (some ⟨w.heap.size, 0, none⟩) i i)).run Tryd.prog W = .ok (.string (st l)) W := fun W hW => conv_bytes W _ _ _ _ _ _ l Tryd.underlying22 Tryd.underlying5 Tryd.underlying9 hll (fun j v hj => by
        have hjl : j < i := by have := (List.getElem?_eq_some_iff.1 hj).1; simp at this; omega
        have hv : v = vB 43 := by
          rw [← hl, List.getElem?_map, List.getElem?_replicate, if_pos hjl] at hj
          simpa using hj.symm
        subst hv
        have := hW.cell (owns_cell hown j _ (hxs.out j hjl))
        rw [addr_add0]; exact this)
      have hcat := fun w' => run_cat (P := Tryd.prog) w' l [32] (by have := HN.out; simp; omega)
      have e32 : st [32] = { data := #[32] } := rfl
      rw [e32] at hcat
      obtain ⟨l2, hl2'⟩ : ∃ x, l ++ [32] = x := ⟨_, rfl⟩
      rw [hl2'] at hcat
      have hlong : (65536 : Int) < (l2.length : Int) := by have := HN.out; rw [← hl2']; simp; omega
      have HLL := Lib.hid (fun (W : World) (hW : Gr w W) => lex_too_long l2 _ W hlong ((HF.out.later hW).var 2 (by omega) (by omega)))
      have HLEX := Lib.hid hlL
      have HCONV := Lib.hid hconv
      have HL1 := Lib.hid hl1
      have hc0 := hconv wr (Gr.refl _)
      clear hl1 hlL hX hl hll hl2' hlong hconv e32 hi hxl hil hown hxs
      have hiN : 65536 = i := HN.out
      subst hiN
      go_wp2_with fail
      go_at_call 4
      refine (HLEX.out _ hg).mono ?_
      rintro e w2 hans
      obtain ⟨hg2, p2, cap2, err2, rfl, hown2, herr2⟩ := hans.parts
      simp only at hown2 herr2
      obtain rfl : err2 = .nilIface := herr2
      rw [hl2]
      rw [hl2] at hown2
      have hc2 := HCONV.out w2 hg2
      have hgw := hg.trans hg2
      clear hans hc0
      go_wp2_with fail
      go_at_call 4
      refine (HLL.out _ hgw).mono ?_
      rintro e w3 ⟨rfl, hg3⟩
      obtain ⟨g2, capg, hv2, _, hg2l, _⟩ := owns_block hown2 (by omega)
      injection hv2 with hp2 _ hcp
      subst hp2 hcp
      have cl := hg3.cell (owns_cell hown2 ((65536 - 1) * 9 + 1) _ HL1.out)
      simp only [Nat.reduceSub, Nat.reduceMul, Nat.reduceAdd, Int.cast_ofNat_Int] at cl
      have hg23 := hgw.trans hg3
      have HSame := Lib.hid (fun (W : World) (hW : Gr w3 W) => same_err 140 (.pointer (some (s 2))) 2 0 0 0 W (by decide) (fun W' hW' => tell_any (HF.out.later ((hg23.trans hW).trans hW')) (.leaf (s 2)) ((HF.out.later ((hg23.trans hW).trans hW')).leaf 2 (by omega) (by omega)) trivial 2 (by omega) (by omega) rfl rfl))
      have HWk := Lib.hid (fun (W : World) (hW : Gr w3 W) => wakes4_any _ _ W (HS.out.later (hg23.trans hW)))
      clear hown2 hc2 HL1 HCONV HLEX HLL
      go_wp2_with first
        | (go_at_call 5; (with_reducible refine (HSame.out _ (Gr.refl _)).mono ?_); rintro e w5 ⟨rfl, hg5⟩)
        | (go_at_call 6; (with_reducible refine (HWk.out _ hg5).mono ?_); rintro e w6 ⟨rfl, hg6⟩)
      go_ret
      exact ⟨rfl, (hg23.trans hg5).trans hg6⟩

end Go.Proofs.YtdjankfcmoblhabDoor
