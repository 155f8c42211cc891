/- ClassNames of bolterlaw3, walked: it answers true. No condition but the errors' variables. -/
import Derived.Test.YtihjmeoklbmnmabDoorPBackR
import Derived.Test.YtihjmeoklbmnmabDoorPTellErr
import Derived.Test.YtihjmeoklbmnmabDoorPGe
import Derived.Test.YtihjmeoklbmnmabDoorPGb
import Derived.Test.YtihjmeoklbmnmabDoorPGa
import Derived.Deep.CutBlock
import Derived.Deep.DeepCutAuto
namespace Go.Proofs.YtihjmeoklbmnmabDoor
open Go Go.RowKit

/-- The names, and how many bytes their sets have. -/
def nmL : List (List UInt8 × Nat) := [([100, 105, 103, 105, 116], 10), ([108, 111, 119, 101, 114], 26), ([117, 112, 112, 101, 114], 26), ([97, 108, 112, 104, 97], 52), ([97, 108, 110, 117, 109], 62), ([119, 111, 114, 100], 63), ([120, 100, 105, 103, 105, 116], 22), ([98, 108, 97, 110, 107], 2), ([115, 112, 97, 99, 101], 6), ([112, 117, 110, 99, 116], 32), ([112, 114, 105, 110, 116], 95), ([99, 110, 116, 114, 108], 33), ([97, 110, 121], 256)]
def setK (n : List UInt8) : BitVec 256 := (namedS n).getD emptyS
def Rd.isBad : Rd → Bool
  | .bad false _ => true
  | _ => false
theorem Rd.of_isBad : ∀ {x : Rd}, x.isBad = true → ∃ r, x = .bad false r
  | .bad false r, _ => ⟨r, rfl⟩
  | .bad true r, h => by cases h
  | .ok _ _, h => by cases h
theorem names_all : nmL.all (fun x => (parseP ([91, 91, 58] ++ x.1 ++ [58, 93, 93]) 0).isOk (setK x.1) [] && decide (card (setK x.1) = x.2) && (parseP ([91, 91, 58] ++ x.1 ++ [93]) 0).isBad && decide (x.1.length ≤ 6)) = true := by decide +kernel
theorem names_at {n : List UInt8} {c k : Nat} (h : nmL[k]? = some (n, c)) : parseP ([91, 91, 58] ++ n ++ [58, 93, 93]) 0 = .ok (setK n) [] ∧ card (setK n) = c ∧ (∃ r, parseP ([91, 91, 58] ++ n ++ [93]) 0 = .bad false r) ∧ n.length ≤ 6 := by
  have := List.all_eq_true.1 names_all _ (List.mem_of_getElem? h)
  simp only [Bool.and_eq_true, decide_eq_true_eq] at this
  exact ⟨Rd.of_isOk this.1.1.1, this.1.1.2, Rd.of_isBad this.1.2, this.2⟩
theorem print_is : parseP [91, 91, 58, 112, 114, 105, 110, 116, 58, 93, 45, 45, 91, 91, 58, 97, 108, 110, 117, 109, 58, 93, 32, 93, 93] 0 = .ok (setK [112, 117, 110, 99, 116]) [] := Rd.of_isOk (by decide +kernel)
theorem punct_is : parseP [91, 91, 58, 112, 117, 110, 99, 116, 58, 93, 93] 0 = .ok (setK [112, 117, 110, 99, 116]) [] := Rd.of_isOk (by decide +kernel)

set_option maxRecDepth 100000 in
set_option maxHeartbeats 8000000 in
theorem classNames_any (s : Nat → Addr) (w : World) (hF : FaultsIn w s) (hm : ∃ m, w.cell? ⟨17, 0, none⟩ = some (.int .i64 m)) :
    Calls Tryd.prog 5 #[] w fun e w' => e = .returned (.bool true) ∧ Gr w w' := by
  have HS := Lib.hid (hF.sy0 hm)
  have HF := Lib.hid hF
  clear hF hm
  go_enter Tryd.func5, Tryd.ntmps5
  go_upto_block 0 with fail
  refine name_world (fun W hW => ?_)
  obtain ⟨xn, xc, hgW, hsz⟩ : boxAt W w.heap.size (nmL.map fun x => Value.string (st x.1)) ∧ boxAt W (w.heap.size + 1) (nmL.map fun x => Value.int .i64 (x.2 : Int)) ∧ Gr w W ∧ W.heap.size = w.heap.size + 2 := by
    subst hW; exact boxes2 _ _ _ _ _
  clear hW hsz
  have HXN := Lib.hid xn
  have HXC := Lib.hid xc
  clear xn xc
  go_wp2_with fail
  go_loopw [3] (fun i wr => ∃ k : Nat, k ≤ 13 ∧ i = .int .i64 (k : Int) ∧ Gr W wr) (fun i _ => 13 - (intOf i).toNat)
  case atStart => exact ⟨0, by omega, rfl, Gr.refl _⟩
  case round =>
    obtain ⟨k, hk, rfl, hg⟩ := hrel
    by_cases hlt : k < 13
    rotate_left
    · obtain rfl : k = 13 := by omega
      clear hlt hk
      obtain ⟨S, hS⟩ : ∃ S, setK [112, 117, 110, 99, 116] = S := ⟨_, rfl⟩
      have p1 := print_is
      have p2 := punct_is
      rw [hS] at p1 p2
      have P1 : Hid (∀ w', Sy0 w' (esV s 3) (esV s 4) → Calls Tryd.prog 10 #[.string { data := #[91, 91, 58, 112, 114, 105, 110, 116, 58, 93, 45, 45, 91, 91, 58, 97, 108, 110, 117, 109, 58, 93, 32, 93, 93] }, .int .i64 0] w' fun e w2 => e = .returned (.tuple #[.agg #[.int .u64 (wd S 0), .int .u64 (wd S 1), .int .u64 (wd S 2), .int .u64 (wd S 3)], .int .i64 25, .nilIface]) ∧ Gr w' w2) := fun w' h => parse_at _ 0 S [] (esV s 3) (esV s 4) w' (by decide) h p1 25 rfl
      have P2 : Hid (∀ w', Sy0 w' (esV s 3) (esV s 4) → Calls Tryd.prog 10 #[.string { data := #[91, 91, 58, 112, 117, 110, 99, 116, 58, 93, 93] }, .int .i64 0] w' fun e w2 => e = .returned (.tuple #[.agg #[.int .u64 (wd S 0), .int .u64 (wd S 1), .int .u64 (wd S 2), .int .u64 (wd S 3)], .int .i64 11, .nilIface]) ∧ Gr w' w2) := fun w' h => parse_at _ 0 S [] (esV s 3) (esV s 4) w' (by decide) h p2 11 rfl
      clear p1 p2 hS
      have hg0 := hgW.trans hg
      go_wp2_with fail
      go_at_call 10
      refine (P1.out wr (HS.out.later hg0)).mono ?_; rintro e w1 ⟨rfl, g1⟩
      go_wp2_with fail
      go_at_call 10
      refine name_calls (fun W1 hW => ?_)
      have xs := boxAt.new (w := w1) (W := W1) [.int .u64 (wd S 0), .int .u64 (wd S 1), .int .u64 (wd S 2), .int .u64 (wd S 3)] _ hW
      have h1 : Gr w1 W1 := by rw [hW]; exact Gr.alloc _ _
      replace g1 := g1.trans h1
      clear hW h1
      refine (P2.out W1 (HS.out.later (hg0.trans g1))).mono ?_; rintro e w2 ⟨rfl, g2⟩
      replace xs := xs.later g2
      replace g1 := g1.trans g2
      clear g2
      have c_s0 := xs.cell 0 _ rfl
      have c_s1 := xs.cell 1 _ rfl
      have c_s2 := xs.cell 2 _ rfl
      have c_s3 := xs.cell 3 _ rfl
      have m_s0 := xs.mark 0 _ rfl
      have m_s1 := xs.mark 1 _ rfl
      have m_s2 := xs.mark 2 _ rfl
      have m_s3 := xs.mark 3 _ rfl
      have l_s := xs.lt (Nat.succ_pos _)
      go_wp2_with fail
      go_at_call 9
      refine name_calls (fun W2 hW => ?_)
      have h2 : Gr w2 W2 := by rw [hW]; exact Gr.alloc _ _
      clear hW
      refine (wakes_any _ _ _ (HS.out.later ((hg0.trans g1).trans h2))).mono ?_; rintro e w5 ⟨rfl, hb⟩
      go_wp2_with fail
      go_ret
      exact ⟨rfl, ((hg0.trans g1).trans h2).trans hb⟩
    have hkI : (k : Int) < 13 := by omega
    obtain ⟨⟨n, c⟩, hnk⟩ : ∃ x, nmL[k]? = some x := ⟨_, List.getElem?_eq_getElem (by exact hlt)⟩
    obtain ⟨q1, q2, ⟨r, q3⟩, q4⟩ := names_at hnk
    have cn := hg.cell (HXN.out.cell k (.string (st n)) (by rw [List.getElem?_map, hnk]; rfl))
    have cc := hg.cell (HXC.out.cell k (.int .i64 (c : Int)) (by rw [List.getElem?_map, hnk]; rfl))
    have ln := World.block_lt_of_cell? _ _ cn
    have lc := World.block_lt_of_cell? _ _ cc
    simp only at ln lc
    obtain ⟨S, hS⟩ : ∃ S, setK n = S := ⟨_, rfl⟩
    rw [hS] at q1 q2
    have HCT : Hid (∀ w', Calls Tryd.prog 12 #[.agg #[.int .u64 (wd S 0), .int .u64 (wd S 1), .int .u64 (wd S 2), .int .u64 (wd S 3)]] w' fun e w2 => e = .returned (.int .i64 (c : Int)) ∧ Gr w' w2) := fun w' => by rw [← q2]; exact count_any S w'
    obtain ⟨u1, hu1⟩ : ∃ x, [91, 91, 58] ++ n = x := ⟨_, rfl⟩
    obtain ⟨u2, hu2⟩ : ∃ x, u1 ++ [58, 93, 93] = x := ⟨_, rfl⟩
    obtain ⟨v2, hv2⟩ : ∃ x, u1 ++ [93] = x := ⟨_, rfl⟩
    rw [hu1, hu2] at q1
    rw [hu1, hv2] at q3
    have l1 : u1.length = n.length + 3 := by rw [← hu1, List.length_append]; simp; omega
    have l2 : u2.length = n.length + 6 := by rw [← hu2, List.length_append, l1]; rfl
    have l3 : v2.length = n.length + 4 := by rw [← hv2, List.length_append, l1]; rfl
    have c1 := cat_is (P := Tryd.prog) { data := #[91, 91, 58] } (st n) (st u1) [91, 91, 58] n rfl rfl (by rw [hu1]) (by simp; omega)
    have c2 := cat_is (P := Tryd.prog) (st u1) { data := #[58, 93, 93] } (st u2) u1 [58, 93, 93] rfl rfl (by rw [hu2]) (by rw [l1]; simp; omega)
    have c3 := cat_is (P := Tryd.prog) (st u1) { data := #[93] } (st v2) u1 [93] rfl rfl (by rw [hv2]) (by rw [l1]; simp; omega)
    have zn := st_size n
    obtain ⟨m, hm⟩ : ∃ m, n.length + 6 = m := ⟨_, rfl⟩
    have hwm : IntKind.i64.wrap ((n.length : Int) + 6) = (m : Int) := by rw [IntWalk.i64_in _ (by omega)]; omega
    have P1 := Lib.hid (fun w' h => parse_at u2 0 S [] (esV s 3) (esV s 4) w' (by omega) h q1 (m : Int) (by rw [l2, hm]; rfl))
    have P2 : Hid (∀ w', Gr w w' → Calls Tryd.prog 10 #[.string (st v2), .int .i64 0] w' fun e w2 => Gr w' w2 ∧ ∃ er, e = .returned (.tuple #[.agg #[.int .u64 (wd emptyS 0), .int .u64 (wd emptyS 1), .int .u64 (wd emptyS 2), .int .u64 (wd emptyS 3)], .int .i64 0, er]) ∧ ErrIn s w2 (some (false, v2.length - r.length)) er) := fun w' hw => by
      have := parse_any v2 0 (esV s 3) (esV s 4) w' (by omega) (HS.out.later hw)
      rw [q3] at this
      refine this.mono ?_
      rintro e w2 ⟨hg, er, rfl, hr⟩
      exact ⟨hg, er, rfl, ErrIn.refused (d := false) hr⟩
    obtain ⟨k1, hk1⟩ : ∃ x, k + 1 = x := ⟨_, rfl⟩
    have hw1 : IntKind.i64.wrap ((k : Int) + 1) = (k1 : Int) := by rw [IntWalk.i64_in _ (by omega)]; omega
    have HK1 := Lib.hid (show k + 1 = k1 ∧ k < 13 from ⟨hk1, hlt⟩)
    obtain ⟨nn, hnn⟩ : ∃ x, n.length = x := ⟨_, rfl⟩
    rw [hnn] at hwm zn
    clear hlt hk hnk q1 q2 q3 q4 hS hu1 hu2 hv2 l1 l2 l3 hm hk1 hnn
    have hg0 := hgW.trans hg
    go_wp2_with fail
    go_at_call 10
    refine (P1.out wr (HS.out.later hg0)).mono ?_; rintro e w1 ⟨rfl, g1⟩
    replace cn := g1.cell cn
    replace cc := g1.cell cc
    replace ln := World.block_lt_of_cell? _ _ cn
    replace lc := World.block_lt_of_cell? _ _ cc
    simp only at ln lc
    go_upto_region 7 with fail
    refine name_world (fun W1 hW => ?_)
    have xs := boxAt.new (w := w1) (W := W1) [.int .u64 (wd S 0), .int .u64 (wd S 1), .int .u64 (wd S 2), .int .u64 (wd S 3)] _ hW
    have h1 : Gr w1 W1 := by rw [hW]; exact Gr.alloc _ _
    replace g1 := g1.trans h1
    replace cn := h1.cell cn
    replace cc := h1.cell cc
    replace ln := World.block_lt_of_cell? _ _ cn
    replace lc := World.block_lt_of_cell? _ _ cc
    simp only at ln lc
    clear hW h1
    have c_s0 := xs.cell 0 _ rfl
    have c_s1 := xs.cell 1 _ rfl
    have c_s2 := xs.cell 2 _ rfl
    have c_s3 := xs.cell 3 _ rfl
    have m_s0 := xs.mark 0 _ rfl
    have m_s1 := xs.mark 1 _ rfl
    have m_s2 := xs.mark 2 _ rfl
    have m_s3 := xs.mark 3 _ rfl
    have l_s := xs.lt (Nat.succ_pos _)
    refine wp_region_G (.take 0 (.take 1 (.take 2 (.take 3 (.take 4 (.take 5 (.take 6 (.take 7 (.take 8 (.take 9 (.take 10 (.take 11 (.take 12 (.take 13 (.take 15 (.take 16 (.take 17 (.take 18 (.run 14 false (.take 19 (.take 20 .nil))))))))))))))))))))) (by kernel_rfl) (by kernel_rfl) ?_
    simp only [pickOps, nthOp]
    intro wq hG
    repeat (first | (refine wpG_skip_take ?_ ?_; (focus rfl); try simp only [Act.put, List.setIfInBounds_toArray, List.set_cons_zero, List.set_cons_succ]) | (refine wpG_skip_run ?_ ?_; (focus rfl); try simp only [Act.put, List.setIfInBounds_toArray, List.set_cons_zero, List.set_cons_succ]) | (refine wpG_take ?_ ?_; (focus rfl); apply Exists.intro; refine ⟨fun w' hw' => ?_, ?_⟩; (focus (have hc := Gr.cells hw'; go_simp; (try rfl); done)); try simp only [Act.put, List.setIfInBounds_toArray, List.set_cons_zero, List.set_cons_succ]) | (refine wpG_run ?_ (fun K hK => ?_); (focus rfl); go_simp; (first | (go_at_call 12; (with_reducible refine (HCT.out _).mono ?_); rintro e wn ⟨rfl, hb⟩)); (try dsimp only); replace hG := hG.trans hb; refine hK.out _ _ hG ?_; clear hK K hb; try simp only [Act.put, List.setIfInBounds_toArray, List.set_cons_zero, List.set_cons_succ]))
    refine wpG_done ?_
    replace g1 := g1.trans hG
    replace cn := hG.cell cn
    replace ln := World.block_lt_of_cell? _ _ cn
    simp only at ln
    clear hG xs cc lc
    clear c_s0 c_s1 c_s2 c_s3 m_s0 m_s1 m_s2 m_s3 l_s
    go_wp2_with fail
    go_at_call 10
    refine (P2.out _ (hg0.trans g1)).mono ?_; rintro e w3 ⟨g2, er, rfl, hin⟩
    have HIN := Lib.hid hin
    clear hin cn ln
    go_wp2_with fail
    go_at_call 13
    refine (kitCode_lex (HF.out.later ((hg0.trans g1).trans g2)) (some (false, v2.length - r.length)) er HIN.out).mono ?_; rintro e w4 ⟨rfl, g3⟩
    have e3 : (codeO (some (false, v2.length - r.length)) : Int) = 3 := rfl
    rw [e3]
    clear e3
    go_wp2_with fail
    go_roundw
    case rel => exact ⟨k1, by have := HK1.out; omega, rfl, hg.trans ((g1.trans g2).trans g3)⟩
    case measure => have := HK1.out; simp [intOf]; omega

end Go.Proofs.YtihjmeoklbmnmabDoor
