/- ClassAlgebra of bolterlaw3, walked: it answers true. No condition but the errors' variables. Printed by gen_algebra.py. -/
import Derived.Test.YtihjmeoklbmnmaaDoorAlgP
import Derived.Deep.DeepCutAuto
namespace Go.Proofs.YtihjmeoklbmnmaaDoor
open Go Go.RowKit

theorem slice_tail {P : Program} (w : World) (t : TypeId) (l : List UInt8) (x : UInt8) (n : Nat) (ht : P.underlying t = some .string) (hn : l.length = n) :
    (Instr.slice t (.string (st (x :: (l ++ [93])))) (some (.int .i64 1)) (some (.int .i64 ((n : Int) + 1))) none).run P w = .ok (.string (st l)) w := by
  have h := run_slice_string (P := P) w t (st (x :: (l ++ [93]))) .i64 .i64 1 ((n : Int) + 1) ht (by omega) (by omega) (by rw [st_size]; simp; omega)
  rw [show ((n : Int) + 1).toNat = n + 1 by omega, show (1 : Int).toNat = 1 by rfl, st_extract, show n + 1 - 1 = n by omega] at h
  rw [h]
  simp only [List.drop_succ_cons, List.drop_zero]
  rw [List.take_append_of_le_length (by omega), List.take_of_length_le (by omega)]
theorem slice_from1 {P : Program} (w : World) (t : TypeId) (l : List UInt8) (x : UInt8) (ht : P.underlying t = some .string) :
    (Instr.slice t (.string (st (x :: l))) (some (.int .i64 1)) none none).run P w = .ok (.string (st l)) w := by
  have h := run_from (P := P) w t (x :: l) 1 .i64 ht (by simp)
  exact h
theorem newA (w : World) : boxAt (w.alloc (.cells #[.int .u64 0, .int .u64 0, .int .u64 0, .int .u64 0] 29)) w.heap.size [.int .u64 0, .int .u64 0, .int .u64 0, .int .u64 0] := boxAt.new _ _ rfl
theorem newD (w : World) : boxAt (w.alloc (.cells #[.int .u64 0, .int .u64 0, .int .u64 0, .int .u64 0] 29)).drew w.heap.size [.int .u64 0, .int .u64 0, .int .u64 0, .int .u64 0] := (newA w).later (Gr.drew _)
theorem parse_ok (t : List UInt8) (s : BitVec 256) (es ed : Value) (w : World) (hT : (t.length : Int) ≤ 4294967280) (hS : Sy0 w es ed) (h : parseP t 0 = .ok s []) :
    Calls Tryd.prog 13 #[.string (st t), .int .i64 0] w fun e w' => e = .returned (.tuple #[.agg #[.int .u64 (wd s 0), .int .u64 (wd s 1), .int .u64 (wd s 2), .int .u64 (wd s 3)], .int .i64 (t.length : Int), .nilIface]) ∧ Gr w w' := by
  have := parse_any t 0 es ed w hT hS
  rw [h] at this
  refine this.mono ?_
  rintro e w' ⟨hg, rfl⟩
  exact ⟨rfl, hg⟩

set_option maxRecDepth 100000 in
set_option maxHeartbeats 16000000 in
theorem classAlgebra_any (ls : List (BitVec 256)) (p : Option Addr) (c0 : Nat) (es ed : Value) (w : World) (hs : Sl w (.slice p ls.length c0) 4 ls.length (ls.flatMap setCells)) (hS : Sy0 w es ed) :
    Calls Tryd.prog 4 #[.slice p ls.length c0] w fun e w' => e = .returned (.bool true) ∧ Gr w w' := by
  have HS := Lib.hid hS
  have HSS := Lib.hid hs
  clear hS hs
  go_enter Tryd.func4, Tryd.ntmps4
  go_wp2_with fail
  go_loopw [3] (fun i wr => ∃ k : Nat, 2 ≤ k ∧ k ≤ 20 ∧ i = .int .i64 k ∧ Gr w wr) (fun i _ => ls.length - (intOf i).toNat)
  case atStart => exact ⟨2, by omega, by omega, rfl, Gr.refl _⟩
  case round =>
    obtain ⟨k, hk2, hk20, rfl, hg⟩ := hrel
    by_cases hlt : k < ls.length ∧ k < 20
    rotate_left
    · have hx : (ls.length ≤ k) ∨ ((k : Int) < (ls.length : Int) ∧ (k : Int) = 20) := by omega
      clear hlt hk2 hk20
      rcases hx with hx | ⟨hx1, hx2⟩
      · have hb1 : decide ((k : Int) < (ls.length : Int)) = false := by simp; omega
        have hb2 : decide (k < ls.length) = false := by simp; omega
        clear hx
        go_wp2_with (go_at_call 12; (with_reducible refine (wakes_any _ es ed (HS.out.later hg)).mono ?_); rintro e w5 ⟨rfl, hb⟩)
        go_ret
        exact ⟨rfl, hg.trans hb⟩
      · go_wp2_with (go_at_call 12; (with_reducible refine (wakes_any _ es ed (HS.out.later hg)).mono ?_); rintro e w5 ⟨rfl, hb⟩)
        go_ret
        exact ⟨rfl, hg.trans hb⟩
    obtain ⟨m2, hm2⟩ : ∃ m, k = m + 2 := ⟨k - 2, by omega⟩
    obtain ⟨m1, hm1⟩ : ∃ m, k = m + 1 := ⟨k - 1, by omega⟩
    obtain ⟨a, hka⟩ : ∃ x, ls[m2]? = some x := ⟨_, List.getElem?_eq_getElem (by omega)⟩
    obtain ⟨b, hkb⟩ : ∃ x, ls[m1]? = some x := ⟨_, List.getElem?_eq_getElem (by omega)⟩
    obtain ⟨c, hkc⟩ : ∃ x, ls[k]? = some x := ⟨_, List.getElem?_eq_getElem hlt.1⟩
    have hq0 := set_at HSS.out hkb
    have hq1 := set_at HSS.out hkc
    obtain ⟨bl, off, rfl, hbl, d0, d1, d2, d3⟩ := set_at HSS.out hka
    obtain ⟨bl2, off2, he, _, f0, f1, f2, f3⟩ := hq0
    obtain ⟨rfl, rfl⟩ : bl = bl2 ∧ off = off2 := by simpa using he
    obtain ⟨bl3, off3, he2, _, g0, g1, g2, g3⟩ := hq1
    obtain ⟨rfl, rfl⟩ : bl = bl3 ∧ off = off3 := by simpa using he2
    clear he he2
    replace d0 := hg.cell d0
    replace d1 := hg.cell d1
    replace d2 := hg.cell d2
    replace d3 := hg.cell d3
    replace f0 := hg.cell f0
    replace f1 := hg.cell f1
    replace f2 := hg.cell f2
    replace f3 := hg.cell f3
    replace g0 := hg.cell g0
    replace g1 := hg.cell g1
    replace g2 := hg.cell g2
    replace g3 := hg.cell g3
    have hbr : bl < wr.heap.size := by have := hg.size; omega
    have hkI : (k : Int) < (ls.length : Int) := by omega
    have hk2I : (k : Int) < 20 := by omega
    have hw2 : IntKind.i64.wrap ((k : Int) - 2) = (m2 : Int) := by rw [IntWalk.i64_in _ (by omega)]; omega
    have hw1 : IntKind.i64.wrap ((k : Int) - 1) = (m1 : Int) := by rw [IntWalk.i64_in _ (by omega)]; omega
    have hm2I : (m2 : Int) < (ls.length : Int) := by omega
    have hm1I : (m1 : Int) < (ls.length : Int) := by omega
    have HLT := Lib.hid (And.intro hlt hk2)
    obtain ⟨ra, hRa, hSa, hLa, hNa⟩ := set_runs a
    obtain ⟨rb, hRb, hSb, hLb, hNb⟩ := set_runs b
    obtain ⟨rc, hRc, hSc, hLc, hNc⟩ := set_runs c
    have P1 := alg_not hLa
    have P2 := alg_two hLa hLb
    have P3 := alg_all hLa hLb hLc
    have P4 := alg_both hLa hLb
    rw [hSa] at P1
    rw [hSa, hSb] at P2 P4
    rw [hSa, hSb, hSc] at P3
    have TA := Lib.hid (fun w' => text_is a ra hRa w')
    have TB := Lib.hid (fun w' => text_is b rb hRb w')
    have TC := Lib.hid (fun w' => text_is c rc hRc w')
    have la := bodyL_len ra
    have lb := bodyL_len rb
    have lc := bodyL_len rc
    clear hlt hk2 hk20 hm1 hm2 hka hkb hkc hRa hRb hRc hSa hSb hSc hLa hLb hLc
    obtain ⟨A, hA⟩ : ∃ x, bodyL ra = x := ⟨_, rfl⟩
    obtain ⟨B1, hB1⟩ : ∃ x, bodyL rb ++ [93] = x := ⟨_, rfl⟩
    have htb : textL rb = 91 :: B1 := by rw [← hB1]; rfl
    have hta : textL ra = 91 :: (A ++ [93]) := by rw [← hA]; rfl
    rw [hta] at TA
    rw [htb] at TB P3
    rw [hB1] at P2 P4
    rw [hA] at P1 P2 P3 P4 la
    have lB1 : B1.length ≤ 2400 := by rw [← hB1, List.length_append]; simp; omega
    obtain ⟨C, hC⟩ : ∃ x, textL rc = x := ⟨_, rfl⟩
    have lC : C.length ≤ 2400 := by rw [← hC]; show (91 :: (bodyL rc ++ [93])).length ≤ _; simp; omega
    rw [hC] at TC P3
    have lA : A.length ≤ 2400 := by omega
    obtain ⟨n, hn⟩ : ∃ n, A.length = n := ⟨_, rfl⟩
    have sA := fun w' => slice_tail (P := Tryd.prog) w' 9 A 91 n Tryd.underlying9 hn
    have sB := fun w' => slice_from1 (P := Tryd.prog) w' 9 B1 91 Tryd.underlying9
    obtain ⟨nb, hnb⟩ : ∃ n, B1.length = n := ⟨_, rfl⟩
    have zA : (st (91 :: (A ++ [93]))).size = n + 2 := by rw [st_size]; simp; omega
    have zB : (st (91 :: B1)).size = nb + 1 := by rw [st_size]; simp; omega
    have nb1 : 1 ≤ nb := by rw [← hnb, ← hB1]; simp
    have hwn : IntKind.i64.wrap ((n : Int) + 2 - 1) = (n : Int) + 1 := by rw [IntWalk.i64_in _ (by omega)]; omega
    have hz1 : ¬ (n : Int) + 2 < 2 := by omega
    have hz2 : ¬ (nb : Int) + 1 < 2 := by omega
    clear hta htb la lb lc hNa hNb hNc hB1
    obtain ⟨U1, hU1⟩ : ∃ x, [91, 94] ++ A = x := ⟨_, rfl⟩
    have lU1 : U1.length ≤ 2402 := by rw [← hU1, List.length_append]; first | omega | (simp only [List.length_cons, List.length_nil]; omega)
    have eU1 := cat_is (P := Tryd.prog) { data := #[91, 94] } (st A) (st U1) [91, 94] A rfl rfl (by rw [hU1]) (by first | omega | (simp only [List.length_cons, List.length_nil]; omega))
    obtain ⟨U2, hU2⟩ : ∃ x, U1 ++ [93] = x := ⟨_, rfl⟩
    have lU2 : U2.length ≤ 2403 := by rw [← hU2, List.length_append]; first | omega | (simp only [List.length_cons, List.length_nil]; omega)
    have eU2 := cat_is (P := Tryd.prog) (st U1) { data := #[93] } (st U2) U1 [93] rfl rfl (by rw [hU2]) (by first | omega | (simp only [List.length_cons, List.length_nil]; omega))
    obtain ⟨U3, hU3⟩ : ∃ x, [91] ++ A = x := ⟨_, rfl⟩
    have lU3 : U3.length ≤ 2401 := by rw [← hU3, List.length_append]; first | omega | (simp only [List.length_cons, List.length_nil]; omega)
    have eU3 := cat_is (P := Tryd.prog) { data := #[91] } (st A) (st U3) [91] A rfl rfl (by rw [hU3]) (by first | omega | (simp only [List.length_cons, List.length_nil]; omega))
    obtain ⟨U4, hU4⟩ : ∃ x, U3 ++ B1 = x := ⟨_, rfl⟩
    have lU4 : U4.length ≤ 4801 := by rw [← hU4, List.length_append]; first | omega | (simp only [List.length_cons, List.length_nil]; omega)
    have eU4 := cat_is (P := Tryd.prog) (st U3) (st B1) (st U4) U3 B1 rfl rfl (by rw [hU4]) (by first | omega | (simp only [List.length_cons, List.length_nil]; omega))
    obtain ⟨U5, hU5⟩ : ∃ x, U3 ++ [45, 45] = x := ⟨_, rfl⟩
    have lU5 : U5.length ≤ 2403 := by rw [← hU5, List.length_append]; first | omega | (simp only [List.length_cons, List.length_nil]; omega)
    have eU5 := cat_is (P := Tryd.prog) (st U3) { data := #[45, 45] } (st U5) U3 [45, 45] rfl rfl (by rw [hU5]) (by first | omega | (simp only [List.length_cons, List.length_nil]; omega))
    obtain ⟨U6, hU6⟩ : ∃ x, U5 ++ (91 :: B1) = x := ⟨_, rfl⟩
    have lU6 : U6.length ≤ 4804 := by rw [← hU6, List.length_append]; first | omega | (simp only [List.length_cons, List.length_nil]; omega)
    have eU6 := cat_is (P := Tryd.prog) (st U5) (st (91 :: B1)) (st U6) U5 (91 :: B1) rfl rfl (by rw [hU6]) (by first | omega | (simp only [List.length_cons, List.length_nil]; omega))
    obtain ⟨U7, hU7⟩ : ∃ x, U6 ++ [38, 38] = x := ⟨_, rfl⟩
    have lU7 : U7.length ≤ 4806 := by rw [← hU7, List.length_append]; first | omega | (simp only [List.length_cons, List.length_nil]; omega)
    have eU7 := cat_is (P := Tryd.prog) (st U6) { data := #[38, 38] } (st U7) U6 [38, 38] rfl rfl (by rw [hU7]) (by first | omega | (simp only [List.length_cons, List.length_nil]; omega))
    obtain ⟨U8, hU8⟩ : ∃ x, U7 ++ C = x := ⟨_, rfl⟩
    have lU8 : U8.length ≤ 7206 := by rw [← hU8, List.length_append]; first | omega | (simp only [List.length_cons, List.length_nil]; omega)
    have eU8 := cat_is (P := Tryd.prog) (st U7) (st C) (st U8) U7 C rfl rfl (by rw [hU8]) (by first | omega | (simp only [List.length_cons, List.length_nil]; omega))
    obtain ⟨U9, hU9⟩ : ∃ x, U8 ++ [45, 45, 91, 93, 93] = x := ⟨_, rfl⟩
    have lU9 : U9.length ≤ 7211 := by rw [← hU9, List.length_append]; first | omega | (simp only [List.length_cons, List.length_nil]; omega)
    have eU9 := cat_is (P := Tryd.prog) (st U8) { data := #[45, 45, 91, 93, 93] } (st U9) U8 [45, 45, 91, 93, 93] rfl rfl (by rw [hU9]) (by first | omega | (simp only [List.length_cons, List.length_nil]; omega))
    obtain ⟨V1, hV1⟩ : ∃ x, U1 ++ [38, 38] = x := ⟨_, rfl⟩
    have lV1 : V1.length ≤ 2404 := by rw [← hV1, List.length_append]; first | omega | (simp only [List.length_cons, List.length_nil]; omega)
    have eV1 := cat_is (P := Tryd.prog) (st U1) { data := #[38, 38] } (st V1) U1 [38, 38] rfl rfl (by rw [hV1]) (by first | omega | (simp only [List.length_cons, List.length_nil]; omega))
    obtain ⟨V2, hV2⟩ : ∃ x, V1 ++ [91, 94] = x := ⟨_, rfl⟩
    have lV2 : V2.length ≤ 2406 := by rw [← hV2, List.length_append]; first | omega | (simp only [List.length_cons, List.length_nil]; omega)
    have eV2 := cat_is (P := Tryd.prog) (st V1) { data := #[91, 94] } (st V2) V1 [91, 94] rfl rfl (by rw [hV2]) (by first | omega | (simp only [List.length_cons, List.length_nil]; omega))
    obtain ⟨V3, hV3⟩ : ∃ x, V2 ++ B1 = x := ⟨_, rfl⟩
    have lV3 : V3.length ≤ 4806 := by rw [← hV3, List.length_append]; first | omega | (simp only [List.length_cons, List.length_nil]; omega)
    have eV3 := cat_is (P := Tryd.prog) (st V2) (st B1) (st V3) V2 B1 rfl rfl (by rw [hV3]) (by first | omega | (simp only [List.length_cons, List.length_nil]; omega))
    obtain ⟨V4, hV4⟩ : ∃ x, V3 ++ [93] = x := ⟨_, rfl⟩
    have lV4 : V4.length ≤ 4807 := by rw [← hV4, List.length_append]; first | omega | (simp only [List.length_cons, List.length_nil]; omega)
    have eV4 := cat_is (P := Tryd.prog) (st V3) { data := #[93] } (st V4) V3 [93] rfl rfl (by rw [hV4]) (by first | omega | (simp only [List.length_cons, List.length_nil]; omega))
    rw [hU1, hU2] at P1
    rw [hU3, hU4] at P2
    rw [hU3, hU5, hU6, hU7, hU8, hU9] at P3
    rw [hU1, hV1, hV2, hV3, hV4] at P4
    have Q1 := Lib.hid (fun w' hS => parse_ok U2 (~~~a) es ed w' (by omega) hS P1)
    have Q2 := Lib.hid (fun w' hS => parse_ok U4 (a ||| b) es ed w' (by omega) hS P2)
    have Q3 := Lib.hid (fun w' hS => parse_ok U9 ((a &&& ~~~b) &&& c) es ed w' (by omega) hS P3)
    have Q4 := Lib.hid (fun w' hS => parse_ok V4 (~~~(a ||| b)) es ed w' (by omega) hS P4)
    have hU9n : ((U9.length : Int) == 0) = false := by
      have : 5 ≤ U9.length := by rw [← hU9, List.length_append]; simp
      simp; intro h; rw [h] at this; simp at this
    clear P1 P2 P3 P4 hU1 hU2 hU3 hU4 hU5 hU6 hU7 hU8 hU9 hV1 hV2 hV3 hV4 lU1 lU2 lU3 lU4 lU5 lU6 lU7 lU8 lU9 lV1 lV2 lV3 lV4 lA lB1 lC hA hC hn hnb
    go_wp2_with fail
    go_at_call 8
    refine name_calls (fun W hW => ?_)
    obtain ⟨xa, xb, xc, hgW, hsz⟩ : boxAt W wr.heap.size [.int .u64 (wd a 0), .int .u64 (wd a 1), .int .u64 (wd a 2), .int .u64 (wd a 3)] ∧ boxAt W (wr.heap.size + 1) [.int .u64 (wd b 0), .int .u64 (wd b 1), .int .u64 (wd b 2), .int .u64 (wd b 3)] ∧ boxAt W (wr.heap.size + 2) [.int .u64 (wd c 0), .int .u64 (wd c 1), .int .u64 (wd c 2), .int .u64 (wd c 3)] ∧ Gr wr W ∧ W.heap.size = wr.heap.size + 3 := by
      subst hW; exact boxes3 _ _ _ _ _ _ _
    clear hW
    replace hgW := hg.trans hgW
    clear d0 d1 d2 d3 f0 f1 f2 f3 g0 g1 g2 g3
    refine (TA.out W).mono ?_; rintro e w1 ⟨rfl, hq⟩
    replace xa := xa.later hq
    replace xb := xb.later hq
    replace xc := xc.later hq
    replace hgW := hgW.trans hq
    clear hq
    have c_b0 := xb.cell 0 _ rfl
    have c_b1 := xb.cell 1 _ rfl
    have c_b2 := xb.cell 2 _ rfl
    have c_b3 := xb.cell 3 _ rfl
    have m_b0 := xb.mark 0 _ rfl
    have m_b1 := xb.mark 1 _ rfl
    have m_b2 := xb.mark 2 _ rfl
    have m_b3 := xb.mark 3 _ rfl
    have l_b := xb.lt (Nat.succ_pos _)
    go_wp2_with fail
    go_at_call 8
    refine (TB.out w1).mono ?_; rintro e w2 ⟨rfl, hq⟩
    clear c_b0 c_b1 c_b2 c_b3 m_b0 m_b1 m_b2 m_b3 l_b
    replace xa := xa.later hq
    replace xb := xb.later hq
    replace xc := xc.later hq
    replace hgW := hgW.trans hq
    clear hq
    go_wp2_with fail
    go_at_call 13
    refine (Q1.out w2 (HS.out.later hgW)).mono ?_; rintro e w3 ⟨rfl, hq⟩
    replace xa := xa.later hq
    replace xb := xb.later hq
    replace xc := xc.later hq
    replace hgW := hgW.trans hq
    clear hq
    have c_b0 := xb.cell 0 _ rfl
    have c_b1 := xb.cell 1 _ rfl
    have c_b2 := xb.cell 2 _ rfl
    have c_b3 := xb.cell 3 _ rfl
    have m_b0 := xb.mark 0 _ rfl
    have m_b1 := xb.mark 1 _ rfl
    have m_b2 := xb.mark 2 _ rfl
    have m_b3 := xb.mark 3 _ rfl
    have l_b := xb.lt (Nat.succ_pos _)
    go_wp2_with fail
    go_at_call 8
    refine name_calls (fun W3 hW => ?_)
    have x9 : boxAt W3 w3.heap.size [.int .u64 (wd (~~~a) 0), .int .u64 (wd (~~~a) 1), .int .u64 (wd (~~~a) 2), .int .u64 (wd (~~~a) 3)] := boxAt.new _ _ hW
    have hq : Gr w3 W3 := by rw [hW]; exact Gr.alloc _ _
    clear hW
    clear c_b0 c_b1 c_b2 c_b3 m_b0 m_b1 m_b2 m_b3 l_b
    replace xa := xa.later hq
    replace xb := xb.later hq
    replace xc := xc.later hq
    replace hgW := hgW.trans hq
    clear hq
    refine (TB.out W3).mono ?_; rintro e w4 ⟨rfl, hq⟩
    replace xa := xa.later hq
    replace xb := xb.later hq
    replace xc := xc.later hq
    replace x9 := x9.later hq
    replace hgW := hgW.trans hq
    clear hq
    go_wp2_with fail
    go_at_call 13
    refine (Q2.out w4 (HS.out.later hgW)).mono ?_; rintro e w5 ⟨rfl, hq⟩
    replace xa := xa.later hq
    replace xb := xb.later hq
    replace xc := xc.later hq
    replace x9 := x9.later hq
    replace hgW := hgW.trans hq
    clear hq
    go_upto_region 13 with fail
    refine name_world (fun WC hW => ?_)
    have x12 : boxAt WC w5.heap.size [.int .u64 (wd (a ||| b) 0), .int .u64 (wd (a ||| b) 1), .int .u64 (wd (a ||| b) 2), .int .u64 (wd (a ||| b) 3)] := boxAt.new _ _ hW
    have hq : Gr w5 WC := by rw [hW]; exact Gr.alloc _ _
    clear hW
    replace xa := xa.later hq
    replace xb := xb.later hq
    replace xc := xc.later hq
    replace x9 := x9.later hq
    replace hgW := hgW.trans hq
    clear hq
    have hl0 : wr.heap.size + 2 < WC.heap.size := xc.lt (by simp)
    have hwWC : w.heap.size ≤ WC.heap.size := hgW.size
    go_cut [15, 16, 17] from 77 to 92 (fun v15 v16 v17 wx => ∃ bx : Nat, v15 = .pointer (some ⟨bx, 0, none⟩) ∧ v16 = .int .i64 (U9.length : Int) ∧ v17 = .nilIface ∧ WC.heap.size ≤ bx ∧ boxAt wx bx [.int .u64 (wd ((a &&& ~~~b) &&& c) 0), .int .u64 (wd ((a &&& ~~~b) &&& c) 1), .int .u64 (wd ((a &&& ~~~b) &&& c) 2), .int .u64 (wd ((a &&& ~~~b) &&& c) 3)] ∧ Gr WC wx)
    case first =>
      have c_b0 := xb.cell 0 _ rfl
      have c_b1 := xb.cell 1 _ rfl
      have c_b2 := xb.cell 2 _ rfl
      have c_b3 := xb.cell 3 _ rfl
      have m_b0 := xb.mark 0 _ rfl
      have m_b1 := xb.mark 1 _ rfl
      have m_b2 := xb.mark 2 _ rfl
      have m_b3 := xb.mark 3 _ rfl
      have l_b := xb.lt (Nat.succ_pos _)
      have c_c0 := xc.cell 0 _ rfl
      have c_c1 := xc.cell 1 _ rfl
      have c_c2 := xc.cell 2 _ rfl
      have c_c3 := xc.cell 3 _ rfl
      have m_c0 := xc.mark 0 _ rfl
      have m_c1 := xc.mark 1 _ rfl
      have m_c2 := xc.mark 2 _ rfl
      have m_c3 := xc.mark 3 _ rfl
      have l_c := xc.lt (Nat.succ_pos _)
      have l_b1 : wr.heap.size + 1 < WC.heap.size + 1 := by omega
      have l_c1 : wr.heap.size + 2 < WC.heap.size + 1 := by omega
      have HSC := Lib.hid (HS.out.later hgW)
      have HP3 := Lib.hid (fun W' (h : Gr WC W') => Q3.out W' (HSC.out.later h))
      go_region_with (first
        | (go_at_call 8; (with_reducible refine (TB.out _).mono ?_); rintro e w6 ⟨rfl, hq6⟩; have hG6 : Gr WC w6 := (by first | with_reducible exact (Gr.drew _).trans hq6 | with_reducible exact ((Gr.alloc _ _).trans (Gr.drew _)).trans hq6); have y0 := hG6.cell c_c0; have y1 := hG6.cell c_c1; have y2 := hG6.cell c_c2; have y3 := hG6.cell c_c3; have ly : wr.heap.size + 2 < w6.heap.size := (by have := hG6.size; omega); first | (have xz6 := boxAt.later (newD WC) (w' := w6) (by with_reducible exact hq6)) | skip)
        | (go_at_call 8; (with_reducible refine (TC.out _).mono ?_); rintro e w7 ⟨rfl, hq7⟩; have hG7 : Gr WC w7 := (by first | with_reducible exact hG6.trans hq7 | with_reducible exact (hG6.trans (Gr.alloc _ _)).trans hq7); first | (have xz7 := boxAt.later xz6 (w' := w7) (by with_reducible exact hq7)) | (have xz7 := boxAt.later (newA w6) (w' := w7) (by with_reducible exact hq7)) | skip)
        | (go_at_call 13; (with_reducible refine (HP3.out _ (by first | with_reducible exact hG7 | with_reducible exact hG7.trans (Gr.alloc _ _))).mono ?_); rintro e w8 ⟨rfl, hq8⟩; have hG8 : Gr WC w8 := (by first | with_reducible exact hG7.trans hq8 | with_reducible exact (hG7.trans (Gr.alloc _ _)).trans hq8); first
          | (have xz8 := boxAt.later xz7 (w' := w8) (by with_reducible exact hq8); have z0 := xz8.cell 0 _ rfl; have z1 := xz8.cell 1 _ rfl; have z2 := xz8.cell 2 _ rfl; have z3 := xz8.cell 3 _ rfl; have v0 := xz8.mark 0 _ rfl; have v1 := xz8.mark 1 _ rfl; have v2 := xz8.mark 2 _ rfl; have v3 := xz8.mark 3 _ rfl; have lz := xz8.lt (Nat.succ_pos _))
          | (have xz8 := boxAt.later (newA w7) (w' := w8) (by with_reducible exact hq8); have z0 := xz8.cell 0 _ rfl; have z1 := xz8.cell 1 _ rfl; have z2 := xz8.cell 2 _ rfl; have z3 := xz8.cell 3 _ rfl; have v0 := xz8.mark 0 _ rfl; have v1 := xz8.mark 1 _ rfl; have v2 := xz8.mark 2 _ rfl; have v3 := xz8.mark 3 _ rfl; have lz := xz8.lt (Nat.succ_pos _))
          | skip))
      all_goals
        go_wp2_with fail
        go_meet
        case rel =>
          first
          | exact ⟨_, rfl, rfl, rfl, by first | exact Nat.le_refl _ | exact hG6.size | exact hG7.size, xz8.put4 _ _ _ _, Below.put4 hG8 (by first | exact Nat.le_refl _ | exact hG6.size | exact hG7.size) _ _ _ _⟩
          | exact ⟨_, rfl, rfl, rfl, hG8.size, boxAt.new _ _ rfl, hG8.trans (Gr.alloc _ _)⟩
    case rest =>
      obtain ⟨bx, rfl, rfl, rfl, hbx, x15, hq⟩ := hcut
      have hl3 : w3.heap.size < WC.heap.size := x9.lt (by simp)
      have hl5 : w5.heap.size < WC.heap.size := x12.lt (by simp)
      replace xa := xa.later hq
      replace xb := xb.later hq
      replace xc := xc.later hq
      replace x9 := x9.later hq
      replace x12 := x12.later hq
      replace hgW := hgW.trans hq
      clear hq
      have c_a0 := xa.cell 0 _ rfl
      have c_a1 := xa.cell 1 _ rfl
      have c_a2 := xa.cell 2 _ rfl
      have c_a3 := xa.cell 3 _ rfl
      have m_a0 := xa.mark 0 _ rfl
      have m_a1 := xa.mark 1 _ rfl
      have m_a2 := xa.mark 2 _ rfl
      have m_a3 := xa.mark 3 _ rfl
      have l_a := xa.lt (Nat.succ_pos _)
      have c_b0 := xb.cell 0 _ rfl
      have c_b1 := xb.cell 1 _ rfl
      have c_b2 := xb.cell 2 _ rfl
      have c_b3 := xb.cell 3 _ rfl
      have m_b0 := xb.mark 0 _ rfl
      have m_b1 := xb.mark 1 _ rfl
      have m_b2 := xb.mark 2 _ rfl
      have m_b3 := xb.mark 3 _ rfl
      have l_b := xb.lt (Nat.succ_pos _)
      have c_c0 := xc.cell 0 _ rfl
      have c_c1 := xc.cell 1 _ rfl
      have c_c2 := xc.cell 2 _ rfl
      have c_c3 := xc.cell 3 _ rfl
      have m_c0 := xc.mark 0 _ rfl
      have m_c1 := xc.mark 1 _ rfl
      have m_c2 := xc.mark 2 _ rfl
      have m_c3 := xc.mark 3 _ rfl
      have l_c := xc.lt (Nat.succ_pos _)
      have c_n0 := x9.cell 0 _ rfl
      have c_n1 := x9.cell 1 _ rfl
      have c_n2 := x9.cell 2 _ rfl
      have c_n3 := x9.cell 3 _ rfl
      have m_n0 := x9.mark 0 _ rfl
      have m_n1 := x9.mark 1 _ rfl
      have m_n2 := x9.mark 2 _ rfl
      have m_n3 := x9.mark 3 _ rfl
      have l_n := x9.lt (Nat.succ_pos _)
      have c_t0 := x12.cell 0 _ rfl
      have c_t1 := x12.cell 1 _ rfl
      have c_t2 := x12.cell 2 _ rfl
      have c_t3 := x12.cell 3 _ rfl
      have m_t0 := x12.mark 0 _ rfl
      have m_t1 := x12.mark 1 _ rfl
      have m_t2 := x12.mark 2 _ rfl
      have m_t3 := x12.mark 3 _ rfl
      have l_t := x12.lt (Nat.succ_pos _)
      have c_q0 := x15.cell 0 _ rfl
      have c_q1 := x15.cell 1 _ rfl
      have c_q2 := x15.cell 2 _ rfl
      have c_q3 := x15.cell 3 _ rfl
      have m_q0 := x15.mark 0 _ rfl
      have m_q1 := x15.mark 1 _ rfl
      have m_q2 := x15.mark 2 _ rfl
      have m_q3 := x15.mark 3 _ rfl
      have l_q := x15.lt (Nat.succ_pos _)
      go_wp2_with fail
      refine wp_region_G (.take 0 (.take 1 (.take 2 (.take 3 (.take 4 (.take 5 (.take 6 (.take 7 (.take 8 (.take 9 (.take 10 (.take 11 (.take 12 (.run 13 false (.take 14 (.take 15 (.take 16 (.take 17 (.take 18 (.take 19 (.run 20 false (.take 21 (.take 22 (.take 23 (.take 24 (.take 25 (.take 26 (.take 28 (.run 27 false (.run 29 false (.take 30 (.take 31 (.take 32 (.take 33 (.take 34 (.take 35 .nil)))))))))))))))))))))))))))))))))))) (by kernel_rfl) (by kernel_rfl) ?_
      simp only [pickOps, nthOp]
      intro wq hG
      repeat (first | (refine wpG_skip_take ?_ ?_; (focus rfl); try simp only [Act.put, List.setIfInBounds_toArray, List.set_cons_zero, List.set_cons_succ]) | (refine wpG_skip_run ?_ ?_; (focus rfl); try simp only [Act.put, List.setIfInBounds_toArray, List.set_cons_zero, List.set_cons_succ]) | (refine wpG_take ?_ ?_; (focus rfl); apply Exists.intro; refine ⟨fun w' hw' => ?_, ?_⟩; (focus (have hc := Gr.cells hw'; go_simp; (try rfl); done)); try simp only [Act.put, List.setIfInBounds_toArray, List.set_cons_zero, List.set_cons_succ]) | (refine wpG_run ?_ (fun K hK => ?_); (focus rfl); go_simp; (first | (go_at_call 15; (with_reducible refine (union_any _ _ _).mono ?_); rintro e w' ⟨rfl, hb⟩) | (go_at_call 16; (with_reducible refine (inter_any _ _ _).mono ?_); rintro e w' ⟨rfl, hb⟩) | (go_at_call 14; (with_reducible refine (complement_any _ _).mono ?_); rintro e w' ⟨rfl, hb⟩) | (go_at_call 17; (with_reducible refine (minus_any _ _ _).mono ?_); rintro e w' ⟨rfl, hb⟩) | (go_at_call 77; (with_reducible refine (all_any _).mono ?_); rintro e w' ⟨rfl, hb⟩)); (try dsimp only); replace hG := hG.trans hb; refine hK.out _ _ hG ?_; clear hK K hb; try simp only [Act.put, List.setIfInBounds_toArray, List.set_cons_zero, List.set_cons_succ]))
      refine wpG_done ?_
      clear c_a0 c_a1 c_a2 c_a3 m_a0 m_a1 m_a2 m_a3 l_a
      clear c_b0 c_b1 c_b2 c_b3 m_b0 m_b1 m_b2 m_b3 l_b
      clear c_c0 c_c1 c_c2 c_c3 m_c0 m_c1 m_c2 m_c3 l_c
      clear c_n0 c_n1 c_n2 c_n3 m_n0 m_n1 m_n2 m_n3 l_n
      clear c_t0 c_t1 c_t2 c_t3 m_t0 m_t1 m_t2 m_t3 l_t
      clear c_q0 c_q1 c_q2 c_q3 m_q0 m_q1 m_q2 m_q3 l_q
      obtain ⟨w9, hw9⟩ : ∃ x, x = w' := ⟨_, rfl⟩
      rw [← hw9] at hG ⊢
      clear hw9
      replace xa := xa.later hG
      replace xb := xb.later hG
      replace xc := xc.later hG
      replace x9 := x9.later hG
      replace x12 := x12.later hG
      replace x15 := x15.later hG
      replace hgW := hgW.trans hG
      clear hG
      have c_b0 := xb.cell 0 _ rfl
      have c_b1 := xb.cell 1 _ rfl
      have c_b2 := xb.cell 2 _ rfl
      have c_b3 := xb.cell 3 _ rfl
      have m_b0 := xb.mark 0 _ rfl
      have m_b1 := xb.mark 1 _ rfl
      have m_b2 := xb.mark 2 _ rfl
      have m_b3 := xb.mark 3 _ rfl
      have l_b := xb.lt (Nat.succ_pos _)
      go_wp2_with fail
      go_at_call 8
      refine (TB.out w9).mono ?_; rintro e w10 ⟨rfl, hq⟩
      clear c_b0 c_b1 c_b2 c_b3 m_b0 m_b1 m_b2 m_b3 l_b
      replace xa := xa.later hq
      replace xb := xb.later hq
      replace xc := xc.later hq
      replace x9 := x9.later hq
      replace x12 := x12.later hq
      replace x15 := x15.later hq
      replace hgW := hgW.trans hq
      clear hq
      go_wp2_with fail
      go_at_call 13
      refine (Q4.out w10 (HS.out.later hgW)).mono ?_; rintro e w11 ⟨rfl, hq⟩
      replace xa := xa.later hq
      replace xb := xb.later hq
      replace xc := xc.later hq
      replace x9 := x9.later hq
      replace x12 := x12.later hq
      replace x15 := x15.later hq
      replace hgW := hgW.trans hq
      clear hq
      have c_q0 := x15.cell 0 _ rfl
      have c_q1 := x15.cell 1 _ rfl
      have c_q2 := x15.cell 2 _ rfl
      have c_q3 := x15.cell 3 _ rfl
      have m_q0 := x15.mark 0 _ rfl
      have m_q1 := x15.mark 1 _ rfl
      have m_q2 := x15.mark 2 _ rfl
      have m_q3 := x15.mark 3 _ rfl
      have l_q := x15.lt (Nat.succ_pos _)
      go_wp2_with fail
      refine name_world (fun W12 hW => ?_)
      clear c_q0 c_q1 c_q2 c_q3 m_q0 m_q1 m_q2 m_q3 l_q
      replace x15 : boxAt W12 bx [.int .u64 (wd (~~~(a ||| b)) 0), .int .u64 (wd (~~~(a ||| b)) 1), .int .u64 (wd (~~~(a ||| b)) 2), .int .u64 (wd (~~~(a ||| b)) 3)] := by rw [hW]; exact x15.put4 _ _ _ _
      replace xa : boxAt W12 wr.heap.size [.int .u64 (wd a 0), .int .u64 (wd a 1), .int .u64 (wd a 2), .int .u64 (wd a 3)] := by rw [hW]; exact xa.far4 (by omega) _ _ _ _
      replace xb : boxAt W12 (wr.heap.size + 1) [.int .u64 (wd b 0), .int .u64 (wd b 1), .int .u64 (wd b 2), .int .u64 (wd b 3)] := by rw [hW]; exact xb.far4 (by omega) _ _ _ _
      replace hgW : Gr w W12 := by rw [hW]; exact Below.put4 hgW (by omega) _ _ _ _
      clear hW
      have c_a0 := xa.cell 0 _ rfl
      have c_a1 := xa.cell 1 _ rfl
      have c_a2 := xa.cell 2 _ rfl
      have c_a3 := xa.cell 3 _ rfl
      have m_a0 := xa.mark 0 _ rfl
      have m_a1 := xa.mark 1 _ rfl
      have m_a2 := xa.mark 2 _ rfl
      have m_a3 := xa.mark 3 _ rfl
      have l_a := xa.lt (Nat.succ_pos _)
      have c_b0 := xb.cell 0 _ rfl
      have c_b1 := xb.cell 1 _ rfl
      have c_b2 := xb.cell 2 _ rfl
      have c_b3 := xb.cell 3 _ rfl
      have m_b0 := xb.mark 0 _ rfl
      have m_b1 := xb.mark 1 _ rfl
      have m_b2 := xb.mark 2 _ rfl
      have m_b3 := xb.mark 3 _ rfl
      have l_b := xb.lt (Nat.succ_pos _)
      have c_q0 := x15.cell 0 _ rfl
      have c_q1 := x15.cell 1 _ rfl
      have c_q2 := x15.cell 2 _ rfl
      have c_q3 := x15.cell 3 _ rfl
      have m_q0 := x15.mark 0 _ rfl
      have m_q1 := x15.mark 1 _ rfl
      have m_q2 := x15.mark 2 _ rfl
      have m_q3 := x15.mark 3 _ rfl
      have l_q := x15.lt (Nat.succ_pos _)
      refine wp_region_G (.take 0 (.take 1 (.take 2 (.take 3 (.take 4 (.take 5 (.run 6 false (.run 7 false (.take 8 (.take 9 .nil)))))))))) (by kernel_rfl) (by kernel_rfl) ?_
      simp only [pickOps, nthOp]
      intro wq hG
      repeat (first | (refine wpG_skip_take ?_ ?_; (focus rfl); try simp only [Act.put, List.setIfInBounds_toArray, List.set_cons_zero, List.set_cons_succ]) | (refine wpG_skip_run ?_ ?_; (focus rfl); try simp only [Act.put, List.setIfInBounds_toArray, List.set_cons_zero, List.set_cons_succ]) | (refine wpG_take ?_ ?_; (focus rfl); apply Exists.intro; refine ⟨fun w' hw' => ?_, ?_⟩; (focus (have hc := Gr.cells hw'; go_simp; (try rfl); done)); try simp only [Act.put, List.setIfInBounds_toArray, List.set_cons_zero, List.set_cons_succ]) | (refine wpG_run ?_ (fun K hK => ?_); (focus rfl); go_simp; (first | (go_at_call 15; (with_reducible refine (union_any _ _ _).mono ?_); rintro e w' ⟨rfl, hb⟩) | (go_at_call 16; (with_reducible refine (inter_any _ _ _).mono ?_); rintro e w' ⟨rfl, hb⟩) | (go_at_call 14; (with_reducible refine (complement_any _ _).mono ?_); rintro e w' ⟨rfl, hb⟩) | (go_at_call 17; (with_reducible refine (minus_any _ _ _).mono ?_); rintro e w' ⟨rfl, hb⟩) | (go_at_call 77; (with_reducible refine (all_any _).mono ?_); rintro e w' ⟨rfl, hb⟩)); (try dsimp only); replace hG := hG.trans hb; refine hK.out _ _ hG ?_; clear hK K hb; try simp only [Act.put, List.setIfInBounds_toArray, List.set_cons_zero, List.set_cons_succ]))
      refine wpG_done ?_
      go_wp2_with fail
      go_roundw
      case rel => exact ⟨k + 1, by have := HLT.out; omega, by have := HLT.out; omega, by go_num, hgW.trans hG⟩
      case measure => have := HLT.out; simp [intOf]; omega

end Go.Proofs.YtihjmeoklbmnmaaDoor
