/- LengthCuts of bolterlaw8: it answers true. No condition but that the errors' variables hold the errors. -/
import Derived.Test.YtpcmgkohebihmaaDoorCuts8
import Derived.Test.YtpcmgkohebihmaaDoorCopyC
import Derived.Test.YtpcmgkohebihmaaDoorSame
import Derived.Test.YtpcmgkohebihmaaDoorWakesL
import Derived.Test.YtpcmgkohebihmaaDoorSize
namespace Go.Proofs.YtpcmgkohebihmaaDoor
open Go Go.RowKit

/-- These are rules, in this world. -/
def CoresIn (w : World) (v : Value) : Prop := ∃ l : List (Co × List Value), Sl w v 21 l.length (l.flatMap (·.2)) ∧ (∀ p ∈ l, CoIn w p.1 p.2) ∧ l.length * 216 ≤ 140737488351232

/-- Both tell the same. -/
theorem bothCuts {w w1 w3 W0 : World} {s : Nat → Addr} (hF : FaultsIn W0 s) {l : List Co} {v v2 er : Value} {fc fr : Int} (h1 : CutsTold w w1 l (.iface 151 (.pointer (some (s 15)))) (.iface 151 (.pointer (some (s 10)))) v er) (h2 : Cuts8Told w3 l v2 fc fr) (cur : World) (g0 : Gr W0 cur) (g1 : Gr w1 cur) (g3 : Gr w3 cur) :
    (Calls Tryd.prog 18 #[v, v2] cur fun e' w' => e' = .returned (.bool true) ∧ Gr cur w') ∧
    (Calls Tryd.prog 13 #[er, .agg #[.int .i64 fc, .int .i64 0, .int .i64 fr, .int .i64 0, .slice none 0 0]] cur fun e' w' => e' = .returned (.bool true) ∧ Gr cur w') := by
  have hnil : Calls Tryd.prog 18 #[.slice none 0 0, .slice none 0 0] cur fun e' w' => e' = .returned (.bool true) ∧ Gr cur w' := eqCuts_self [] _ _ cur (Sl.nil cur 2) (Sl.nil cur 2)
  have hG := hF.later g0
  cases h1 with
  | arg h =>
    cases h2 with
    | arg _ => exact ⟨hnil, same_er hG (.leaf (s 15)) (hG.leaf 15 (by omega) (by omega)) trivial 15 (by omega) (by omega) rfl rfl ⟨15, 0, 0, 0⟩⟩
    | trail j a h' => rw [h] at h'; cases h'
    | cuts M v h' => rw [h] at h'; cases h'
  | trail j a g h hj ha hi hg hb =>
    cases h2 with
    | arg h' => rw [h] at h'; cases h'
    | trail j' a' _ hj' ha' hi' =>
      have hjj : j = j' := by
        rcases Nat.lt_trichotomy j j' with k | k | k
        · have := hi' j a k hj; rw [ha] at this; cases this
        · exact k
        · have := hi j' a' k hj'; rw [ha'] at this; cases this
      subst hjj
      refine ⟨hnil, ?_⟩
      have hin : (Er.wrap .ruled g (.int .i64 ((j : Int) + 1)) (.leaf (s 10))).In cur := ⟨g1.cell (hb.cell 0 _ rfl), g1.cell (hb.cell 1 _ rfl), hG.leaf 10 (by omega) (by omega)⟩
      have := same_er hG (.wrap .ruled g (.int .i64 ((j : Int) + 1)) (.leaf (s 10))) hin ⟨fun _ => ⟨_, rfl⟩, trivial⟩ 10 (by omega) (by omega) rfl rfl ⟨10, 0, (j : Int) + 1, 0⟩
      rw [show eqFa (Er.fa (.wrap .ruled g (.int .i64 ((j : Int) + 1)) (.leaf (s 10))) 10) ⟨10, 0, (j : Int) + 1, 0⟩ = true from (eqFa_iff _ _).2 rfl] at this
      exact this
    | cuts M v _ hM =>
      exfalso
      have h1 : (l.map cutOf)[j]? = some none := by rw [List.getElem?_map, hj, Option.map_some, ha]
      rw [hM, List.getElem?_map] at h1
      cases h2 : M[j]? <;> rw [h2] at h1 <;> cases h1
  | cuts M v h hM ho =>
    cases h2 with
    | arg h' => rw [h] at h'; cases h'
    | trail j a _ hj ha =>
      exfalso
      have h1 : (l.map cutOf)[j]? = some none := by rw [List.getElem?_map, hj, Option.map_some, ha]
      rw [hM, List.getElem?_map] at h1
      cases h2 : M[j]? <;> rw [h2] at h1 <;> cases h1
    | cuts M' v' _ hM' ho' =>
      have hMM : M = M' := by
        rw [hM] at hM'
        exact (List.map_inj_right (fun _ _ h => Option.some.inj h)).1 hM'
      subst hMM
      exact ⟨eqCuts_self M _ _ cur ((Sl.of_owns ho).later g1) (ho'.later g3), same_nil ⟨0, 0, 0, 0⟩ cur⟩

/-- The slice at place j. -/
theorem outer_at {w : World} {pv : Option Addr} {cv : Nat} {L : List Value} (hs : Sl w (.slice pv L.length cv) 1 L.length (L.flatMap fun v => [v])) (j : Nat) (hj : j < L.length) :
    ∃ b off v, pv = some ⟨b, off, none⟩ ∧ b < w.heap.size ∧ v ∈ L ∧ w.cell? ⟨b, off + j, none⟩ = some v := by
  obtain ⟨v, hv⟩ : ∃ v, L[j]? = some v := ⟨_, List.getElem?_eq_getElem hj⟩
  obtain ⟨_, _, ⟨_, h0⟩ | ⟨b, off, cap, he, hb, hc⟩⟩ := hs
  · omega
  simp only [Value.slice.injEq, true_and] at he
  refine ⟨b, off, v, he.1, hb (by omega), List.mem_of_getElem? hv, ?_⟩
  have := hc (j * 1 + 0) v ((flatMap_get_of (fun v => [v]) 1 L (fun _ _ => rfl) j 0 v hv (by omega)).trans rfl)
  simpa using this

set_option maxRecDepth 100000 in
set_option maxHeartbeats 8000000 in
theorem lengthCuts_any (L : List Value) (v : Value) (w : World) (hs : Sl w v 1 L.length (L.flatMap fun v => [v])) (hl : ∀ v ∈ L, CoresIn w v) (s : Nat → Addr) (hF : FaultsIn w s) :
    Calls Tryd.prog 5 #[v] w fun e w' => e = .returned (.bool true) ∧ Gr w w' := by
  obtain ⟨pv, cv, rfl⟩ := hs.len
  have hll : L.length ≤ 9223372036854775807 := hs.2.1
  have HS := Lib.hid hs
  have HA := Lib.hid hl
  have HF := Lib.hid hF
  have HWK := Lib.hid (fun (cur : World) (h : Gr w cur) => wakes_any cur _ _ ((hF.later h).errs 15 (by omega) (by omega)) ((hF.later h).errs 10 (by omega) (by omega)))
  clear hs hl hF
  go_enter Tryd.func5, Tryd.ntmps5
  go_wp2_with fail
  go_loopw [3] (fun i wr => ∃ j : Nat, j ≤ L.length ∧ i = .int .i64 (j : Int) ∧ Gr w wr) (fun i _ => L.length - (intOf i).toNat)
  case atStart => exact ⟨0, by omega, rfl, Gr.refl _⟩
  case round =>
    obtain ⟨j, hj, rfl, hg⟩ := hrel
    by_cases hlt : j < L.length
    · by_cases hfew : j < 20
      · obtain ⟨b, off, v, rfl, hbW, hmem, hcell⟩ := outer_at HS.out j hlt
        obtain ⟨l, hsl, hco, hlb⟩ := HA.out v hmem
        obtain ⟨pi, ci, rfl⟩ := hsl.len
        obtain ⟨n, hn⟩ : ∃ n, l.length = n := ⟨_, rfl⟩
        have HSL := Lib.hid hsl
        have HCO := Lib.hid hco
        have HLB := Lib.hid hlb
        have HN := Lib.hid hn
        have hnb : n ≤ 140737488351232 := by omega
        rw [hn] at hcell
        have HCELL := Lib.hid hcell
        have hbr : b < wr.heap.size := by have := hg.size; omega
        have d0 := hg.cell hcell
        have hjI : (j : Int) < (L.length : Int) := by omega
        have hjF : (j : Int) < 20 := by omega
        have HLT := Lib.hid hlt
        have HBW := Lib.hid hbW
        clear hlt hfew hj hbW hmem hcell hsl hco hlb hn
        go_wp2_with fail
        go_loopw [4, 5] (fun x i wq => ∃ (k : Nat) (y : Int), k ≤ n ∧ i = .int .i64 (k : Int) ∧ x = .int .i64 y ∧ Gr w wq) (fun _ i _ => n - (intOf i).toNat)
        case atStart => exact ⟨0, 0, by omega, rfl, rfl, hg⟩
        case round =>
          obtain ⟨k, y, hk, rfl, rfl, hgq⟩ := hrel
          clear d0 hbr hg
          have d0 := hgq.cell HCELL.out
          have hbr : b < wr.heap.size := by have := hgq.size; have := HBW.out; omega
          by_cases hlt : k < n
          · obtain ⟨b', off', cap', op, pos, s1, text, mn, mx, p, m, c, op2, pos2, s2, text2, mn2, mx2, p2, n2, c2, e, hb, f, hv, hbW', ha, he, hf, hat⟩ := cores_at HSL.out HCO.out k (by have := HN.out; omega)
            simp only [Value.slice.injEq, true_and] at hv
            obtain ⟨rfl, rfl⟩ := hv
            obtain ⟨hbr', hcell⟩ := hat wr hgq
            unfold exCells at hcell
            have f0 := hcell 0 _ (by omega) rfl
            have f1 := hcell 1 _ (by omega) rfl
            have f2 := hcell 2 _ (by omega) rfl
            have f3 := hcell 3 _ (by omega) rfl
            have f4 := hcell 4 _ (by omega) rfl
            have f5 := hcell 5 _ (by omega) rfl
            have f6 := hcell 6 _ (by omega) rfl
            have f7 := hcell 7 _ (by omega) rfl
            have f8 := hcell 8 _ (by omega) rfl
            have f9 := hcell 9 _ (by omega) rfl
            have f10 := hcell 10 _ (by omega) rfl
            have f11 := hcell 11 _ (by omega) rfl
            have f12 := hcell 12 _ (by omega) rfl
            have f13 := hcell 13 _ (by omega) rfl
            have f14 := hcell 14 _ (by omega) rfl
            have f15 := hcell 15 _ (by omega) rfl
            have f16 := hcell 16 _ (by omega) rfl
            have f17 := hcell 17 _ (by omega) rfl
            have f18 := hcell 18 _ (by omega) rfl
            have f19 := hcell 19 _ (by omega) rfl
            have f20 := hcell 20 _ (by omega) rfl
            simp only [Nat.add_zero] at f0
            have hkI : (k : Int) < (n : Int) := by omega
            have hkN : k < n := hlt
            have HKT := Lib.hid hlt
            have HZ1 := Lib.hid (fun (cur : World) (h : Gr w cur) => size_any _ e (Nat.le_refl _) _ cur 0 (he.later h) (by omega))
            have HZ2 := Lib.hid (fun (cur : World) (h : Gr w cur) => size_any _ f (Nat.le_refl _) _ cur 0 (hf.later h) (by omega))
            unfold exCells at HZ1 HZ2
            clear hcell hat ha he hf hlt hk hbW'
            go_wp2_with fail
            refine wp_region_G (.take 0 (.take 1 (.take 2 (.take 3 (.take 4 (.take 5 (.take 6 (.take 7 (.take 8 (.take 11 (.take 12 (.take 13 (.take 14 (.take 15 (.take 16 (.take 17 (.take 18 (.run 9 false (.take 10 (.run 19 false (.take 20 (.run 21 true .nil)))))))))))))))))))))) (by kernel_rfl) (by kernel_rfl) ?_
            simp only [pickOps, nthOp]
            intro wq hG
            repeat (first | (refine wpG_skip_take ?_ ?_; (focus rfl); try simp only [Act.put, List.setIfInBounds_toArray, List.set_cons_zero, List.set_cons_succ]) | (refine wpG_skip_run ?_ ?_; (focus rfl); try simp only [Act.put, List.setIfInBounds_toArray, List.set_cons_zero, List.set_cons_succ]) | (refine wpG_take ?_ ?_; (focus rfl); apply Exists.intro; refine ⟨fun w' hw' => ?_, ?_⟩; (focus (have hc := Gr.cells hw'; go_simp; (try rfl); done)); try simp only [Act.put, List.setIfInBounds_toArray, List.set_cons_zero, List.set_cons_succ]) | (refine wpG_run ?_ (fun K hK => ?_); (focus rfl); go_simp; (first | (go_at_call 7; (with_reducible refine (show Calls Tryd.prog 7 #[.agg #[.int .i64 op, .int .i64 pos, .int .u64 (wd s1 0), .int .u64 (wd s1 1), .int .u64 (wd s1 2), .int .u64 (wd s1 3), .string text, .int .i64 mn, .int .i64 mx, (.slice p m c)], .int .i64 0] _ _ from HZ1.out _ (hgq.trans hG)).mono ?_); rintro e' w7 ⟨rfl, hb⟩) | (go_at_call 7; (with_reducible refine (show Calls Tryd.prog 7 #[.agg #[.int .i64 op2, .int .i64 pos2, .int .u64 (wd s2 0), .int .u64 (wd s2 1), .int .u64 (wd s2 2), .int .u64 (wd s2 3), .string text2, .int .i64 mn2, .int .i64 mx2, (.slice p2 n2 c2)], .int .i64 0] _ _ from HZ2.out _ (hgq.trans hG)).mono ?_); rintro e' w7 ⟨rfl, hb⟩)); (try dsimp only); replace hG := hG.trans hb; refine hK.out _ _ hG ?_; clear hK K hb; try simp only [Act.put, List.setIfInBounds_toArray, List.set_cons_zero, List.set_cons_succ]))
            refine wpG_last ?_ (fun K hK => ?_); (focus rfl)
            have hc := hG.cells
            have hm := hG.marks
            go_simp
            refine hK.out _ _ ?_
            try simp only [Act.put, List.setIfInBounds_toArray, List.set_cons_zero, List.set_cons_succ]
            clear hK K hc hm
            refine wpG_done ?_
            clear f0 f1 f2 f3 f4 f5 f6 f7 f8 f9 f10 f11 f12 f13 f14 f15 f16 f17 f18 f19 f20 hbr'
            go_wp2_with fail
            go_roundw
            case rel => exact ⟨k + 1, _, by have := HKT.out; omega, by go_num, rfl, hgq.trans hG⟩
            case measure => have := HKT.out; simp [intOf]; omega
          · have hkE : k = n := by omega
            clear hlt hk
            subst hkE
            by_cases hbig : (20000 : Int) < y
            · go_wp2_with fail
              go_roundw
              case rel => exact ⟨j + 1, by have := HLT.out; omega, by go_num, hgq⟩
              case measure => have := HLT.out; simp [intOf]; omega
            · go_wp2_with fail
              go_at_call 15
              refine (show Calls Tryd.prog 15 #[.slice pi k ci] wr _ from by
                have h := copyCores_any l (.slice pi l.length ci) wr (HSL.out.later hgq) (fun p hp => (HCO.out p hp).later hgq) HLB.out
                rw [HN.out] at h
                exact h).mono ?_; rintro e' w2 ⟨pc, cc, ls, rfl, hsc, hfc, hcc, hb1⟩
              have HSC := Lib.hid hsc
              have HFC := Lib.hid hfc
              have HCC := Lib.hid hcc
              have HNC := Lib.hid (show ls.length = k by have := congrArg List.length hfc; simp only [List.length_map] at this; rw [this, HN.out])
              clear hsc hfc hcc d0 hbr
              have hg2 := hgq.trans hb1
              clear hb1 hgq
              go_wp2_with fail
              go_at_call 16
              refine (show Calls Tryd.prog 16 #[.slice pc k cc] w2 _ from cuts_any ls _ w2 HSC.out HCC.out _ ((HF.out.later hg2).errs 15 (by omega) (by omega)) _ ((HF.out.later hg2).errs 10 (by omega) (by omega))).mono ?_; rintro e' w3 ⟨v3, er, rfl, ht1, hb1⟩
              have HT1 := Lib.hid ht1
              have HB1 := Lib.hid hb1
              have hg3 := hg2.trans hb1
              clear ht1 hb1 hg2
              have d0 := hg3.cell HCELL.out
              have hbr : b < w3.heap.size := by have := hg3.size; have := HBW.out; omega
              go_wp2_with fail
              go_at_call 17
              refine (show Calls Tryd.prog 17 #[.slice pi k ci] w3 _ from by
                have h := cuts8_any l (.slice pi l.length ci) w3 (HSL.out.later hg3) (fun p hp => (HCO.out p hp).later hg3)
                rw [HN.out] at h
                exact h).mono ?_; rintro e' w4 ⟨v4, fc, fr, rfl, ht2, hb2⟩
              have HT2 := Lib.hid ht2
              have HB2 := Lib.hid hb2
              have hg4 := hg3.trans hb2
              clear ht2 hb2 hg3 d0 hbr
              have HBO := Lib.hid (fun (cur : World) (h : Gr w4 cur) => bothCuts HF.out (by have := HT1.out; rw [HFC.out] at this; exact this) HT2.out cur (hg4.trans h) (HB2.out.trans h) h)
              have HEC := Lib.hid (fun (cur : World) (h : Gr w4 cur) => show Calls Tryd.prog 19 #[.slice pc k cc, .slice pi k ci] cur _ from by
                have h := eqCores_self ls l (.slice pc k cc) (.slice pi l.length ci) cur (((HSC.out.later HB1.out).later HB2.out).later h) (fun p hp => (((HCC.out p hp).later HB1.out).later HB2.out).later h) (HSL.out.later (hg4.trans h)) (fun p hp => (HCO.out p hp).later (hg4.trans h)) HFC.out
                rw [HN.out] at h
                exact h)
              go_wp2_with fail
              go_at_call 18
              refine name_calls (fun W5 hW => ?_)
              obtain ⟨x5, hb5⟩ := bx1c hW
              clear hW
              refine ((HBO.out W5 hb5).1).mono ?_; rintro e' w6 ⟨rfl, hb1⟩
              replace x5 := x5.later hb1
              replace hb5 := hb5.trans hb1
              clear hb1
              have c_f0 := x5.cell 0 _ rfl
              have c_f1 := x5.cell 1 _ rfl
              have c_f2 := x5.cell 2 _ rfl
              have c_f3 := x5.cell 3 _ rfl
              have c_f4 := x5.cell 4 _ rfl
              have m_f0 := x5.mark 0 _ rfl
              have m_f1 := x5.mark 1 _ rfl
              have m_f2 := x5.mark 2 _ rfl
              have m_f3 := x5.mark 3 _ rfl
              have m_f4 := x5.mark 4 _ rfl
              have l_f := x5.lt (Nat.succ_pos _)
              go_wp2_with fail
              go_at_call 13
              refine ((HBO.out w6 hb5).2).mono ?_; rintro e' w7 ⟨rfl, hb1⟩
              clear c_f0 c_f1 c_f2 c_f3 c_f4 m_f0 m_f1 m_f2 m_f3 m_f4 l_f
              clear x5
              replace hb5 := hb5.trans hb1
              clear hb1
              have hg7 := hg4.trans hb5
              have d0 := hg7.cell HCELL.out
              have hbr : b < w7.heap.size := by have := hg7.size; have := HBW.out; omega
              go_wp2_with fail
              go_at_call 19
              refine (HEC.out w7 hb5).mono ?_; rintro e' w8 ⟨rfl, hb1⟩
              clear d0 hbr
              go_wp2_with fail
              go_roundw
              case rel => exact ⟨j + 1, by have := HLT.out; omega, by go_num, hg7.trans hb1⟩
              case measure => have := HLT.out; simp [intOf]; omega
      · have hjI : (j : Int) < (L.length : Int) := by omega
        have hjF : ¬ (j : Int) < 20 := by omega
        clear hlt hfew hj
        go_wp2_with fail
        go_at_call 8
        refine (HWK.out _ hg).mono ?_; rintro e' w1 ⟨rfl, hb1⟩
        go_wp2_with fail
        go_ret
        exact ⟨rfl, hg.trans hb1⟩
    · have hjE : j = L.length := by omega
      clear hlt hj
      subst hjE
      go_wp2_with fail
      go_at_call 8
      refine (HWK.out _ hg).mono ?_; rintro e' w1 ⟨rfl, hb1⟩
      go_wp2_with fail
      go_ret
      exact ⟨rfl, hg.trans hb1⟩

end Go.Proofs.YtpcmgkohebihmaaDoor
