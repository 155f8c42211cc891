/- ClassReads of bolterlaw3, walked: it answers true. No condition but the errors' variables. Printed by gen_reads.py. -/
import Derived.Test.YtihjmeoklbmnmaaGreatDoorPR3m
import Derived.Test.YtihjmeoklbmnmaaGreatDoorPTellErr
import Derived.Test.YtihjmeoklbmnmaaGreatDoorPPlaces
import Derived.Test.YtihjmeoklbmnmaaGreatDoorPGa
import Derived.Deep.DeepCutAuto
namespace Go.Proofs.YtihjmeoklbmnmaaGreatDoor
open Go Go.RowKit

/-- What the two answer of one text at one place. -/
theorem parse_pair (t : List UInt8) (a : Int) (s : Nat → Addr) (w : World) (hT : (t.length : Int) ≤ 4000) (hF : FaultsIn w s) (hm : ∃ m, w.cell? ⟨17, 0, none⟩ = some (.int .i64 m)) :
    ∃ (S : BitVec 256) (m : Int) (xx : Option (Bool × Nat)),
      (∀ W, Gr w W → Calls Tryz.prog 4 #[.string (st t), .int .i64 a] W fun e w' => Gr W w' ∧ ∃ err, e = .returned (.tuple #[.agg #[.int .u64 (wd S 0), .int .u64 (wd S 1), .int .u64 (wd S 2), .int .u64 (wd S 3)], .int .i64 m, err]) ∧ ErrIn s w' xx err) ∧
      (∀ W, Gr w W → Calls Tryz.prog 5 #[.string (st t), .int .i64 a] W fun e w' => Gr W w' ∧ e = .returned (.tuple #[.agg #[.int .u64 (wd S 0), .int .u64 (wd S 1), .int .u64 (wd S 2), .int .u64 (wd S 3)], .int .i64 m, .agg #[.int .i64 (codeO xx : Int), .int .i64 0, .int .i64 0, .int .i64 (placeO xx : Int), .slice none 0 0]])) := by
  have h1 := fun W (hW : Gr w W) => parse_any t a (esV s 3) (esV s 4) W (by omega) ((hF.later hW).sy0 (by obtain ⟨m, hm⟩ := hm; exact ⟨m, hW.cell hm⟩))
  have h2 := fun W => parse3_any t a W (by omega)
  cases hx : parseP t a with
  | ok S r =>
    rw [hx] at h1 h2
    refine ⟨S, ((t.length - r.length : Nat) : Int), none, fun W hW => (h1 W hW).mono ?_, fun W hW => h2 W⟩
    rintro e w' ⟨hg, rfl⟩
    exact ⟨hg, _, rfl, rfl⟩
  | bad d r =>
    rw [hx] at h1 h2
    refine ⟨emptyS, 0, some (d, t.length - r.length), fun W hW => (h1 W hW).mono ?_, fun W hW => h2 W⟩
    rintro e w' ⟨hg, er, rfl, hr⟩
    exact ⟨hg, er, rfl, ErrIn.refused (d := d) hr⟩

set_option maxRecDepth 100000 in
set_option maxHeartbeats 8000000 in
theorem classReads_any (ls : List (List UInt8 × Int)) (p : Option Addr) (c0 : Nat) (s : Nat → Addr) (w : World) (hs : Sl w (.slice p ls.length c0) 2 ls.length (ls.flatMap plCells)) (hF : FaultsIn w s) (hm : ∃ m, w.cell? ⟨17, 0, none⟩ = some (.int .i64 m)) :
    Calls Tryz.prog 3 #[.slice p ls.length c0] w fun e w' => e = .returned (.bool true) ∧ Gr w w' := by
  have HSS := Lib.hid hs
  have HS := Lib.hid (hF.sy0 hm)
  have HF := Lib.hid hF
  have HP := Lib.hid (fun t a W (hW : Gr w W) hT => parse_pair t a s W hT (hF.later hW) (by obtain ⟨m, hm⟩ := hm; exact ⟨m, hW.cell hm⟩))
  clear hs hF hm
  go_enter Tryz.func3, Tryz.ntmps3
  go_wp2_with fail
  go_loopw [3] (fun i wr => ∃ k : Nat, k ≤ ls.length ∧ k ≤ 20 ∧ i = .int .i64 k ∧ Gr w wr) (fun i _ => ls.length - (intOf i).toNat)
  case atStart => exact ⟨0, by omega, by omega, rfl, Gr.refl _⟩
  case round =>
    obtain ⟨k, hk, hk20, rfl, hg⟩ := hrel
    by_cases hlt : k < ls.length ∧ k < 20
    rotate_left
    · have hx : (ls.length ≤ k) ∨ ((k : Int) < (ls.length : Int) ∧ (k : Int) = 20) := by omega
      clear hlt hk hk20
      rcases hx with hx | ⟨hx1, hx2⟩
      · have hb1 : decide ((k : Int) < (ls.length : Int)) = false := by simp; omega
        have hb2 : decide (k < ls.length) = false := by simp; omega
        clear hx
        go_wp2_with (go_at_call 7; (with_reducible refine (wakes_any _ _ _ (HS.out.later hg)).mono ?_); rintro e w5 ⟨rfl, hb⟩)
        go_ret
        exact ⟨rfl, hg.trans hb⟩
      · go_wp2_with (go_at_call 7; (with_reducible refine (wakes_any _ _ _ (HS.out.later hg)).mono ?_); rintro e w5 ⟨rfl, hb⟩)
        go_ret
        exact ⟨rfl, hg.trans hb⟩
    obtain ⟨⟨t, a⟩, hkt⟩ : ∃ x, ls[k]? = some x := ⟨_, List.getElem?_eq_getElem hlt.1⟩
    obtain ⟨bl, off, rfl, hbl, d0, d1⟩ := place_at HSS.out hkt
    replace d0 := hg.cell d0
    replace d1 := hg.cell d1
    have hsz := st_size t
    have hbr : bl < wr.heap.size := by have := hg.size; omega
    have hkI : (k : Int) < (ls.length : Int) := by omega
    have hk2 : (k : Int) < 20 := by omega
    obtain ⟨k1, hk1⟩ : ∃ x, k + 1 = x := ⟨_, rfl⟩
    have hw1 : IntKind.i64.wrap ((k : Int) + 1) = (k1 : Int) := by rw [IntWalk.i64_in _ (by omega)]; omega
    have HK1 := Lib.hid (show k + 1 = k1 ∧ k < ls.length ∧ k < 20 from ⟨hk1, hlt.1, hlt.2⟩)
    clear hlt hk hk20 hkt hk1
    by_cases hA : (4000 : Int) < (t.length : Int)
    · go_wp2_with fail
      go_roundw
      case rel => exact ⟨k1, by have := HK1.out; omega, by have := HK1.out; omega, rfl, hg⟩
      case measure => have := HK1.out; simp [intOf]; omega
    obtain ⟨S, m, xx, h1, h3⟩ := HP.out t a wr hg (by omega)
    obtain ⟨cf, hcf⟩ : ∃ x : Int, (codeO xx : Int) = x := ⟨_, rfl⟩
    obtain ⟨pf, hpf⟩ : ∃ x : Int, (placeO xx : Int) = x := ⟨_, rfl⟩
    rw [hcf, hpf] at h3
    have HCF := Lib.hid (And.intro hcf hpf)
    clear hcf hpf
    have H1 := Lib.hid h1
    have H3 := Lib.hid h3
    clear h1 h3
    go_upto_region 5 with fail
    go_cut [4, 5, 6] from 27 to 41 (fun v4 v5 v6 wx => ∃ ba : Nat, v4 = .pointer (some ⟨ba, 0, none⟩) ∧ v5 = .int .i64 m ∧ boxAt wx ba [.int .u64 (wd S 0), .int .u64 (wd S 1), .int .u64 (wd S 2), .int .u64 (wd S 3)] ∧ Hid (ErrIn s wx xx v6) ∧ Gr wr wx)
    case first =>
      refine wp_region_G (.take 0 (.take 1 (.take 2 (.take 3 (.take 4 (.take 5 (.take 6 (.take 7 (.take 8 (.take 9 (.fork 10 (.take 11 (.take 12 (.take 13 (.take 14 (.run 15 false (.run 16 false (.run 17 false (.run 18 true .nil)))))))) 15 (.run 10 false (.take 11 (.take 12 (.take 13 (.take 14 (.run 16 false (.run 17 false (.run 18 true .nil))))))))))))))))))) (by kernel_rfl) (by kernel_rfl) ?_
      simp only [pickOps, nthOp]
      intro wz hG
      repeat' (first
        | (refine wpG_take ?_ ?_; (focus rfl); apply Exists.intro; refine ⟨fun w' hw' => ?_, ?_⟩; (focus (have hc := Gr.cells hw'; go_simp; (try rfl); done)); (try simp only [Act.put, List.setIfInBounds_toArray, List.set_cons_zero, List.set_cons_succ]))
        | (refine wpG_fork3 ?_ ?_ ?_ (fun K hK => ?_) (fun K hK => ?_) (fun K hK => ?_) <;> first | rfl | (first | (go_simp; go_at_call 4; (with_reducible refine (H1.out _ hG).mono ?_); rintro e' wn ⟨hb, err, rfl, hin⟩;  (try replace xa := xa.later hb); (try replace hin := hin.later hb); (try dsimp only); replace hG := hG.trans hb; refine hK.out _ _ hG ?_; clear hb hK K; (try simp only [Act.put, List.setIfInBounds_toArray, List.set_cons_zero, List.set_cons_succ])) | (go_simp; refine name_K3 (fun wn hW' => ?_); have hb : Gr _ wn := (by rw [hW']; exact Gr.alloc _ _); have xa : NB3 wr wn _ [.int .u64 0, .int .u64 0, .int .u64 0, .int .u64 0] := (by rw [hW']; exact ⟨boxAt.new _ _ rfl, hG.size⟩);  (try replace hin := hin.later hb); clear hW'; replace hG := hG.trans hb; refine hK.out _ _ hG ?_; clear hb hK K; (try simp only [Act.put, List.setIfInBounds_toArray, List.set_cons_zero, List.set_cons_succ])) | (go_simp; refine hK.out _ _ hG ?_; clear hK K; (try simp only [Act.put, List.setIfInBounds_toArray, List.set_cons_zero, List.set_cons_succ])) | (have z0 := xa.1.cell 0 _ rfl; have v0 := xa.1.mark 0 _ rfl; have z1 := xa.1.cell 1 _ rfl; have v1 := xa.1.mark 1 _ rfl; have z2 := xa.1.cell 2 _ rfl; have v2 := xa.1.mark 2 _ rfl; have z3 := xa.1.cell 3 _ rfl; have v3 := xa.1.mark 3 _ rfl; have lz := xa.1.lt (Nat.succ_pos _); go_simp; refine name_K3 (fun wn hW' => ?_); have hGn := xa.gr4 hG hW';  (try replace hin := hin.far4 xa hW'); replace xa := xa.put4 hW'; replace hG := hGn; refine hK.out _ _ hG ?_; clear hGn hW' hK K z0 v0 z1 v1 z2 v2 z3 v3 lz; (try simp only [Act.put, List.setIfInBounds_toArray, List.set_cons_zero, List.set_cons_succ]))))
        | (refine wpG_fork ?_ ?_ (fun K hK => ?_) (fun K hK => ?_) <;> first | rfl | (first | (go_simp; go_at_call 4; (with_reducible refine (H1.out _ hG).mono ?_); rintro e' wn ⟨hb, err, rfl, hin⟩;  (try replace xa := xa.later hb); (try replace hin := hin.later hb); (try dsimp only); replace hG := hG.trans hb; refine hK.out _ _ hG ?_; clear hb hK K; (try simp only [Act.put, List.setIfInBounds_toArray, List.set_cons_zero, List.set_cons_succ])) | (go_simp; refine name_K3 (fun wn hW' => ?_); have hb : Gr _ wn := (by rw [hW']; exact Gr.alloc _ _); have xa : NB3 wr wn _ [.int .u64 0, .int .u64 0, .int .u64 0, .int .u64 0] := (by rw [hW']; exact ⟨boxAt.new _ _ rfl, hG.size⟩);  (try replace hin := hin.later hb); clear hW'; replace hG := hG.trans hb; refine hK.out _ _ hG ?_; clear hb hK K; (try simp only [Act.put, List.setIfInBounds_toArray, List.set_cons_zero, List.set_cons_succ])) | (go_simp; refine hK.out _ _ hG ?_; clear hK K; (try simp only [Act.put, List.setIfInBounds_toArray, List.set_cons_zero, List.set_cons_succ])) | (have z0 := xa.1.cell 0 _ rfl; have v0 := xa.1.mark 0 _ rfl; have z1 := xa.1.cell 1 _ rfl; have v1 := xa.1.mark 1 _ rfl; have z2 := xa.1.cell 2 _ rfl; have v2 := xa.1.mark 2 _ rfl; have z3 := xa.1.cell 3 _ rfl; have v3 := xa.1.mark 3 _ rfl; have lz := xa.1.lt (Nat.succ_pos _); go_simp; refine name_K3 (fun wn hW' => ?_); have hGn := xa.gr4 hG hW';  (try replace hin := hin.far4 xa hW'); replace xa := xa.put4 hW'; replace hG := hGn; refine hK.out _ _ hG ?_; clear hGn hW' hK K z0 v0 z1 v1 z2 v2 z3 v3 lz; (try simp only [Act.put, List.setIfInBounds_toArray, List.set_cons_zero, List.set_cons_succ]))))
        | (refine wpG_run ?_ (fun K hK => ?_); (focus rfl); (first | (go_simp; go_at_call 4; (with_reducible refine (H1.out _ hG).mono ?_); rintro e' wn ⟨hb, err, rfl, hin⟩;  (try replace xa := xa.later hb); (try replace hin := hin.later hb); (try dsimp only); replace hG := hG.trans hb; refine hK.out _ _ hG ?_; clear hb hK K; (try simp only [Act.put, List.setIfInBounds_toArray, List.set_cons_zero, List.set_cons_succ])) | (go_simp; refine name_K3 (fun wn hW' => ?_); have hb : Gr _ wn := (by rw [hW']; exact Gr.alloc _ _); have xa : NB3 wr wn _ [.int .u64 0, .int .u64 0, .int .u64 0, .int .u64 0] := (by rw [hW']; exact ⟨boxAt.new _ _ rfl, hG.size⟩);  (try replace hin := hin.later hb); clear hW'; replace hG := hG.trans hb; refine hK.out _ _ hG ?_; clear hb hK K; (try simp only [Act.put, List.setIfInBounds_toArray, List.set_cons_zero, List.set_cons_succ])) | (go_simp; refine hK.out _ _ hG ?_; clear hK K; (try simp only [Act.put, List.setIfInBounds_toArray, List.set_cons_zero, List.set_cons_succ])) | (have z0 := xa.1.cell 0 _ rfl; have v0 := xa.1.mark 0 _ rfl; have z1 := xa.1.cell 1 _ rfl; have v1 := xa.1.mark 1 _ rfl; have z2 := xa.1.cell 2 _ rfl; have v2 := xa.1.mark 2 _ rfl; have z3 := xa.1.cell 3 _ rfl; have v3 := xa.1.mark 3 _ rfl; have lz := xa.1.lt (Nat.succ_pos _); go_simp; refine name_K3 (fun wn hW' => ?_); have hGn := xa.gr4 hG hW';  (try replace hin := hin.far4 xa hW'); replace xa := xa.put4 hW'; replace hG := hGn; refine hK.out _ _ hG ?_; clear hGn hW' hK K z0 v0 z1 v1 z2 v2 z3 v3 lz; (try simp only [Act.put, List.setIfInBounds_toArray, List.set_cons_zero, List.set_cons_succ]))))
        | (refine wpG_last ?_ (fun K hK => ?_); (focus rfl); (first | (go_simp; refine hK.out _ _ ?_; clear hK K; (try simp only [Act.put, List.setIfInBounds_toArray, List.set_cons_zero, List.set_cons_succ])) | (have z0 := xa.1.cell 0 _ rfl; have v0 := xa.1.mark 0 _ rfl; have z1 := xa.1.cell 1 _ rfl; have v1 := xa.1.mark 1 _ rfl; have z2 := xa.1.cell 2 _ rfl; have v2 := xa.1.mark 2 _ rfl; have z3 := xa.1.cell 3 _ rfl; have v3 := xa.1.mark 3 _ rfl; have lz := xa.1.lt (Nat.succ_pos _); go_simp; refine name_K3 (fun wn hW' => ?_); have hGn := xa.gr4 hG hW';  (try replace hin := hin.far4 xa hW'); replace xa := xa.put4 hW'; replace hG := hGn; refine hK.out _ _ ?_; clear hGn hW' hK K z0 v0 z1 v1 z2 v2 z3 v3 lz; (try simp only [Act.put, List.setIfInBounds_toArray, List.set_cons_zero, List.set_cons_succ])))))
      all_goals
        refine wpG_done ?_
        go_wp2_with fail
        go_meet
        case rel => exact ⟨_, rfl, rfl, xa.1, hin, hG⟩
    case rest =>
      obtain ⟨ba, rfl, rfl, xa, hsm, hg5⟩ := hcut
      have HSM5 := Lib.hid hsm
      have e0 := hg5.cell d0
      have e1 := hg5.cell d1
      have hbc : bl < wc.heap.size := by have := hg5.size; omega
      clear d0 d1 hbr hsm
      obtain ⟨W5, hW5⟩ : ∃ W5, W5 = wc := ⟨_, rfl⟩
      subst hW5
      go_upto_region 6 with fail
      go_cut [7, 8, 9] from 42 to 56 (fun v7 v8 v9 wx => ∃ bb bf : Nat, v7 = .pointer (some ⟨bb, 0, none⟩) ∧ v8 = .int .i64 m ∧ v9 = .pointer (some ⟨bf, 0, none⟩) ∧ boxAt wx bb [.int .u64 (wd S 0), .int .u64 (wd S 1), .int .u64 (wd S 2), .int .u64 (wd S 3)] ∧ boxAt wx bf [.int .i64 cf, .int .i64 0, .int .i64 0, .int .i64 pf, .slice none 0 0] ∧ Gr W5 wx)
      case first =>
        refine wp_region_G (.take 0 (.take 1 (.take 2 (.take 3 (.take 4 (.take 5 (.take 6 (.take 7 (.take 8 (.take 9 (.fork3 10 (.take 11 (.take 12 (.take 13 (.take 14 (.fork 15 (.run 16 false (.run 17 false (.run 18 false (.run 19 true .nil)))) 16 (.run 15 false (.run 17 false (.run 18 false (.run 19 true .nil))))))))) 15 (.fork 10 (.take 11 (.take 12 (.take 13 (.take 14 (.run 16 false (.run 17 false (.run 18 false (.run 19 true .nil)))))))) 16 (.run 10 false (.take 11 (.take 12 (.take 13 (.take 14 (.run 17 false (.run 18 false (.run 19 true .nil))))))))) 16 (.fork 10 (.take 11 (.take 12 (.take 13 (.take 14 (.run 15 false (.run 17 false (.run 18 false (.run 19 true .nil)))))))) 15 (.run 10 false (.take 11 (.take 12 (.take 13 (.take 14 (.run 17 false (.run 18 false (.run 19 true .nil)))))))))))))))))))) (by kernel_rfl) (by kernel_rfl) ?_
        simp only [pickOps, nthOp]
        intro wz hG
        repeat' (first
          | (refine wpG_take ?_ ?_; (focus rfl); apply Exists.intro; refine ⟨fun w' hw' => ?_, ?_⟩; (focus (have hc := Gr.cells hw'; go_simp; (try rfl); done)); (try simp only [Act.put, List.setIfInBounds_toArray, List.set_cons_zero, List.set_cons_succ]))
          | (refine wpG_fork3 ?_ ?_ ?_ (fun K hK => ?_) (fun K hK => ?_) (fun K hK => ?_) <;> first | rfl | (first | (go_simp; go_at_call 5; (with_reducible refine (H3.out _ (hg5.trans hG)).mono ?_); rintro e' wn ⟨hb, rfl⟩;  (try replace xb := xb.later hb); (try replace xf := xf.later hb); (try dsimp only); replace hG := hG.trans hb; refine hK.out _ _ hG ?_; clear hb hK K; (try simp only [Act.put, List.setIfInBounds_toArray, List.set_cons_zero, List.set_cons_succ])) | (go_simp; refine name_K3 (fun wn hW' => ?_); have hb : Gr _ wn := (by rw [hW']; exact Gr.alloc _ _); have xb : NB3 W5 wn _ [.int .u64 0, .int .u64 0, .int .u64 0, .int .u64 0] := (by rw [hW']; exact ⟨boxAt.new _ _ rfl, hG.size⟩); (try have hd_xb_xf := Nat.ne_of_lt (xf.1.lt (Nat.succ_pos _))); (try replace xf := xf.later hb); clear hW'; replace hG := hG.trans hb; refine hK.out _ _ hG ?_; clear hb hK K; (try simp only [Act.put, List.setIfInBounds_toArray, List.set_cons_zero, List.set_cons_succ])) | (go_simp; refine name_K3 (fun wn hW' => ?_); have hb : Gr _ wn := (by rw [hW']; exact Gr.alloc _ _); have xf : NB3 W5 wn _ [.int .i64 0, .int .i64 0, .int .i64 0, .int .i64 0, .slice none 0 0] := (by rw [hW']; exact ⟨boxAt.new _ _ rfl, hG.size⟩); (try have hd_xf_xb := Nat.ne_of_lt (xb.1.lt (Nat.succ_pos _))); (try replace xb := xb.later hb); clear hW'; replace hG := hG.trans hb; refine hK.out _ _ hG ?_; clear hb hK K; (try simp only [Act.put, List.setIfInBounds_toArray, List.set_cons_zero, List.set_cons_succ])) | (go_simp; refine hK.out _ _ hG ?_; clear hK K; (try simp only [Act.put, List.setIfInBounds_toArray, List.set_cons_zero, List.set_cons_succ])) | (have z0 := xb.1.cell 0 _ rfl; have v0 := xb.1.mark 0 _ rfl; have z1 := xb.1.cell 1 _ rfl; have v1 := xb.1.mark 1 _ rfl; have z2 := xb.1.cell 2 _ rfl; have v2 := xb.1.mark 2 _ rfl; have z3 := xb.1.cell 3 _ rfl; have v3 := xb.1.mark 3 _ rfl; have lz := xb.1.lt (Nat.succ_pos _); go_simp; refine name_K3 (fun wn hW' => ?_); have hGn := xb.gr4 hG hW'; (try replace xf := xf.far4 hW' (by first | assumption | exact Ne.symm (by assumption))); replace xb := xb.put4 hW'; replace hG := hGn; refine hK.out _ _ hG ?_; clear hGn hW' hK K z0 v0 z1 v1 z2 v2 z3 v3 lz; (try simp only [Act.put, List.setIfInBounds_toArray, List.set_cons_zero, List.set_cons_succ])) | (have z0 := xf.1.cell 0 _ rfl; have v0 := xf.1.mark 0 _ rfl; have z1 := xf.1.cell 1 _ rfl; have v1 := xf.1.mark 1 _ rfl; have z2 := xf.1.cell 2 _ rfl; have v2 := xf.1.mark 2 _ rfl; have z3 := xf.1.cell 3 _ rfl; have v3 := xf.1.mark 3 _ rfl; have z4 := xf.1.cell 4 _ rfl; have v4 := xf.1.mark 4 _ rfl; have lz := xf.1.lt (Nat.succ_pos _); go_simp; refine name_K3 (fun wn hW' => ?_); have hGn := xf.gr5 hG hW'; (try replace xb := xb.far5 hW' (by first | assumption | exact Ne.symm (by assumption))); replace xf := xf.put5 hW'; replace hG := hGn; refine hK.out _ _ hG ?_; clear hGn hW' hK K z0 v0 z1 v1 z2 v2 z3 v3 z4 v4 lz; (try simp only [Act.put, List.setIfInBounds_toArray, List.set_cons_zero, List.set_cons_succ]))))
          | (refine wpG_fork ?_ ?_ (fun K hK => ?_) (fun K hK => ?_) <;> first | rfl | (first | (go_simp; go_at_call 5; (with_reducible refine (H3.out _ (hg5.trans hG)).mono ?_); rintro e' wn ⟨hb, rfl⟩;  (try replace xb := xb.later hb); (try replace xf := xf.later hb); (try dsimp only); replace hG := hG.trans hb; refine hK.out _ _ hG ?_; clear hb hK K; (try simp only [Act.put, List.setIfInBounds_toArray, List.set_cons_zero, List.set_cons_succ])) | (go_simp; refine name_K3 (fun wn hW' => ?_); have hb : Gr _ wn := (by rw [hW']; exact Gr.alloc _ _); have xb : NB3 W5 wn _ [.int .u64 0, .int .u64 0, .int .u64 0, .int .u64 0] := (by rw [hW']; exact ⟨boxAt.new _ _ rfl, hG.size⟩); (try have hd_xb_xf := Nat.ne_of_lt (xf.1.lt (Nat.succ_pos _))); (try replace xf := xf.later hb); clear hW'; replace hG := hG.trans hb; refine hK.out _ _ hG ?_; clear hb hK K; (try simp only [Act.put, List.setIfInBounds_toArray, List.set_cons_zero, List.set_cons_succ])) | (go_simp; refine name_K3 (fun wn hW' => ?_); have hb : Gr _ wn := (by rw [hW']; exact Gr.alloc _ _); have xf : NB3 W5 wn _ [.int .i64 0, .int .i64 0, .int .i64 0, .int .i64 0, .slice none 0 0] := (by rw [hW']; exact ⟨boxAt.new _ _ rfl, hG.size⟩); (try have hd_xf_xb := Nat.ne_of_lt (xb.1.lt (Nat.succ_pos _))); (try replace xb := xb.later hb); clear hW'; replace hG := hG.trans hb; refine hK.out _ _ hG ?_; clear hb hK K; (try simp only [Act.put, List.setIfInBounds_toArray, List.set_cons_zero, List.set_cons_succ])) | (go_simp; refine hK.out _ _ hG ?_; clear hK K; (try simp only [Act.put, List.setIfInBounds_toArray, List.set_cons_zero, List.set_cons_succ])) | (have z0 := xb.1.cell 0 _ rfl; have v0 := xb.1.mark 0 _ rfl; have z1 := xb.1.cell 1 _ rfl; have v1 := xb.1.mark 1 _ rfl; have z2 := xb.1.cell 2 _ rfl; have v2 := xb.1.mark 2 _ rfl; have z3 := xb.1.cell 3 _ rfl; have v3 := xb.1.mark 3 _ rfl; have lz := xb.1.lt (Nat.succ_pos _); go_simp; refine name_K3 (fun wn hW' => ?_); have hGn := xb.gr4 hG hW'; (try replace xf := xf.far4 hW' (by first | assumption | exact Ne.symm (by assumption))); replace xb := xb.put4 hW'; replace hG := hGn; refine hK.out _ _ hG ?_; clear hGn hW' hK K z0 v0 z1 v1 z2 v2 z3 v3 lz; (try simp only [Act.put, List.setIfInBounds_toArray, List.set_cons_zero, List.set_cons_succ])) | (have z0 := xf.1.cell 0 _ rfl; have v0 := xf.1.mark 0 _ rfl; have z1 := xf.1.cell 1 _ rfl; have v1 := xf.1.mark 1 _ rfl; have z2 := xf.1.cell 2 _ rfl; have v2 := xf.1.mark 2 _ rfl; have z3 := xf.1.cell 3 _ rfl; have v3 := xf.1.mark 3 _ rfl; have z4 := xf.1.cell 4 _ rfl; have v4 := xf.1.mark 4 _ rfl; have lz := xf.1.lt (Nat.succ_pos _); go_simp; refine name_K3 (fun wn hW' => ?_); have hGn := xf.gr5 hG hW'; (try replace xb := xb.far5 hW' (by first | assumption | exact Ne.symm (by assumption))); replace xf := xf.put5 hW'; replace hG := hGn; refine hK.out _ _ hG ?_; clear hGn hW' hK K z0 v0 z1 v1 z2 v2 z3 v3 z4 v4 lz; (try simp only [Act.put, List.setIfInBounds_toArray, List.set_cons_zero, List.set_cons_succ]))))
          | (refine wpG_run ?_ (fun K hK => ?_); (focus rfl); (first | (go_simp; go_at_call 5; (with_reducible refine (H3.out _ (hg5.trans hG)).mono ?_); rintro e' wn ⟨hb, rfl⟩;  (try replace xb := xb.later hb); (try replace xf := xf.later hb); (try dsimp only); replace hG := hG.trans hb; refine hK.out _ _ hG ?_; clear hb hK K; (try simp only [Act.put, List.setIfInBounds_toArray, List.set_cons_zero, List.set_cons_succ])) | (go_simp; refine name_K3 (fun wn hW' => ?_); have hb : Gr _ wn := (by rw [hW']; exact Gr.alloc _ _); have xb : NB3 W5 wn _ [.int .u64 0, .int .u64 0, .int .u64 0, .int .u64 0] := (by rw [hW']; exact ⟨boxAt.new _ _ rfl, hG.size⟩); (try have hd_xb_xf := Nat.ne_of_lt (xf.1.lt (Nat.succ_pos _))); (try replace xf := xf.later hb); clear hW'; replace hG := hG.trans hb; refine hK.out _ _ hG ?_; clear hb hK K; (try simp only [Act.put, List.setIfInBounds_toArray, List.set_cons_zero, List.set_cons_succ])) | (go_simp; refine name_K3 (fun wn hW' => ?_); have hb : Gr _ wn := (by rw [hW']; exact Gr.alloc _ _); have xf : NB3 W5 wn _ [.int .i64 0, .int .i64 0, .int .i64 0, .int .i64 0, .slice none 0 0] := (by rw [hW']; exact ⟨boxAt.new _ _ rfl, hG.size⟩); (try have hd_xf_xb := Nat.ne_of_lt (xb.1.lt (Nat.succ_pos _))); (try replace xb := xb.later hb); clear hW'; replace hG := hG.trans hb; refine hK.out _ _ hG ?_; clear hb hK K; (try simp only [Act.put, List.setIfInBounds_toArray, List.set_cons_zero, List.set_cons_succ])) | (go_simp; refine hK.out _ _ hG ?_; clear hK K; (try simp only [Act.put, List.setIfInBounds_toArray, List.set_cons_zero, List.set_cons_succ])) | (have z0 := xb.1.cell 0 _ rfl; have v0 := xb.1.mark 0 _ rfl; have z1 := xb.1.cell 1 _ rfl; have v1 := xb.1.mark 1 _ rfl; have z2 := xb.1.cell 2 _ rfl; have v2 := xb.1.mark 2 _ rfl; have z3 := xb.1.cell 3 _ rfl; have v3 := xb.1.mark 3 _ rfl; have lz := xb.1.lt (Nat.succ_pos _); go_simp; refine name_K3 (fun wn hW' => ?_); have hGn := xb.gr4 hG hW'; (try replace xf := xf.far4 hW' (by first | assumption | exact Ne.symm (by assumption))); replace xb := xb.put4 hW'; replace hG := hGn; refine hK.out _ _ hG ?_; clear hGn hW' hK K z0 v0 z1 v1 z2 v2 z3 v3 lz; (try simp only [Act.put, List.setIfInBounds_toArray, List.set_cons_zero, List.set_cons_succ])) | (have z0 := xf.1.cell 0 _ rfl; have v0 := xf.1.mark 0 _ rfl; have z1 := xf.1.cell 1 _ rfl; have v1 := xf.1.mark 1 _ rfl; have z2 := xf.1.cell 2 _ rfl; have v2 := xf.1.mark 2 _ rfl; have z3 := xf.1.cell 3 _ rfl; have v3 := xf.1.mark 3 _ rfl; have z4 := xf.1.cell 4 _ rfl; have v4 := xf.1.mark 4 _ rfl; have lz := xf.1.lt (Nat.succ_pos _); go_simp; refine name_K3 (fun wn hW' => ?_); have hGn := xf.gr5 hG hW'; (try replace xb := xb.far5 hW' (by first | assumption | exact Ne.symm (by assumption))); replace xf := xf.put5 hW'; replace hG := hGn; refine hK.out _ _ hG ?_; clear hGn hW' hK K z0 v0 z1 v1 z2 v2 z3 v3 z4 v4 lz; (try simp only [Act.put, List.setIfInBounds_toArray, List.set_cons_zero, List.set_cons_succ]))))
          | (refine wpG_last ?_ (fun K hK => ?_); (focus rfl); (first | (go_simp; refine hK.out _ _ ?_; clear hK K; (try simp only [Act.put, List.setIfInBounds_toArray, List.set_cons_zero, List.set_cons_succ])) | (have z0 := xb.1.cell 0 _ rfl; have v0 := xb.1.mark 0 _ rfl; have z1 := xb.1.cell 1 _ rfl; have v1 := xb.1.mark 1 _ rfl; have z2 := xb.1.cell 2 _ rfl; have v2 := xb.1.mark 2 _ rfl; have z3 := xb.1.cell 3 _ rfl; have v3 := xb.1.mark 3 _ rfl; have lz := xb.1.lt (Nat.succ_pos _); go_simp; refine name_K3 (fun wn hW' => ?_); have hGn := xb.gr4 hG hW'; (try replace xf := xf.far4 hW' (by first | assumption | exact Ne.symm (by assumption))); replace xb := xb.put4 hW'; replace hG := hGn; refine hK.out _ _ ?_; clear hGn hW' hK K z0 v0 z1 v1 z2 v2 z3 v3 lz; (try simp only [Act.put, List.setIfInBounds_toArray, List.set_cons_zero, List.set_cons_succ])) | (have z0 := xf.1.cell 0 _ rfl; have v0 := xf.1.mark 0 _ rfl; have z1 := xf.1.cell 1 _ rfl; have v1 := xf.1.mark 1 _ rfl; have z2 := xf.1.cell 2 _ rfl; have v2 := xf.1.mark 2 _ rfl; have z3 := xf.1.cell 3 _ rfl; have v3 := xf.1.mark 3 _ rfl; have z4 := xf.1.cell 4 _ rfl; have v4 := xf.1.mark 4 _ rfl; have lz := xf.1.lt (Nat.succ_pos _); go_simp; refine name_K3 (fun wn hW' => ?_); have hGn := xf.gr5 hG hW'; (try replace xb := xb.far5 hW' (by first | assumption | exact Ne.symm (by assumption))); replace xf := xf.put5 hW'; replace hG := hGn; refine hK.out _ _ ?_; clear hGn hW' hK K z0 v0 z1 v1 z2 v2 z3 v3 z4 v4 lz; (try simp only [Act.put, List.setIfInBounds_toArray, List.set_cons_zero, List.set_cons_succ])))))
        all_goals
          refine wpG_done ?_
          go_wp2_with fail
          go_meet
          case rel => exact ⟨_, _, rfl, rfl, rfl, xb.1, xf.1, hG⟩
      case rest =>
        obtain ⟨bb, bf, rfl, rfl, rfl, xb, xf, hg6⟩ := hcut
        have xa6 := xa.later hg6
        have HSM : Hid (∀ W2, Gr wc W2 → Calls Tryz.prog 6 #[u6, .agg #[.int .i64 cf, .int .i64 0, .int .i64 0, .int .i64 pf, .slice none 0 0]] W2 fun e w2 => e = .returned (.bool true) ∧ Gr W2 w2) := fun W2 h2 => by
          have := same_in (HF.out.later (((hg.trans hg5).trans hg6).trans h2)) xx u6 (HSM5.out.later (hg6.trans h2))
          rw [HCF.out.1, HCF.out.2] at this; exact this
        have c_a0 := xa6.cell 0 _ rfl
        have c_a1 := xa6.cell 1 _ rfl
        have c_a2 := xa6.cell 2 _ rfl
        have c_a3 := xa6.cell 3 _ rfl
        have m_a0 := xa6.mark 0 _ rfl
        have m_a1 := xa6.mark 1 _ rfl
        have m_a2 := xa6.mark 2 _ rfl
        have m_a3 := xa6.mark 3 _ rfl
        have l_a := xa6.lt (Nat.succ_pos _)
        have c_b0 := xb.cell 0 _ rfl
        have c_b1 := xb.cell 1 _ rfl
        have c_b2 := xb.cell 2 _ rfl
        have c_b3 := xb.cell 3 _ rfl
        have m_b0 := xb.mark 0 _ rfl
        have m_b1 := xb.mark 1 _ rfl
        have m_b2 := xb.mark 2 _ rfl
        have m_b3 := xb.mark 3 _ rfl
        have l_b := xb.lt (Nat.succ_pos _)
        have c_f0 := xf.cell 0 _ rfl
        have c_f1 := xf.cell 1 _ rfl
        have c_f2 := xf.cell 2 _ rfl
        have c_f3 := xf.cell 3 _ rfl
        have c_f4 := xf.cell 4 _ rfl
        have m_f0 := xf.mark 0 _ rfl
        have m_f1 := xf.mark 1 _ rfl
        have m_f2 := xf.mark 2 _ rfl
        have m_f3 := xf.mark 3 _ rfl
        have m_f4 := xf.mark 4 _ rfl
        have l_f := xf.lt (Nat.succ_pos _)
        clear xa xa6 xb xf e0 e1 hbc
        go_wp2_with (go_at_call 6; (with_reducible refine (HSM.out _ (Gr.refl _)).mono ?_); rintro e w8 ⟨rfl, hb8⟩)
        go_roundw
        case rel => exact ⟨k1, by have := HK1.out; omega, by have := HK1.out; omega, rfl, (hg.trans hg5).trans (hg6.trans hb8)⟩
        case measure => have := HK1.out; simp [intOf]; omega

end Go.Proofs.YtihjmeoklbmnmaaGreatDoor
