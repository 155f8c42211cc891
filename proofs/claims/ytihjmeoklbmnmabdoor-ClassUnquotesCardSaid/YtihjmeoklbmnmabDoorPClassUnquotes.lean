/- ClassUnquotes of bolterlaw3, walked: it answers true. No condition but the errors' variables. Printed by gen_reads.py. -/
import Derived.Test.YtihjmeoklbmnmabDoorPGj
import Derived.Test.YtihjmeoklbmnmabDoorPTellErr
import Derived.Test.YtihjmeoklbmnmabDoorPPlaces
import Derived.Test.YtihjmeoklbmnmabDoorPGa
import Derived.Deep.DeepCutAuto
namespace Go.Proofs.YtihjmeoklbmnmabDoor
open Go Go.RowKit

/-- What the two answer of one text at one place. -/
theorem unq_pair (t : List UInt8) (a : Int) (s : Nat → Addr) (w : World) (hT : (t.length : Int) ≤ 4000) (hF : FaultsIn w s) (hm : ∃ m, w.cell? ⟨17, 0, none⟩ = some (.int .i64 m)) :
    ∃ (S : List UInt8) (m : Int) (xx : Option (Bool × Nat)),
      (∀ W, Gr w W → Calls Tryd.prog 6 #[.string (st t), .int .i64 a] W fun e w' => Gr W w' ∧ ∃ err, e = .returned (.tuple #[.string (st S), .int .i64 m, err]) ∧ ErrIn s w' xx err) ∧
      (∀ W, Gr w W → Calls Tryd.prog 7 #[.string (st t), .int .i64 a] W fun e w' => Gr W w' ∧ e = .returned (.tuple #[.string (st S), .int .i64 m, .agg #[.int .i64 (codeO xx : Int), .int .i64 0, .int .i64 0, .int .i64 (placeO xx : Int), .slice none 0 0]])) := by
  have h1 := fun W (hW : Gr w W) => unquote_any t a (esV s 3) (esV s 4) W (by omega) ((hF.later hW).sy0 (by obtain ⟨m, hm⟩ := hm; exact ⟨m, hW.cell hm⟩))
  have h2 := fun W => unquote3_any t a W (by omega)
  cases hx : unquoteP t a with
  | ok S r =>
    rw [hx] at h1 h2
    refine ⟨S, ((t.length - r.length : Nat) : Int), none, fun W hW => (h1 W hW).mono ?_, fun W hW => h2 W⟩
    rintro e w' ⟨hg, rfl⟩
    exact ⟨hg, _, rfl, rfl⟩
  | bad r =>
    rw [hx] at h1 h2
    refine ⟨[], 0, some (false, t.length - r.length), fun W hW => (h1 W hW).mono ?_, fun W hW => h2 W⟩
    rintro e w' ⟨hg, er, rfl, hr⟩
    exact ⟨hg, er, rfl, ErrIn.refused (d := false) hr⟩

set_option maxRecDepth 100000 in
set_option maxHeartbeats 8000000 in
theorem classUnquotes_any (ls : List (List UInt8 × Int)) (p : Option Addr) (c0 : Nat) (s : Nat → Addr) (w : World) (hs : Sl w (.slice p ls.length c0) 2 ls.length (ls.flatMap plCells)) (hF : FaultsIn w s) (hm : ∃ m, w.cell? ⟨17, 0, none⟩ = some (.int .i64 m)) :
    Calls Tryd.prog 3 #[.slice p ls.length c0] w fun e w' => e = .returned (.bool true) ∧ Gr w w' := by
  have HSS := Lib.hid hs
  have HS := Lib.hid (hF.sy0 hm)
  have HF := Lib.hid hF
  have HP := Lib.hid (fun t a W (hW : Gr w W) hT => unq_pair t a s W hT (hF.later hW) (by obtain ⟨m, hm⟩ := hm; exact ⟨m, hW.cell hm⟩))
  clear hs hF hm
  go_enter Tryd.func3, Tryd.ntmps3
  go_wp2_with fail
  go_loopw [3] (fun i wr => ∃ k : Nat, k ≤ ls.length ∧ k ≤ 20 ∧ i = .int .i64 k ∧ Gr w wr) (fun i _ => ls.length - (intOf i).toNat)
  case atStart => exact ⟨0, by omega, by omega, rfl, Gr.refl _⟩
  case round =>
    obtain ⟨k, hk, hk20, rfl, hg⟩ := hrel
    by_cases hlt : k < ls.length ∧ k < 20
    rotate_left
    · have hx : (ls.length ≤ k) ∨ ((k : Int) < (ls.length : Int) ∧ (k : Int) = 20) := by omega
      clear hlt hk hk20
      rcases hx with hx | ⟨hx1, hx2⟩
      · have hb1 : decide ((k : Int) < (ls.length : Int)) = false := by simp; omega
        have hb2 : decide (k < ls.length) = false := by simp; omega
        clear hx
        go_wp2_with (go_at_call 9; (with_reducible refine (wakes_any _ _ _ (HS.out.later hg)).mono ?_); rintro e w5 ⟨rfl, hb⟩)
        go_ret
        exact ⟨rfl, hg.trans hb⟩
      · go_wp2_with (go_at_call 9; (with_reducible refine (wakes_any _ _ _ (HS.out.later hg)).mono ?_); rintro e w5 ⟨rfl, hb⟩)
        go_ret
        exact ⟨rfl, hg.trans hb⟩
    obtain ⟨⟨t, a⟩, hkt⟩ : ∃ x, ls[k]? = some x := ⟨_, List.getElem?_eq_getElem hlt.1⟩
    obtain ⟨bl, off, rfl, hbl, d0, d1⟩ := place_at HSS.out hkt
    replace d0 := hg.cell d0
    replace d1 := hg.cell d1
    have hsz := st_size t
    have hbr : bl < wr.heap.size := by have := hg.size; omega
    have hkI : (k : Int) < (ls.length : Int) := by omega
    have hk2 : (k : Int) < 20 := by omega
    obtain ⟨k1, hk1⟩ : ∃ x, k + 1 = x := ⟨_, rfl⟩
    have hw1 : IntKind.i64.wrap ((k : Int) + 1) = (k1 : Int) := by rw [IntWalk.i64_in _ (by omega)]; omega
    have HK1 := Lib.hid (show k + 1 = k1 ∧ k < ls.length ∧ k < 20 from ⟨hk1, hlt.1, hlt.2⟩)
    clear hlt hk hk20 hkt hk1
    by_cases hA : (4000 : Int) < (t.length : Int)
    · go_wp2_with fail
      go_roundw
      case rel => exact ⟨k1, by have := HK1.out; omega, by have := HK1.out; omega, rfl, hg⟩
      case measure => have := HK1.out; simp [intOf]; omega
    obtain ⟨S, m, xx, h1, h3⟩ := HP.out t a wr hg (by omega)
    obtain ⟨cf, hcf⟩ : ∃ x : Int, (codeO xx : Int) = x := ⟨_, rfl⟩
    obtain ⟨pf, hpf⟩ : ∃ x : Int, (placeO xx : Int) = x := ⟨_, rfl⟩
    rw [hcf, hpf] at h3
    have HCF := Lib.hid (And.intro hcf hpf)
    clear hcf hpf
    have H1 := Lib.hid h1
    have H3 := Lib.hid h3
    clear h1 h3
    go_upto_region 5 with fail
    go_cut [4, 5, 6] from 27 to 41 (fun v4 v5 v6 wx => v4 = .string (st S) ∧ v5 = .int .i64 m ∧ Hid (ErrIn s wx xx v6) ∧ Gr wr wx)
    case first =>
      refine wp_region_G (.take 0 (.take 1 (.take 2 (.take 3 (.take 4 (.take 5 (.take 6 (.take 7 (.take 8 (.take 9 (.run 10 false (.take 11 (.take 12 (.take 13 (.take 14 (.run 15 false (.run 16 false (.run 17 true .nil)))))))))))))))))) (by kernel_rfl) (by kernel_rfl) ?_
      simp only [pickOps, nthOp]
      intro wz hG
      repeat' (first
        | (refine wpG_take ?_ ?_; (focus rfl); apply Exists.intro; refine ⟨fun w' hw' => ?_, ?_⟩; (focus (have hc := Gr.cells hw'; go_simp; (try rfl); done)); (try simp only [Act.put, List.setIfInBounds_toArray, List.set_cons_zero, List.set_cons_succ]))
        | (refine wpG_fork3 ?_ ?_ ?_ (fun K hK => ?_) (fun K hK => ?_) (fun K hK => ?_) <;> first | rfl | (first | (go_simp; go_at_call 6; (with_reducible refine (H1.out _ hG).mono ?_); rintro e' wn ⟨hb, err, rfl, hin⟩;  (try replace hin := hin.later hb); (try dsimp only); replace hG := hG.trans hb; refine hK.out _ _ hG ?_; clear hb hK K; (try simp only [Act.put, List.setIfInBounds_toArray, List.set_cons_zero, List.set_cons_succ])) | (go_simp; refine hK.out _ _ hG ?_; clear hK K; (try simp only [Act.put, List.setIfInBounds_toArray, List.set_cons_zero, List.set_cons_succ]))))
        | (refine wpG_fork ?_ ?_ (fun K hK => ?_) (fun K hK => ?_) <;> first | rfl | (first | (go_simp; go_at_call 6; (with_reducible refine (H1.out _ hG).mono ?_); rintro e' wn ⟨hb, err, rfl, hin⟩;  (try replace hin := hin.later hb); (try dsimp only); replace hG := hG.trans hb; refine hK.out _ _ hG ?_; clear hb hK K; (try simp only [Act.put, List.setIfInBounds_toArray, List.set_cons_zero, List.set_cons_succ])) | (go_simp; refine hK.out _ _ hG ?_; clear hK K; (try simp only [Act.put, List.setIfInBounds_toArray, List.set_cons_zero, List.set_cons_succ]))))
        | (refine wpG_run ?_ (fun K hK => ?_); (focus rfl); (first | (go_simp; go_at_call 6; (with_reducible refine (H1.out _ hG).mono ?_); rintro e' wn ⟨hb, err, rfl, hin⟩;  (try replace hin := hin.later hb); (try dsimp only); replace hG := hG.trans hb; refine hK.out _ _ hG ?_; clear hb hK K; (try simp only [Act.put, List.setIfInBounds_toArray, List.set_cons_zero, List.set_cons_succ])) | (go_simp; refine hK.out _ _ hG ?_; clear hK K; (try simp only [Act.put, List.setIfInBounds_toArray, List.set_cons_zero, List.set_cons_succ]))))
        | (refine wpG_last ?_ (fun K hK => ?_); (focus rfl); (first | (go_simp; refine hK.out _ _ ?_; clear hK K; (try simp only [Act.put, List.setIfInBounds_toArray, List.set_cons_zero, List.set_cons_succ])))))
      all_goals
        refine wpG_done ?_
        go_wp2_with fail
        go_meet
        case rel => exact ⟨rfl, rfl, hin, hG⟩
    case rest =>
      obtain ⟨rfl, rfl, hsm, hg5⟩ := hcut
      have HSM5 := Lib.hid hsm
      have e0 := hg5.cell d0
      have e1 := hg5.cell d1
      have hbc : bl < wc.heap.size := by have := hg5.size; omega
      clear d0 d1 hbr hsm
      obtain ⟨W5, hW5⟩ : ∃ W5, W5 = wc := ⟨_, rfl⟩
      subst hW5
      go_upto_region 6 with fail
      go_cut [7, 8, 9] from 42 to 56 (fun v7 v8 v9 wx => ∃ bf : Nat, v7 = .string (st S) ∧ v8 = .int .i64 m ∧ v9 = .pointer (some ⟨bf, 0, none⟩) ∧ boxAt wx bf [.int .i64 cf, .int .i64 0, .int .i64 0, .int .i64 pf, .slice none 0 0] ∧ Gr W5 wx)
      case first =>
        refine wp_region_G (.take 0 (.take 1 (.take 2 (.take 3 (.take 4 (.take 5 (.take 6 (.take 7 (.take 8 (.take 9 (.fork 10 (.take 11 (.take 12 (.take 13 (.take 14 (.run 15 false (.run 16 false (.run 17 false (.run 18 true .nil)))))))) 15 (.run 10 false (.take 11 (.take 12 (.take 13 (.take 14 (.run 16 false (.run 17 false (.run 18 true .nil))))))))))))))))))) (by kernel_rfl) (by kernel_rfl) ?_
        simp only [pickOps, nthOp]
        intro wz hG
        repeat' (first
          | (refine wpG_take ?_ ?_; (focus rfl); apply Exists.intro; refine ⟨fun w' hw' => ?_, ?_⟩; (focus (have hc := Gr.cells hw'; go_simp; (try rfl); done)); (try simp only [Act.put, List.setIfInBounds_toArray, List.set_cons_zero, List.set_cons_succ]))
          | (refine wpG_fork3 ?_ ?_ ?_ (fun K hK => ?_) (fun K hK => ?_) (fun K hK => ?_) <;> first | rfl | (first | (go_simp; go_at_call 7; (with_reducible refine (H3.out _ (hg5.trans hG)).mono ?_); rintro e' wn ⟨hb, rfl⟩;  (try replace xf := xf.later hb); (try dsimp only); replace hG := hG.trans hb; refine hK.out _ _ hG ?_; clear hb hK K; (try simp only [Act.put, List.setIfInBounds_toArray, List.set_cons_zero, List.set_cons_succ])) | (go_simp; refine name_K3 (fun wn hW' => ?_); have hb : Gr _ wn := (by rw [hW']; exact Gr.alloc _ _); have xf : NB3 W5 wn _ [.int .i64 0, .int .i64 0, .int .i64 0, .int .i64 0, .slice none 0 0] := (by rw [hW']; exact ⟨boxAt.new _ _ rfl, hG.size⟩);   clear hW'; replace hG := hG.trans hb; refine hK.out _ _ hG ?_; clear hb hK K; (try simp only [Act.put, List.setIfInBounds_toArray, List.set_cons_zero, List.set_cons_succ])) | (go_simp; refine hK.out _ _ hG ?_; clear hK K; (try simp only [Act.put, List.setIfInBounds_toArray, List.set_cons_zero, List.set_cons_succ])) | (have z0 := xf.1.cell 0 _ rfl; have v0 := xf.1.mark 0 _ rfl; have z1 := xf.1.cell 1 _ rfl; have v1 := xf.1.mark 1 _ rfl; have z2 := xf.1.cell 2 _ rfl; have v2 := xf.1.mark 2 _ rfl; have z3 := xf.1.cell 3 _ rfl; have v3 := xf.1.mark 3 _ rfl; have z4 := xf.1.cell 4 _ rfl; have v4 := xf.1.mark 4 _ rfl; have lz := xf.1.lt (Nat.succ_pos _); go_simp; refine name_K3 (fun wn hW' => ?_); have hGn := xf.gr5 hG hW';  replace xf := xf.put5 hW'; replace hG := hGn; refine hK.out _ _ hG ?_; clear hGn hW' hK K z0 v0 z1 v1 z2 v2 z3 v3 z4 v4 lz; (try simp only [Act.put, List.setIfInBounds_toArray, List.set_cons_zero, List.set_cons_succ]))))
          | (refine wpG_fork ?_ ?_ (fun K hK => ?_) (fun K hK => ?_) <;> first | rfl | (first | (go_simp; go_at_call 7; (with_reducible refine (H3.out _ (hg5.trans hG)).mono ?_); rintro e' wn ⟨hb, rfl⟩;  (try replace xf := xf.later hb); (try dsimp only); replace hG := hG.trans hb; refine hK.out _ _ hG ?_; clear hb hK K; (try simp only [Act.put, List.setIfInBounds_toArray, List.set_cons_zero, List.set_cons_succ])) | (go_simp; refine name_K3 (fun wn hW' => ?_); have hb : Gr _ wn := (by rw [hW']; exact Gr.alloc _ _); have xf : NB3 W5 wn _ [.int .i64 0, .int .i64 0, .int .i64 0, .int .i64 0, .slice none 0 0] := (by rw [hW']; exact ⟨boxAt.new _ _ rfl, hG.size⟩);   clear hW'; replace hG := hG.trans hb; refine hK.out _ _ hG ?_; clear hb hK K; (try simp only [Act.put, List.setIfInBounds_toArray, List.set_cons_zero, List.set_cons_succ])) | (go_simp; refine hK.out _ _ hG ?_; clear hK K; (try simp only [Act.put, List.setIfInBounds_toArray, List.set_cons_zero, List.set_cons_succ])) | (have z0 := xf.1.cell 0 _ rfl; have v0 := xf.1.mark 0 _ rfl; have z1 := xf.1.cell 1 _ rfl; have v1 := xf.1.mark 1 _ rfl; have z2 := xf.1.cell 2 _ rfl; have v2 := xf.1.mark 2 _ rfl; have z3 := xf.1.cell 3 _ rfl; have v3 := xf.1.mark 3 _ rfl; have z4 := xf.1.cell 4 _ rfl; have v4 := xf.1.mark 4 _ rfl; have lz := xf.1.lt (Nat.succ_pos _); go_simp; refine name_K3 (fun wn hW' => ?_); have hGn := xf.gr5 hG hW';  replace xf := xf.put5 hW'; replace hG := hGn; refine hK.out _ _ hG ?_; clear hGn hW' hK K z0 v0 z1 v1 z2 v2 z3 v3 z4 v4 lz; (try simp only [Act.put, List.setIfInBounds_toArray, List.set_cons_zero, List.set_cons_succ]))))
          | (refine wpG_run ?_ (fun K hK => ?_); (focus rfl); (first | (go_simp; go_at_call 7; (with_reducible refine (H3.out _ (hg5.trans hG)).mono ?_); rintro e' wn ⟨hb, rfl⟩;  (try replace xf := xf.later hb); (try dsimp only); replace hG := hG.trans hb; refine hK.out _ _ hG ?_; clear hb hK K; (try simp only [Act.put, List.setIfInBounds_toArray, List.set_cons_zero, List.set_cons_succ])) | (go_simp; refine name_K3 (fun wn hW' => ?_); have hb : Gr _ wn := (by rw [hW']; exact Gr.alloc _ _); have xf : NB3 W5 wn _ [.int .i64 0, .int .i64 0, .int .i64 0, .int .i64 0, .slice none 0 0] := (by rw [hW']; exact ⟨boxAt.new _ _ rfl, hG.size⟩);   clear hW'; replace hG := hG.trans hb; refine hK.out _ _ hG ?_; clear hb hK K; (try simp only [Act.put, List.setIfInBounds_toArray, List.set_cons_zero, List.set_cons_succ])) | (go_simp; refine hK.out _ _ hG ?_; clear hK K; (try simp only [Act.put, List.setIfInBounds_toArray, List.set_cons_zero, List.set_cons_succ])) | (have z0 := xf.1.cell 0 _ rfl; have v0 := xf.1.mark 0 _ rfl; have z1 := xf.1.cell 1 _ rfl; have v1 := xf.1.mark 1 _ rfl; have z2 := xf.1.cell 2 _ rfl; have v2 := xf.1.mark 2 _ rfl; have z3 := xf.1.cell 3 _ rfl; have v3 := xf.1.mark 3 _ rfl; have z4 := xf.1.cell 4 _ rfl; have v4 := xf.1.mark 4 _ rfl; have lz := xf.1.lt (Nat.succ_pos _); go_simp; refine name_K3 (fun wn hW' => ?_); have hGn := xf.gr5 hG hW';  replace xf := xf.put5 hW'; replace hG := hGn; refine hK.out _ _ hG ?_; clear hGn hW' hK K z0 v0 z1 v1 z2 v2 z3 v3 z4 v4 lz; (try simp only [Act.put, List.setIfInBounds_toArray, List.set_cons_zero, List.set_cons_succ]))))
          | (refine wpG_last ?_ (fun K hK => ?_); (focus rfl); (first | (go_simp; refine hK.out _ _ ?_; clear hK K; (try simp only [Act.put, List.setIfInBounds_toArray, List.set_cons_zero, List.set_cons_succ])) | (have z0 := xf.1.cell 0 _ rfl; have v0 := xf.1.mark 0 _ rfl; have z1 := xf.1.cell 1 _ rfl; have v1 := xf.1.mark 1 _ rfl; have z2 := xf.1.cell 2 _ rfl; have v2 := xf.1.mark 2 _ rfl; have z3 := xf.1.cell 3 _ rfl; have v3 := xf.1.mark 3 _ rfl; have z4 := xf.1.cell 4 _ rfl; have v4 := xf.1.mark 4 _ rfl; have lz := xf.1.lt (Nat.succ_pos _); go_simp; refine name_K3 (fun wn hW' => ?_); have hGn := xf.gr5 hG hW';  replace xf := xf.put5 hW'; replace hG := hGn; refine hK.out _ _ ?_; clear hGn hW' hK K z0 v0 z1 v1 z2 v2 z3 v3 z4 v4 lz; (try simp only [Act.put, List.setIfInBounds_toArray, List.set_cons_zero, List.set_cons_succ])))))
        all_goals
          refine wpG_done ?_
          go_wp2_with fail
          go_meet
          case rel => exact ⟨_, rfl, rfl, rfl, xf.1, hG⟩
      case rest =>
        obtain ⟨bf, rfl, rfl, rfl, xf, hg6⟩ := hcut
        have HSM : Hid (∀ W2, Gr wc W2 → Calls Tryd.prog 8 #[u6, .agg #[.int .i64 cf, .int .i64 0, .int .i64 0, .int .i64 pf, .slice none 0 0]] W2 fun e w2 => e = .returned (.bool true) ∧ Gr W2 w2) := fun W2 h2 => by
          have := same_in (HF.out.later (((hg.trans hg5).trans hg6).trans h2)) xx u6 (HSM5.out.later (hg6.trans h2))
          rw [HCF.out.1, HCF.out.2] at this; exact this
        have c_f0 := xf.cell 0 _ rfl
        have c_f1 := xf.cell 1 _ rfl
        have c_f2 := xf.cell 2 _ rfl
        have c_f3 := xf.cell 3 _ rfl
        have c_f4 := xf.cell 4 _ rfl
        have m_f0 := xf.mark 0 _ rfl
        have m_f1 := xf.mark 1 _ rfl
        have m_f2 := xf.mark 2 _ rfl
        have m_f3 := xf.mark 3 _ rfl
        have m_f4 := xf.mark 4 _ rfl
        have l_f := xf.lt (Nat.succ_pos _)
        clear xf e0 e1 hbc
        go_wp2_with (go_at_call 8; (with_reducible refine (HSM.out _ (Gr.refl _)).mono ?_); rintro e w8 ⟨rfl, hb8⟩)
        go_roundw
        case rel => exact ⟨k1, by have := HK1.out; omega, by have := HK1.out; omega, rfl, (hg.trans hg5).trans (hg6.trans hb8)⟩
        case measure => have := HK1.out; simp [intOf]; omega

end Go.Proofs.YtihjmeoklbmnmabDoor
