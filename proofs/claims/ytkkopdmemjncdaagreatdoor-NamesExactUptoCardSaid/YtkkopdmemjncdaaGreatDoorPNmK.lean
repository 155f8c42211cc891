/- Texts of mine, put together: NmK. No condition but what each says. -/
import Derived.Test.YtkkopdmemjncdaaGreatDoorPNmB
import Derived.Deep.LoopGhost
namespace Go.Proofs.YtkkopdmemjncdaaGreatDoor
open Go Go.RowKit
theorem farV_len (far : List Int) : (farV far).length = far.length := by unfold farV; simp
theorem farV_set (far : List Int) (i : Nat) (x : Int) : (farV far).set i (.int .i64 x) = farV (far.set i x) := by unfold farV; rw [List.map_set]
theorem rep_set (n k : Nat) (h : k < n) : (List.replicate k (-1 : Int) ++ List.replicate (n - k) 0).set k (-1) = List.replicate (k + 1) (-1) ++ List.replicate (n - (k + 1)) 0 := by
 rw [List.set_append_right _ _ (by simp), List.length_replicate, Nat.sub_self, show n - k = (n - (k + 1)) + 1 by omega, List.replicate_succ, List.set_cons_zero, List.replicate_succ' (n := k), List.append_assoc]; rfl
structure BkI (w0 : World) (fb qf qd tr n : Nat) (far : List Int) (w : World) : Prop where
 gr : Gr w0 w
 fbox : boxAt w qf [.pointer (some ⟨fb, 0, none⟩)]
 box : boxAt w qd [.slice (some ⟨tr, 0, none⟩) n n]
 row : w.ownsRow w0.heap.size 3 1 (.slice (some ⟨tr, 0, none⟩) n n) n (farV far)
 len : far.length = n
 n1 : tr ≠ qd
 n2 : tr ≠ qf
 low : w0.heap.size ≤ tr
theorem BkI.later {w0 w w' : World} {fb qf qd tr n : Nat} {far : List Int} (h : BkI w0 fb qf qd tr n far w) (hG : Gr w w') : BkI w0 fb qf qd tr n far w' :=
 { h with gr := h.gr.trans hG, fbox := h.fbox.later hG, box := h.box.later hG, row := owns_later h.row hG }
theorem BkI.set {w0 w : World} {fb qf qd tr n : Nat} {far : List Int} (h : BkI w0 fb qf qd tr n far w) (i : Nat) (hi : i < n) (x : Int) : BkI w0 fb qf qd tr n (far.set i x) (w.setCell ⟨tr, i, none⟩ (.int .i64 x)) := by
 refine ⟨Below.setCell h.gr (show w0.heap.size ≤ (⟨tr, i, none⟩ : Addr).block from h.low) _, h.fbox.far ⟨tr, i, none⟩ _ h.n2, h.box.far ⟨tr, i, none⟩ _ h.n1, ?_, by rw [List.length_set]; exact h.len, h.n1, h.n2, h.low⟩
 rw [← farV_set]
 exact owns_set h.row i (by rw [farV_len, h.len]; exact hi) _
def NoBet (U : List (List Nat)) (fr : Nat) (far : List Int) (y : Nat) : Prop := y ≠ fr → ∀ k, nearP far (U[y]?.getD []) = some k → 0 ≤ farAt far y ∧ farAt far y ≤ farAt far k + 1
theorem BkI.grown {w0 w w' : World} {fb qf qd tr n : Nat} {far : List Int} {row : Option Nat} (h : BkI w0 fb qf qd tr n far w) (hg : w.grownBy w' row) (h1 : row ≠ some tr) (h2 : row ≠ some qd) (h3 : row ≠ some qf) (hl : ∀ k, row = some k → w0.heap.size ≤ k) : BkI w0 fb qf qd tr n far w' := by
 refine ⟨Gr.grown h.gr hg hl, h.fbox.grown hg (by simp) h3, h.box.grown hg (by simp) h2, owns_heap h.row (fun g hg' => ?_), h.len, h.n1, h.n2, h.low⟩
 have := (World.ownsRow.lt h.row g hg').2
 injection hg' with hg'
 exact hg.block g this (fun e => h1 (by rw [← e, ← hg']))
structure PathI (w0 : World) (U : List (List Nat)) (nm : Nat → ByteArray) (fb qf qd tr n fr : Nat) (far : List Int) (g : Nat) (P : List Nat) (cur : Nat) (lv : Value) (w : World) : Prop where
 bk : BkI w0 fb qf qd tr n far w
 row : w.ownsRow w0.heap.size 9 1 lv P.length (P.map fun i => .string (nm i))
 a1 : lv.ownBlock ≠ some tr
 a2 : lv.ownBlock ≠ some qd
 a3 : lv.ownBlock ≠ some qf
 nil : P = [] → lv = .slice none 0 0
 lt : cur < n
 path : pathP U far fr (n + 1) fr = P ++ pathP U far fr g cur
 st : (cur = fr ∧ g = n + 1) ∨ (cur ≠ fr ∧ 0 ≤ farAt far cur ∧ (farAt far cur).toNat ≤ g)
 len : P.length + g = n + 1
theorem PathI.later {w0 w w' : World} {U : List (List Nat)} {nm : Nat → ByteArray} {fb qf qd tr n fr : Nat} {far : List Int} {g : Nat} {P : List Nat} {cur : Nat} {lv : Value} (h : PathI w0 U nm fb qf qd tr n fr far g P cur lv w) (hG : Gr w w') : PathI w0 U nm fb qf qd tr n fr far g P cur lv w' :=
 { h with bk := h.bk.later hG, row := owns_later h.row hG }
theorem PathI.step {w0 w w4 : World} {U : List (List Nat)} {nm : Nat → ByteArray} {fb qf qd tr n fr : Nat} {far : List Int} {g : Nat} {P : List Nat} {cur : Nat} {lv v' : Value} {o : Obj} (h : PathI w0 U nm fb qf qd tr n fr far g P cur lv w) (hF : FarOk U fr far) (hU : U.length = n) {r : List Nat} (hr : U[cur]? = some r) {j : Nat} (hj : nearP far r = some j) (hjn : j < n)
  (hown : w4.ownsRow w0.heap.size 9 1 v' (P.length + 1) (P.map (fun i => .string (nm i)) ++ [.string (nm cur)])) (hg : (w.alloc o).grownBy w4 lv.ownBlock) (hloc : v'.ownBlock = lv.ownBlock ∨ v'.ownBlock = some (w.alloc o).heap.size) :
  BkI w0 fb qf qd tr n far w4 ∧ (j = fr → pathP U far fr (n + 1) fr = P ++ [cur]) ∧ (j ≠ fr → ∃ g', g = g' + 1 ∧ PathI w0 U nm fb qf qd tr n fr far g' (P ++ [cur]) j v' w4) := by
 have hsz : (w.alloc o).heap.size = w.heap.size + 1 := by simp
 have hbk := h.bk.later (Gr.alloc w o)
 have hbk4 := hbk.grown hg h.a1 h.a2 h.a3 (fun k hk => (World.ownsRow.lt h.row k hk).1)
 have hUr : U[cur]?.getD [] = r := by rw [hr]; rfl
 have hg1 : ∃ g', g = g' + 1 := by
  rcases h.st with ⟨_, hg⟩ | ⟨hne, h0, hle⟩
  · exact ⟨n, hg⟩
  ·
   obtain ⟨k, hk, hk2⟩ := hF.next (by rw [hU]; exact h.lt) hne h0
   obtain ⟨_, hk3, _⟩ := near_some hk
   exact ⟨g - 1, by omega⟩
 obtain ⟨g', rfl⟩ := hg1
 have hp : pathP U far fr (g' + 1) cur = cur :: (if j = fr then [] else pathP U far fr g' j) := by rw [pathP, hUr, hj]
 have n1 : ∀ k, k < w.heap.size → lv.ownBlock ≠ some k → v'.ownBlock ≠ some k := fun k hlt hne => by
  rcases hloc with e | e
  · rw [e]; exact hne
  · rw [e, hsz]; intro h; injection h with h; omega
 have l1 := (World.ownsRow.lt h.bk.row tr rfl).2
 have l2 := h.bk.box.lt (by simp)
 have l3 := h.bk.fbox.lt (by simp)
 refine ⟨hbk4, fun e => ?_, fun e => ⟨g', rfl, hbk4, ?_, n1 _ l1 h.a1, n1 _ l2 h.a2, n1 _ l3 h.a3, fun h => by simp at h, hjn, ?_, .inr ⟨e, (near_some hj).2.1, ?_⟩, ?_⟩⟩
 · rw [h.path, hp, if_pos e]
 · rw [List.length_append, List.map_append]; exact hown
 · rw [h.path, hp, if_neg e, List.append_assoc]; rfl
 ·
  rcases h.st with ⟨_, hg⟩ | ⟨hne, h0, hle⟩
  ·
   have h1 := hF.cnt j
   have h2 := fin_le far
   rw [hF.len, hU] at h2
   omega
  ·
   obtain ⟨k, hk, hk2⟩ := hF.next (by rw [hU]; exact h.lt) hne h0
   rw [hUr, hj] at hk
   injection hk with hk
   subst hk
   omega
 · have := h.len; rw [List.length_append]; simp; omega
theorem PathI.stop {w0 w : World} {U : List (List Nat)} {nm : Nat → ByteArray} {fb qf qd tr n fr : Nat} {far : List Int} {g : Nat} {P : List Nat} {cur : Nat} {lv : Value} (h : PathI w0 U nm fb qf qd tr n fr far g P cur lv w) (hF : FarOk U fr far) (hU : U.length = n) {r : List Nat} (hr : U[cur]? = some r) (hj : nearP far r = none) : pathP U far fr (n + 1) fr = P := by
 have hUr : U[cur]?.getD [] = r := by rw [hr]; rfl
 rcases h.st with ⟨_, hg⟩ | ⟨hne, h0, hle⟩
 · rw [h.path, hg, pathP, hUr, hj, List.append_nil]
 ·
  obtain ⟨k, hk, _⟩ := hF.next (by rw [hU]; exact h.lt) hne h0
  rw [hUr, hj] at hk
  cases hk
def BackE (w0 : World) (U : List (List Nat)) (nm : Nat → ByteArray) (fr : Nat) (e : Ending) (w' : World) : Prop :=
 ∃ (far : List Int) (v' : Value), e = .returned v' ∧ FarOk U fr far ∧ (pathP U far fr (U.length + 1) fr = [] → v' = .slice none 0 0) ∧ w'.ownsRow w0.heap.size 9 1 v' (pathP U far fr (U.length + 1) fr).length ((pathP U far fr (U.length + 1) fr).map fun i => .string (nm i))
set_option maxRecDepth 100000 in
set_option maxHeartbeats 8000000 in
theorem
    back_any (
         w
          : World) (fb : Nat) (c0 vd c2 c3 c4 v bv : Value) (kk : Int) (U : List (List Nat)) (hb : boxAt w fb [c0, vd, c2, c3, c4, v, bv, .int .i64 kk]) (hU : RowsN w v U) (hn : U.length ≤ 1048576) (hin : ∀ (i : Nat) (r : List Nat), U[i]? = some r → ∀ x ∈ r, x < U.length)
  (nm : Nat → ByteArray) (pd : Option Addr) (cd : Nat) (hvd : vd = .slice pd U.length cd) (hnm : ∀ i, i < U.length → ∃ b off, pd = some ⟨b, off, none⟩ ∧ b < w.heap.size ∧ w.cell? ⟨b, off + i * 12, none⟩ = some (.string (nm i))) (fr : Nat) (hfr : fr < U.length) :
  Calls Tryz.prog 83 #[.pointer (some ⟨fb, 0, none⟩), .int .i64 (fr : Int)] w fun e w' => BackE w U nm fr e w' ∧ Gr w w' := by
 obtain ⟨i1, ki, ky0, ky1, ky2⟩ := info_parts info_intN
 obtain ⟨i2, si, sy0, sy1, sy2⟩ := info_parts info_strN
 subst hvd
 obtain ⟨n, hln⟩ : ∃ n, U.length = n := ⟨_, rfl⟩
 obtain ⟨pv, cv, rfl⟩ : ∃ p c, v = .slice p n c := by
  obtain ⟨vs, h1, h2, _⟩ := hU.sl
  rw [hln] at h2
  exact h2.len
 unfold BackE
 have HNA := Lib.hid (fun (W : World) (qf qd tr : Nat) (far : List Int) (hI : BkI w fb qf qd tr U.length far W) (i : Nat) (r : List Nat) (hr : U[i]? = some r) => nearest_any W fb qf qd _ _ _ _ _ _ _ _ U far (some ⟨tr, 0, none⟩) U.length hI.fbox (hb.later hI.gr) (hU.later hI.gr) hn (by rw [hI.len]; exact hI.box) (by have := Sl.of_owns hI.row; rw [hI.len]; exact this) hI.len i r hr (hin i r hr))
 have HIN := Lib.hid hin
 have HLN := Lib.hid hln
 have HB := Lib.hid hb
 have HNM := Lib.hid hnm
 rw [hln] at hn hb hfr HNA HNM HB ⊢
 have HNB := Lib.hid hn
 have HFR := Lib.hid hfr
 have hfrI : (fr : Int) < (n : Int) := by omega
 have hnI : (n : Int) ≤ 1048576 := by omega
 clear hU hin hnm hln hn hfr
 go_enter Tryz.func83, Tryz.ntmps83
 go_wp2_with fail
 go_step3
 obtain ⟨c_f0, c_f1, c_f2, c_f3, c_f4, c_f5, c_f6, c_f7, m_f0, m_f1, m_f2, m_f3, m_f4, m_f5, m_f6, m_f7, l_f⟩ := unb8 hb
 go_upto_block 0 with (first
  | (at_make; refine wpList_make_full (w.alloc (.cells #[.pointer (some ⟨fb, 0, none⟩)] _)) rfl _ _ _ rfl w.heap.size 3 i1 (.int .i64 0) 1 Tryz.underlying32 ki ky0 ky1 .i64 .i64 _ _ n rfl rfl rfl rfl (by rw [ky2]; have := HNB.out; omega) (by have := HNB.out; unfold maxLen; omega) (Gr.alloc _ _).size ?_; intro w1 hown1 hg1; have HOWN := Lib.hid hown1; have HG1 := Lib.hid hg1; clear hown1 hg1)
  | go_in)
 refine name_world (fun W hW => ?_)
 have hg1 : Gr w w1 := Gr.grown (Gr.alloc _ _) HG1.out (fun k hk => by cases hk)
 have hgW : Gr w1 W := by rw [hW]; exact Gr.alloc _ _
 have HI0 := Lib.hid (show BkI w fb w.heap.size w1.heap.size (w.heap.size + 1) n (List.replicate n 0) W from by
  have ho := HOWN.out
  rw [made_rep _ rfl, show (w.alloc (.cells #[.pointer (some ⟨fb, 0, none⟩)] _)).heap.size = w.heap.size + 1 by simp] at ho
  have hlt := (World.ownsRow.lt ho (w.heap.size + 1) rfl).2
  refine ⟨hg1.trans hgW, (boxAt.grown (boxAt.new_atN _ _ _ rfl rfl) HG1.out (by simp) (fun e => by cases e)).later hgW, by rw [hW]; exact boxAt.new_atN _ _ _ rfl rfl, ?_, by simp, by omega, by omega, by omega⟩
  have : farV (List.replicate n 0) = List.replicate n (.int .i64 0) := by unfold farV; rw [List.map_replicate]
  rw [this]
  exact owns_later ho hgW)
 obtain ⟨qd, hqd⟩ : ∃ q, w1.heap.size = q := ⟨_, rfl⟩
 obtain ⟨qf, hqf⟩ : ∃ q, w.heap.size = q := ⟨_, rfl⟩
 obtain ⟨tr, htr⟩ : ∃ q, qf + 1 = q := ⟨_, rfl⟩
 rw [hqd, hqf, htr] at HI0
 simp only [hqd, hqf, htr]
 have HQF := Lib.hid hqf
 clear c_f0 c_f1 c_f2 c_f3 c_f4 c_f5 c_f6 c_f7 m_f0 m_f1 m_f2 m_f3 m_f4 m_f5 m_f6 m_f7 l_f
 clear hW hg1 hgW hqd hqf htr HOWN HG1 hb
 have xd := HI0.out.box
 go_wp2_with fail
 clear xd
 go_loopw [20] (fun ix wr => ∃ k : Nat, k ≤ n ∧ ix = .int .i64 (k : Int) ∧ Hid (BkI w fb qf qd tr n (List.replicate k (-1) ++ List.replicate (n - k) 0) wr)) (fun ix _ => n - (intOf ix).toNat)
 case atStart => exact ⟨0, Nat.zero_le _, rfl, by simpa using HI0⟩
 case round =>
  clear HI0
  obtain ⟨k, hk, rfl, HI⟩ := hrel
  rcases Nat.lt_or_ge k n with hkn | hkn
  ·
   have hkI : (k : Int) < (n : Int) := by omega
   have HKN := Lib.hid hkn
   have xd := HI.out.box
   have c_d0 := xd.cell 0 _ rfl
   have m_d0 := xd.mark 0 _ rfl
   have l_d := xd.lt (Nat.succ_pos _)
   have kt := owns_cell HI.out.row k _ (farV_get (by rw [HI.out.len]; exact hkn))
   have kn := owns_mark HI.out.row k
   have kl := (World.ownsRow.lt HI.out.row tr rfl).2
   clear hk hkn
   go_wp2_with fail
   go_roundw
   case rel => exact ⟨k + 1, HKN.out, by go_num, Lib.hid (by rw [← rep_set n k HKN.out]; exact HI.out.set k HKN.out (-1))⟩
   case measure => have := HKN.out; simp [intOf]; omega
  ·
   have hkI : ¬ (
          k : Int) < (n : Int) := by omega
   have HI1 := Lib.hid (show BkI w fb qf qd tr n (List.replicate n (-1)) wr by
    have := HI.out
    rw [show k = n by omega, Nat.sub_self] at this
    simpa using this)
   have xd := HI1.out.box
   have c_d0 := xd.cell 0 _ rfl
   have m_d0 := xd.mark 0 _ rfl
   have l_d := xd.lt (Nat.succ_pos _)
   have kt := owns_cell HI1.out.row fr _ (farV_get (by rw [HI1.out.len]; exact HFR.out))
   have kn := owns_mark HI1.out.row fr
   have kl := (World.ownsRow.lt HI1.out.row tr rfl).2
   clear hk hkn HI
   go_wp2_with fail
   refine name_world (fun W2 hW2 => ?_)
   have HI2 := Lib.hid (show BkI w fb qf qd tr n ((List.replicate n (-1)).set fr 0) W2 by rw [hW2]; exact HI1.out.set fr HFR.out 0)
   have HF2 := Lib.hid (show FarIn U fr ((List.replicate n (-1)).set fr 0) by have := farIn_start U fr (by rw [HLN.out]; exact HFR.out); rw [HLN.out] at this; exact this)
   obtain ⟨far0, hfar0⟩ : ∃ f, (List.replicate n (-1 : Int)).set fr 0 = f := ⟨_, rfl⟩
   rw [hfar0] at HI2 HF2
   clear c_d0 m_d0 l_d
   clear hW2 hfar0 HI1 kt kn kl xd
   go_step3
   go_wp2_with fail
   go_loopg [] (farM n far0) (fun g wr => ∃ far : List Int, Hid (farM n far = g) ∧ Hid (BkI w fb qf qd tr n far wr) ∧ Hid (FarIn U fr far))
   case atStart => exact ⟨far0, Lib.hid rfl, HI2, HF2⟩
   case round =>
    clear HI2 HF2
    obtain ⟨far, HG, HI, HF⟩ := hrel
    have xd := HI.out.box
    have c_d0 := xd.cell 0 _ rfl
    have m_d0 := xd.mark 0 _ rfl
    have l_d := xd.lt (Nat.succ_pos _)
    go_wp2_with fail
    clear c_d0 m_d0 l_d
    clear xd
    go_loopg [33] n (fun g2 ix wr2 => ∃ k : Nat, Hid (k + g2 = n) ∧ ix = .int .i64 (k : Int) ∧ Hid (BkI w fb qf qd tr n far wr2) ∧ Hid (∀ y, y < k → NoBet U fr far y))
    case atStart => exact ⟨0, Lib.hid (by simp), rfl, HI, Lib.hid (fun y hy => by omega)⟩
    case round =>
     clear HI
     obtain ⟨k, HK, rfl, HI2, HNBT⟩ := hrel
     cases gk with
     |
      zero =>
      have hkI : ¬ (k : Int) < (n : Int) := by have := HK.out; omega
      have HOK := Lib.hid (show FarOk U fr far from { HF.out with done := fun i hi hne kk hkk => HNBT.out i (by have := HK.out; have := HLN.out; omega) hne kk hkk })
      clear HNBT HF
      go_wp2_with fail
      go_loopg [10, 11] (n + 1) (fun g lv ix wr => ∃ (P : List Nat) (cur : Nat), ix = .int .i64 (cur : Int) ∧ Hid (PathI w U nm fb qf qd tr n fr far g P cur lv wr))
      case atStart => exact ⟨[], fr, rfl, Lib.hid ⟨HI2.out, World.ownsRow_nil _ _ _ _, by simp [Value.ownBlock], by simp [Value.ownBlock], by simp [Value.ownBlock], fun _ => rfl, HFR.out, rfl, .inl ⟨rfl, rfl⟩, by simp⟩⟩
      case round =>
       obtain ⟨P, cur, rfl, HP⟩ := hrel
       obtain ⟨pl, cl, rfl⟩ := (Sl.of_owns HP.out.row).len
       obtain ⟨ml, hml⟩ : ∃ m, P.length = m := ⟨_, rfl⟩
       rw [hml]
       have HML := Lib.hid hml
       obtain ⟨r, hr⟩ : ∃ r, U[cur]? = some r := ⟨_, List.getElem?_eq_getElem (by rw [HLN.out]; exact HP.out.lt)⟩
       have HR := Lib.hid hr
       have HC := Lib.hid (fun (W : World) (hI : BkI w fb qf qd tr n far W) => HNA.out W qf qd tr far hI cur r hr)
       have hcI : (cur : Int) < (n : Int) := by have := HP.out.lt; omega
       obtain ⟨near, hnear⟩ : ∃ o, nearP far r = o := ⟨_, rfl⟩
       rw [hnear] at HC
       have HNE := Lib.hid hnear
       clear hr hml hnear
       go_wp2_with fail
       go_at_call 111
       (with_reducible refine (HC.out wr HP.out.bk).mono ?_); rintro e w2 ⟨rfl, hg2⟩
       have HP2 := Lib.hid (HP.out.later hg2)
       clear hg2
       cases near with
       |
        none =>
        have HPA := Lib.hid (HP2.out.stop HOK.out HLN.out HR.out HNE.out)
        rw [show bestV none = -1 from rfl]
        go_wp2_with fail
        try rw [Exit.noGoto_ret]
        go_ret
        exact ⟨⟨far, _, rfl, HOK.out, fun h => by rw [HPA.out] at h; have := HP2.out.nil h; rw [HML.out] at this; exact this, by rw [HPA.out, ← HML.out]; exact HP2.out.row⟩, HP2.out.bk.gr⟩
       |
        some j =>
        rw [show bestV (some j) = (j : Int) from rfl] at HC ⊢
        have hjn := near_lt HNE.out (HIN.out cur r HR.out)
        rw [HLN.out] at hjn
        have HJN := Lib.hid hjn
        have hj0 : 0 ≤ (j : Int) := by omega
        obtain ⟨bn, on, hpd, hbn, hcn⟩ := HNM.out cur HP2.out.lt
        subst hpd
        have kn := HP2.out.bk.gr.cell hcn
        have hbr := Nat.lt_of_lt_of_le hbn HP2.out.bk.gr.size
        have xq := HP2.out.bk.fbox
        have xf := HB.out.later HP2.out.bk.gr
        have c_q0 := xq.cell 0 _ rfl
        have m_q0 := xq.mark 0 _ rfl
        have l_q := xq.lt (Nat.succ_pos _)
        obtain ⟨c_f0, c_f1, c_f2, c_f3, c_f4, c_f5, c_f6, c_f7, m_f0, m_f1, m_f2, m_f3, m_f4, m_f5, m_f6, m_f7, l_f⟩ := unb8 xf
        have hmlb : ml ≤ n := by
         have := HP2.out.len
         have := HML.out
         rcases HP2.out.st with ⟨_, h⟩ | ⟨h1, h2, h3⟩
         · omega
         ·
          obtain ⟨k, hk, hk2⟩ := HOK.out.next (by rw [HLN.out]; exact HP2.out.lt) h1 h2
          obtain ⟨_, hk3, _⟩ := near_some hk
          omega
        have HMLB := Lib.hid hmlb
        have HROW := Lib.hid (show w2.ownsRow w.heap.size 9 1 (.slice pl ml cl) ml (P.map fun i => .string (nm i)) by have := HP2.out.row; rw [HML.out] at this; exact this)
        obtain ⟨XS, hXS⟩ : ∃ X : List Value, (P.map fun i => Value.string (nm i)) = X := ⟨_, rfl⟩
        rw [hXS] at HROW
        have HXS := Lib.hid hXS
        clear hjn hbn hcn hmlb hXS
        go_wp2_with (first
         | (at_builtin; refine wpList_append_own_at _ rfl (.tmp 79) (.tmp 89) 30 rfl w.heap.size 9 i2 (.string ⟨#[]⟩) 1 16 Tryz.underlying30 si sy0 sy1 sy2 rfl (by decide) _ ml XS rfl (HROW.out.alloc _) ⟨w2.heap.size, 0, none⟩ 1 1 [.string (nm cur)] rfl rfl (new_cells _ _ _) (by intro u hu; simp at hu; subst hu; rfl) (by have := HMLB.out; have := HNB.out; unfold maxLen; omega) (by have := HMLB.out; have := HNB.out; omega) (Nat.le_trans HP2.out.bk.gr.size (Gr.alloc _ _).size) ?_; intro v' w4 hown4 hg4 _ hloc; obtain ⟨p4, c4', rfl⟩ := (Sl.of_owns hown4).len; have HOW4 := Lib.hid hown4; have HG4 := Lib.hid hg4; have HLOC := Lib.hid hloc; clear hown4 hg4 hloc))
        have HST := Lib.hid (HP2.out.step HOK.out HLN.out HR.out HNE.out HJN.out (by rw [HML.out, HXS.out]; exact HOW4.out) (by rw [HML.out]; exact HG4.out) (by rw [HML.out]; exact HLOC.out))
        clear c_q0 m_q0 l_q
        clear c_f0 c_f1 c_f2 c_f3 c_f4 c_f5 c_f6 c_f7 m_f0 m_f1 m_f2 m_f3 m_f4 m_f5 m_f6 m_f7 l_f
        clear kn hbr xq xf
        go_at_call 111
        (with_reducible refine (HC.out w4 HST.out.1).mono ?_); rintro e w5 ⟨rfl, hg5⟩
        have HG5 := Lib.hid hg5
        clear hg5
        by_cases hjf : j = fr
        ·
         have hjb : ((j : Int) == (fr : Int)) = true := by rw [hjf]; simp
         have HPA := Lib.hid (HST.out.2.1 hjf)
         clear hjf
         go_wp2_with fail
         try rw [Exit.noGoto_ret]
         go_ret
         exact ⟨⟨far, _, rfl, HOK.out, fun h => by rw [HPA.out] at h; simp at h, by rw [HPA.out, List.length_append, List.map_append, HML.out, HXS.out]; exact owns_later HOW4.out HG5.out⟩, HST.out.1.gr.trans HG5.out⟩
        ·
         have hjb : ((j : Int) == (fr : Int)) = false := by rw [beq_eq_false_iff_ne]; omega
         obtain ⟨g', hg', hp'⟩ := HST.out.2.2 hjf
         have HPN := Lib.hid hp'
         clear hjf hp'
         go_wp2_with fail
         go_roundg g'
         case measure => omega
         case rel => exact ⟨P ++ [cur], j, by first | rfl | simp, Lib.hid (HPN.out.later HG5.out)⟩
     |
      succ g2
          =>
      have hkn : k < n := by have := HK.out; omega
      have hkI : (k : Int) < (n : Int) := by omega
      have HKN := Lib.hid hkn
      obtain ⟨r, hr⟩ : ∃ r, U[k]? = some r := ⟨_, List.getElem?_eq_getElem (by rw [HLN.out]; exact hkn)⟩
      have HR := Lib.hid hr
      have HUR := Lib.hid (show U[k]?.getD [] = r by rw [hr]; rfl)
      have HC := Lib.hid (HNA.out _ qf qd tr far HI2.out k r hr)
      obtain ⟨near, hnear⟩ : ∃ o, nearP far r = o := ⟨_, rfl⟩
      rw [hnear] at HC
      have HNE := Lib.hid hnear
      clear hr hkn hnear
      go_wp2_with fail
      go_at_call 111
      (with_reducible refine HC.out.mono ?_); rintro e w2 ⟨rfl, hg2⟩
      have HI3 := Lib.hid (HI2.out.later hg2)
      have SKIP := Lib.hid (fun (h : NoBet U fr far k) => Lib.hid (show ∀ y, y < k + 1 → NoBet U fr far y from fun y hy => (Nat.lt_or_ge y k).elim (HNBT.out y) (fun h1 => by
       have : y = k := by omega
       subst this; exact h)))
      have xd2 := HI3.out.box
      have c_d0 := xd2.cell 0 _ rfl
      have m_d0 := xd2.mark 0 _ rfl
      have l_d := xd2.lt (Nat.succ_pos _)
      obtain ⟨fk, hfk⟩ : ∃ f, farAt far k = f := ⟨_, rfl⟩
      have HFK := Lib.hid hfk
      have kt := owns_cell HI3.out.row k _ (farV_get (by rw [HI3.out.len]; exact HKN.out))
      rw [hfk] at kt
      have kl := (World.ownsRow.lt HI3.out.row tr rfl).2
      clear hg2 HNBT hfk HI2 HC
      by_cases hkf : k = fr
      ·
       have hkb : ((k : Int) != (fr : Int)) = false := by rw [hkf]; simp
       have HSK := SKIP.out (fun h => absurd hkf h)
       clear hkf
       go_upto_region 13 with fail
       refine wp_region_G (.take 0 (.take 1 (.take 2 (.take 3 (.take 4 (.take 5 (.take 6 (.take 7 (.take 8 (.take 9 (.take 10 (.take 11 (.take 12 (.take 13 (.take 14 (.take 15 (.take 16 (.take 17 (.take 18 (.take 19 (.take 20 (.take 21 (.take 22 (.take 23 (.take 24 (.take 25 .nil)))))))))))))))))))))))))) (by kernel_rfl) (by kernel_rfl) ?_
       simp only [pickOps, nthOp]
       intro wq hG
       repeat (first | (refine wpG_skip_take ?_ ?_; (focus rfl); try simp only [Act.put, List.setIfInBounds_toArray, List.set_cons_zero, List.set_cons_succ]) | (refine wpG_skip_run ?_ ?_; (focus rfl); try simp only [Act.put, List.setIfInBounds_toArray, List.set_cons_zero, List.set_cons_succ]) | (refine wpG_take ?_ ?_; (focus rfl); apply Exists.intro; refine ⟨fun w' hw' => ?_, ?_⟩; (focus (have hc := Gr.cells hw'; go_simp; (try rfl); done)); try simp only [Act.put, List.setIfInBounds_toArray, List.set_cons_zero, List.set_cons_succ]))
       refine wpG_done ?_
       have HI4 := Lib.hid (HI3.out.later hG)
       clear c_d0 m_d0 l_d
       clear hG kt
       go_step
       go_wp2_with fail
       go_roundg g2
       case measure => omega
       case rel => exact ⟨k + 1, Lib.hid (by have := HK.out; omega), by first | rfl | go_num, HI4, HSK⟩
      have hkb : ((k : Int) != (fr : Int)) = true := by rw [bne_iff_ne]; omega
      have HKF := Lib.hid hkf
      clear hkf
      cases near with
      |
       none =>
       have HSK := SKIP.out (fun _ kk h => by rw [HUR.out, HNE.out] at h; cases h)
       rw [show bestV none = -1 from rfl]
       go_upto_region 13 with fail
       refine wp_region_G (.take 0 (.take 1 (.take 2 (.take 3 (.take 4 (.take 5 (.take 6 (.take 7 (.take 8 (.take 9 (.take 10 (.take 11 (.take 12 (.take 13 (.take 14 (.take 15 (.take 16 (.take 17 (.take 18 (.take 19 (.take 20 (.take 21 (.take 22 (.take 23 (.take 24 (.take 25 .nil)))))))))))))))))))))))))) (by kernel_rfl) (by kernel_rfl) ?_
       simp only [pickOps, nthOp]
       intro wq hG
       repeat (first | (refine wpG_skip_take ?_ ?_; (focus rfl); try simp only [Act.put, List.setIfInBounds_toArray, List.set_cons_zero, List.set_cons_succ]) | (refine wpG_skip_run ?_ ?_; (focus rfl); try simp only [Act.put, List.setIfInBounds_toArray, List.set_cons_zero, List.set_cons_succ]) | (refine wpG_take ?_ ?_; (focus rfl); apply Exists.intro; refine ⟨fun w' hw' => ?_, ?_⟩; (focus (have hc := Gr.cells hw'; go_simp; (try rfl); done)); try simp only [Act.put, List.setIfInBounds_toArray, List.set_cons_zero, List.set_cons_succ]))
       refine wpG_done ?_
       have HI4 := Lib.hid (HI3.out.later hG)
       clear c_d0 m_d0 l_d
       clear hG kt
       go_step
       go_wp2_with fail
       go_roundg g2
       case measure => omega
       case rel => exact ⟨k + 1, Lib.hid (by have := HK.out; omega), by first | rfl | go_num, HI4, HSK⟩
      |
       some j =>
       rw [show bestV (some j) = (j : Int) from rfl]
       have hj0 : 0 ≤ (j : Int) := by omega
       have hjn := near_lt HNE.out (HIN.out k r HR.out)
       rw [HLN.out] at hjn
       have hjI : (j : Int) < (n : Int) := by omega
       obtain ⟨fj, hfj⟩ : ∃ f, farAt far j = f := ⟨_, rfl⟩
       have HFJ := Lib.hid hfj
       have kj := owns_cell HI3.out.row j _ (farV_get (by rw [HI3.out.len]; exact hjn))
       rw [hfj] at kj
       have hfj2 : -1 ≤ fj ∧ fj < 1048577 := by
        have h1 := HF.out.low j
        have h2 := HF.out.cnt j
        have h3 := fin_le far
        have h4 := HI3.out.len
        have h5 := HNB.out
        rw [hfj] at h1 h2
        omega
       have hw : IntKind.i64.wrap (fj + 1) = fj + 1 := IntWalk.i64_in _ (by omega)
       clear hfj hjn
       by_cases hbet : fk < 0 ∨ fj + 1 < fk
       ·
        have HBET := Lib.hid hbet
        have kn := owns_mark HI3.out.row k
        by_cases hk0 : fk < 0
        focus
         clear hbet
         go_upto_region 13 with fail
         refine wp_region_G (.take 0 (.take 1 (.take 2 (.take 3 (.take 4 (.take 5 (.take 6 (.take 7 (.take 8 (.take 9 (.take 10 (.take 11 (.take 12 (.take 13 (.take 14 (.take 15 (.take 16 (.take 17 (.take 18 (.take 19 (.take 20 (.take 21 (.take 22 (.take 23 (.take 24 (.take 25 .nil)))))))))))))))))))))))))) (by kernel_rfl) (by kernel_rfl) ?_
         simp only [pickOps, nthOp]
         intro wq hG
         repeat (first | (refine wpG_skip_take ?_ ?_; (focus rfl); try simp only [Act.put, List.setIfInBounds_toArray, List.set_cons_zero, List.set_cons_succ]) | (refine wpG_skip_run ?_ ?_; (focus rfl); try simp only [Act.put, List.setIfInBounds_toArray, List.set_cons_zero, List.set_cons_succ]) | (refine wpG_take ?_ ?_; (focus rfl); apply Exists.intro; refine ⟨fun w' hw' => ?_, ?_⟩; (focus (have hc := Gr.cells hw'; go_simp; (try rfl); done)); try simp only [Act.put, List.setIfInBounds_toArray, List.set_cons_zero, List.set_cons_succ]))
        rotate_left
        focus
         have hk1 : fj + 1 < fk := hbet.resolve_left hk0
         have HDK := Lib.hid (show decide (fk < 0) = false from decide_eq_false hk0)
         clear hbet
         go_upto_region 13 with fail
         refine wp_region_G (.take 0 (.take 1 (.take 2 (.take 3 (.take 4 (.take 5 (.take 6 (.take 7 (.take 8 (.take 9 (.take 10 (.take 11 (.take 12 (.take 13 (.take 14 (.take 15 (.take 16 (.take 17 (.take 18 (.take 19 (.take 20 (.take 21 (.take 22 (.take 23 (.take 24 (.take 25 .nil)))))))))))))))))))))))))) (by kernel_rfl) (by kernel_rfl) ?_
         simp only [pickOps, nthOp]
         intro wq hG
         repeat (first | (refine wpG_skip_take ?_ ?_; (focus rfl); try simp only [Act.put, List.setIfInBounds_toArray, List.set_cons_zero, List.set_cons_succ]) | (refine wpG_skip_run ?_ ?_; (focus rfl); try simp only [Act.put, List.setIfInBounds_toArray, List.set_cons_zero, List.set_cons_succ]) | (refine wpG_take ?_ ?_; (focus rfl); apply Exists.intro; refine ⟨fun w' hw' => ?_, ?_⟩; (focus (have hc := Gr.cells hw'; go_simp; (try rfl); done)); try simp only [Act.put, List.setIfInBounds_toArray, List.set_cons_zero, List.set_cons_succ]))
         rw [HDK.out]
         repeat (first | (refine wpG_skip_take ?_ ?_; (focus rfl); try simp only [Act.put, List.setIfInBounds_toArray, List.set_cons_zero, List.set_cons_succ]) | (refine wpG_skip_run ?_ ?_; (focus rfl); try simp only [Act.put, List.setIfInBounds_toArray, List.set_cons_zero, List.set_cons_succ]) | (refine wpG_take ?_ ?_; (focus rfl); apply Exists.intro; refine ⟨fun w' hw' => ?_, ?_⟩; (focus (have hc := Gr.cells hw'; go_simp; (try rfl); done)); try simp only [Act.put, List.setIfInBounds_toArray, List.set_cons_zero, List.set_cons_succ]))
         clear HDK
        all_goals
         refine wpG_done ?_
         have HI4 := Lib.hid (HI3.out.later hG)
         have xd4 := HI4.out.box
         have kt4 := hG.cell kt
         have kj4 := hG.cell kj
         have kn4 := owns_mark HI4.out.row k
         have kl4 := (World.ownsRow.lt HI4.out.row tr rfl).2
         clear c_d0 m_d0 l_d
         clear hG kt kj kn kl
         have c_d0 := xd4.cell 0 _ rfl
         have m_d0 := xd4.mark 0 _ rfl
         have l_d := xd4.lt (Nat.succ_pos _)
         obtain ⟨W6, hW6⟩ : ∃ W6, wq = W6 := ⟨_, rfl⟩
         subst hW6
         go_step
         go_upto_region 14 with fail
         refine wp_region_G (.take 0 (.take 1 (.take 2 (.take 3 (.take 4 (.take 5 (.take 6 (.take 7 (.run 8 true .nil))))))))) (by kernel_rfl) (by kernel_rfl) ?_
         simp only [pickOps, nthOp]
         intro wq hG
         repeat (first | (refine wpG_skip_take ?_ ?_; (focus rfl); try simp only [Act.put, List.setIfInBounds_toArray, List.set_cons_zero, List.set_cons_succ]) | (refine wpG_skip_run ?_ ?_; (focus rfl); try simp only [Act.put, List.setIfInBounds_toArray, List.set_cons_zero, List.set_cons_succ]) | (refine wpG_take ?_ ?_; (focus rfl); apply Exists.intro; refine ⟨fun w' hw' => ?_, ?_⟩; (focus (have hc := Gr.cells hw'; go_simp; (try rfl); done)); try simp only [Act.put, List.setIfInBounds_toArray, List.set_cons_zero, List.set_cons_succ]))
         refine wpG_last ?_ (fun K hK => ?_); (focus rfl)
         have hc := hG.cells
         have hm := hG.marks
         go_simp
         refine hK.out _ _ ?_
         try simp only [Act.put, List.setIfInBounds_toArray, List.set_cons_zero, List.set_cons_succ]
         clear hK K hc hm
         refine wpG_done ?_
         have HI5 := Lib.hid (HI4.out.later hG)
         clear c_d0 m_d0 l_d
         clear hG kt4 kj4 kn4 kl4 xd4
         go_step
         go_wp2_with fail
         go_roundg (farM n (far.set k (fj + 1)))
         case measure =>
          rw [← HG.out, ← HFJ.out, ← HLN.out]
          exact HF.out.less (by rw [HLN.out]; exact HKN.out) (by rw [HUR.out]; exact HNE.out) (by rw [HFJ.out, HFK.out]; exact HBET.out)
         case rel => exact ⟨far.set k (fj + 1), Lib.hid rfl, Lib.hid (HI5.out.set k HKN.out _), Lib.hid (by
          rw [← HFJ.out]
          exact HF.out.put (by rw [HLN.out]; exact HKN.out) HKF.out (by rw [HUR.out]; exact HNE.out) (by rw [HFJ.out, HFK.out]; exact HBET.out))⟩
       ·
        have hk0 : ¬ fk < 0 := fun h => hbet (.inl h)
        have hk1 : ¬ fj + 1 < fk := fun h => hbet (.inr h)
        have HSK := SKIP.out (fun _ kk h => by
         rw [HUR.out, HNE.out] at h
         injection h with h
         subst h
         rw [HFK.out, HFJ.out]
         omega)
        clear hbet
        have HDK := Lib.hid (show decide (fk < 0) = false from decide_eq_false hk0)
        have hk1I : ¬ fj + 1 < fk := hk1
        go_upto_region 13 with fail
        refine wp_region_G (.take 0 (.take 1 (.take 2 (.take 3 (.take 4 (.take 5 (.take 6 (.take 7 (.take 8 (.take 9 (.take 10 (.take 11 (.take 12 (.take 13 (.take 14 (.take 15 (.take 16 (.take 17 (.take 18 (.take 19 (.take 20 (.take 21 (.take 22 (.take 23 (.take 24 (.take 25 .nil)))))))))))))))))))))))))) (by kernel_rfl) (by kernel_rfl) ?_
        simp only [pickOps, nthOp]
        intro wq hG
        repeat (first | (refine wpG_skip_take ?_ ?_; (focus rfl); try simp only [Act.put, List.setIfInBounds_toArray, List.set_cons_zero, List.set_cons_succ]) | (refine wpG_skip_run ?_ ?_; (focus rfl); try simp only [Act.put, List.setIfInBounds_toArray, List.set_cons_zero, List.set_cons_succ]) | (refine wpG_take ?_ ?_; (focus rfl); apply Exists.intro; refine ⟨fun w' hw' => ?_, ?_⟩; (focus (have hc := Gr.cells hw'; go_simp; (try rfl); done)); try simp only [Act.put, List.setIfInBounds_toArray, List.set_cons_zero, List.set_cons_succ]))
        rw [HDK.out]
        repeat (first | (refine wpG_skip_take ?_ ?_; (focus rfl); try simp only [Act.put, List.setIfInBounds_toArray, List.set_cons_zero, List.set_cons_succ]) | (refine wpG_skip_run ?_ ?_; (focus rfl); try simp only [Act.put, List.setIfInBounds_toArray, List.set_cons_zero, List.set_cons_succ]) | (refine wpG_take ?_ ?_; (focus rfl); apply Exists.intro; refine ⟨fun w' hw' => ?_, ?_⟩; (focus (have hc := Gr.cells hw'; go_simp; (try rfl); done)); try simp only [Act.put, List.setIfInBounds_toArray, List.set_cons_zero, List.set_cons_succ]))
        clear HDK
        refine wpG_done ?_
        have HI4 := Lib.hid (HI3.out.later hG)
        clear c_d0 m_d0 l_d
        clear hG kt kj
        go_step
        go_wp2_with fail
        go_roundg g2
        case measure => omega
        case rel => exact ⟨k + 1, Lib.hid (by have := HK.out; omega), by first | rfl | go_num, HI4, HSK⟩
end Go.Proofs.YtkkopdmemjncdaaGreatDoor
