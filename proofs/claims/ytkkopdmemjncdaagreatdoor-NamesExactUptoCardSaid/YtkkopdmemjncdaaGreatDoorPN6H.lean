/- Texts of mine, put together: N6H. No condition but what each says. -/
import Derived.Test.YtkkopdmemjncdaaGreatDoorPN6F
import Derived.Test.YtkkopdmemjncdaaGreatDoorPHl
namespace Go.Proofs.YtkkopdmemjncdaaGreatDoor
open Go Go.RowKit
theorem owns_low6 {w : World} {B B' e n k : Nat} {v : Value} {xs : List Value} (h : w.ownsRow B e k v n xs) (hB : B' ≤ B) : w.ownsRow B' e k v n xs := by
 obtain ⟨h1, h2 | ⟨g, cap, cur, hv, hg, h3⟩⟩ := h
 · exact ⟨h1, .inl h2⟩
 · exact ⟨h1, .inr ⟨g, cap, cur, hv, Nat.le_trans hB hg, h3⟩⟩
structure OrdJ (w0 : World) (U : List (List Nat)) (n m k : Nat) (l : List Nat) (tr : Nat) (lv : Value) (w : World) : Prop where
 gr : Gr w0 w
 told : w.ownsRow w0.heap.size 4 1 (.slice (some ⟨tr, 0, none⟩) n n) n (toldV n l)
 row : w.ownsRow w0.heap.size 3 1 lv l.length (l.map natV)
 ap1 : lv.ownBlock ≠ some tr
 low : w0.heap.size ≤ tr
 ord : Ordered U l
 run : orderN U n [] = orderN U m l
 len : l.length + m = n
 no : ∀ y, y < k → freeN U l y = false
theorem OrdJ.later {w0 w w' : World} {U : List (List Nat)} {n m k : Nat} {l : List Nat} {tr : Nat} {lv : Value} (h : OrdJ w0 U n m k l tr lv w) (hG : Gr w w') : OrdJ w0 U n m k l tr lv w' :=
 { h with gr := h.gr.trans hG, told := owns_later h.told hG, row := owns_later h.row hG }
theorem OrdJ.again {w0 w : World} {U : List (List Nat)} {n m k : Nat} {l : List Nat} {tr : Nat} {lv : Value} (h : OrdJ w0 U n m k l tr lv w) : OrdJ w0 U n m 0 l tr lv w := { h with no := fun y hy => by omega }
theorem OrdJ.skip {w0 w : World} {U : List (List Nat)} {n m k : Nat} {l : List Nat} {tr : Nat} {lv : Value} (h : OrdJ w0 U n m k l tr lv w) (hf : freeN U l k = false) : OrdJ w0 U n m (k + 1) l tr lv w :=
 { h
   with no := fun y hy => (Nat.lt_or_ge y k).elim (h.no y) (fun h1 => by
   have : y = k := by omega
   subst this; exact hf) }
theorem OrdJ.room {w0 w : World} {U : List (List Nat)} {n m k : Nat} {l : List Nat} {tr : Nat} {lv : Value} (h : OrdJ w0 U n m k l tr lv w) (hU : U.length = n) (hk : k < n) (hf : freeN U l k = true) : l.length < n ∧ Ordered U (l ++ [k]) ∧ ∃ m', m = m' + 1 ∧ orderN U n [] = orderN U m' (l ++ [k]) := by
 have hfi : (List.range U.length).find? (freeN U l) = some k := by
  rw [List.find?_range_eq_some]
  exact ⟨hf, by rw [List.mem_range, hU]; exact hk, fun y hy => by rw [h.no y hy]; rfl⟩
 have ho := ordered_snoc h.ord hfi
 have hl : (l ++ [k]).length ≤ n := nodup_le n _ (ordered_nodup ho) (fun x hx => by
  obtain ⟨j, hj, rfl⟩ := List.mem_iff_getElem.1 hx
  rw [← hU]; exact (ho j _ (List.getElem?_eq_getElem hj)).1)
 rw [List.length_append] at hl
 have hl2 : l.length < n := by simp at hl; omega
 refine ⟨hl2, ho, m - 1, by have := h.len; omega, ?_⟩
 rw [h.run, show m = (m - 1) + 1 by have := h.len; omega, orderN, hfi]
 simp
theorem OrdJ.done {w0 w : World} {U : List (List Nat)} {n m : Nat} {l : List Nat} {tr : Nat} {lv : Value} (h : OrdJ w0 U n m n l tr lv w) (hU : U.length = n) : orderN U n [] = l := by
 rw [h.run]
 have hfi : (List.range U.length).find? (freeN U l) = none := by
  rw [List.find?_eq_none]
  intro x hx
  rw [List.mem_range, hU] at hx
  rw [h.no x hx]; simp
 cases m with
 | zero => rfl
 | succ m => rw [orderN, hfi]
theorem OrdJ.step {w0 w w4 : World} {U : List (List Nat)} {n m m' k : Nat} {l : List Nat} {tr : Nat} {lv v' : Value} {o : Obj} (h : OrdJ w0 U n m k l tr lv w) (hk : k < n) (hord : Ordered U (l ++ [k])) (hm : m = m' + 1) (hrun : orderN U n [] = orderN U m' (l ++ [k]))
  (hown : w4.ownsRow w0.heap.size 3 1 v' (l.length + 1) (l.map natV ++ [.int .i64 (k : Int)])) (hg : ((w.setCell ⟨tr, k, none⟩ (.bool true)).alloc o).grownBy w4 lv.ownBlock) (hloc : v'.ownBlock = lv.ownBlock ∨ v'.ownBlock = some ((w.setCell ⟨tr, k, none⟩ (.bool true)).alloc o).heap.size) :
  OrdJ w0 U n m' 0 (l ++ [k]) tr v' w4 := by
 have hsz : ((w.setCell ⟨tr, k, none⟩ (.bool true)).alloc o).heap.size = w.heap.size + 1 := by simp [World.setCell]
 have lt2 := (World.ownsRow.lt h.told tr rfl).2
 have gra : Gr (w.setCell ⟨tr, k, none⟩ (.bool true)) ((w.setCell ⟨tr, k, none⟩ (.bool true)).alloc o) := Gr.alloc _ _
 have gr0 : Gr w0 ((w.setCell ⟨tr, k, none⟩ (.bool true)).alloc o) := (show Gr w0 (w.setCell ⟨tr, k, none⟩ (.bool true)) from Below.setCell h.gr (show w0.heap.size ≤ (⟨tr, k, none⟩ : Addr).block from h.low) _).trans gra
 have hkp : ∀ g, g < w.heap.size → lv.ownBlock ≠ some g → w4.heap[g]? = ((w.setCell ⟨tr, k, none⟩ (.bool true)).alloc o).heap[g]? := fun g hlt hne => hg.block g (by omega) (fun e => hne e.symm)
 have hlow : ∀ g, lv.ownBlock = some g → w0.heap.size ≤ g := fun g hg => (World.ownsRow.lt h.row g hg).1
 have n1 : ∀ g, g < w.heap.size → lv.ownBlock ≠ some g → v'.ownBlock ≠ some g := fun g hlt hne => by
  rcases hloc with e | e
  · rw [e]; exact hne
  · rw [e, hsz]; intro h; injection h with h; omega
 refine ⟨Gr.grown gr0 hg (fun g hg' => hlow g hg'), ?_, ?_, n1 _ lt2 h.ap1, h.low, hord, hrun, by rw [List.length_append]; have := h.len; simp; omega, fun y hy => by omega⟩
 ·
  have := owns_later (owns_set h.told k (by rw [toldV_len]; exact hk) (.bool true)) gra
  rw [toldV_set l hk] at this
  exact owns_heap this (fun g hg' => by
   injection hg' with hg'
   rw [← hg']; exact hkp tr lt2 h.ap1)
 · rw [List.length_append, List.map_append]; exact hown
set_option maxRecDepth 100000 in
set_option maxHeartbeats 16000000 in
theorem
    order6_any (s : Sc) (w : World) (vm vd vr : Value) (hs : ScIn w s vm vd vr) (hL : Linked s) (hdl : s.defs.length ≤ 1048576) (hru : ∀ d ∈ s.defs, (refsE d.ex).length ≤ 1048576) (hor : (orderN (linksN s) s.defs.length []).length = s.defs.length) :
  Calls Tryz.prog 38 #[scV vm vd vr] w fun e w' => ∃ v', e = .returned v' ∧ w'.ownsRow w.heap.size 3 1 v' (orderN (linksN s) s.defs.length []).length ((orderN (linksN s) s.defs.length []).map natV) ∧ Gr w w' := by
 have HLK := Lib.hid (fun W (hG : Gr w W) => links6_any s W vm vd vr (hs.later hG) hL hdl hru)
 obtain ⟨i0, hi, hz0, hz1, hz2⟩ := info_parts info_boolN
 obtain ⟨i1, ki, ky0, ky1, ky2⟩ := info_parts info_intN
 have HIN0 := Lib.hid (fun (i : Nat) (r : List Nat) (h : (linksN s)[i]? = some r) => linksN_in hL h)
 have HRW := Lib.hid (fun (i : Nat) (r : List Nat) (h : (linksN s)[i]? = some r) => linksN_row hru h)
 have hlu := linksN_len s
 obtain ⟨pm, nm, cm, rfl⟩ : ∃ p n c, vm = .slice p n c := by
  obtain ⟨p, c, h⟩ := hs.modes.len
  exact ⟨p, _, c, h⟩
 obtain ⟨pd, nd, cd, rfl⟩ : ∃ p n c, vd = .slice p n c := by
  obtain ⟨p, c, h⟩ := hs.defs.len
  exact ⟨p, _, c, h⟩
 obtain ⟨pr, nr, cr, rfl⟩ : ∃ p n c, vr = .slice p n c := by
  obtain ⟨p, c, h⟩ := hs.rules.len
  exact ⟨p, _, c, h⟩
 rw [← hlu] at hdl hor ⊢
 obtain ⟨U, hUU⟩ : ∃ U, linksN s = U := ⟨_, rfl⟩
 rw [hUU] at hdl hor HLK HIN0 HRW ⊢
 clear hUU hlu hL hru
 obtain ⟨n, hln⟩ : ∃ n, U.length = n := ⟨_, rfl⟩
 have HLN := Lib.hid hln
 have HIN := Lib.hid (show ∀ (i : Nat) (r : List Nat), U[i]? = some r → ∀ x ∈ r, x < n from fun i r h x hx => by have := HIN0.out i r h x hx; omega)
 rw [hln] at hdl hor ⊢
 have HOR := Lib.hid hor
 have hnI : (n : Int) ≤ 1048576 := by omega
 have HNB := Lib.hid hdl
 unfold scV at HLK ⊢
 clear hs hln hdl hor HIN0
 go_enter Tryz.func38, Tryz.ntmps38
 go_wp2_with fail
 go_at_call 69
 refine name_calls (fun W1 hW1 => ?_)
 have hb1 : Gr w W1 := by rw [hW1]; first | exact Gr.refl _ | exact Gr.alloc _ _
 clear hW1
 (with_reducible refine (HLK.out W1 hb1).mono ?_); rintro e w2 ⟨v, rfl, hU, hg2⟩
 obtain ⟨pv, cv, rfl⟩ : ∃ p c, v = .slice p n c := by
  obtain ⟨vs, h1, h2, _⟩ := hU.sl
  rw [HLN.out] at h2
  exact h2.len
 have hg02 : Gr w w2 := hb1.trans hg2
 have HG02 := Lib.hid hg02
 have HU := Lib.hid hU
 have HLO := Lib.hid hg02.size
 clear hb1 hg2 hU hg02 HLK
 go_wp2_with (first
  | (at_make; refine wpList_make_full w2 rfl _ _ _ rfl w2.heap.size 4 i0 (.bool false) 1 Tryz.underlying140 hi hz0 hz1 .i64 .i64 _ _ n rfl rfl rfl rfl (by rw [hz2]; have := HNB.out; omega) (by have := HNB.out; unfold maxLen; omega) (Nat.le_refl _) ?_; intro w3 hown3 hg3; have HOWN := Lib.hid hown3; have HG3 := Lib.hid hg3; clear hown3 hg3)
  | go_in)
 have HI0 := Lib.hid (show OrdJ w2 U n n 0 [] w2.heap.size (.slice none 0 0) w3 from
  {
   gr := Gr.grown (Gr.refl _) HG3.out (fun k hk => by cases hk)
   told := by
    have := HOWN.out
    rw [made_rep _ rfl, ← toldV_nil] at this
    exact this
   row := World.ownsRow_nil _ _ _ _
   ap1 := by simp [Value.ownBlock]
   low := Nat.le_refl _
   ord := ordered_nil U
   run := rfl
   len := by simp
   no := fun y hy => by omega })
 obtain ⟨tr, htr⟩ : ∃ tr, w2.heap.size = tr := ⟨_, rfl⟩
 have HTR := Lib.hid htr
 rw [htr] at HI0
 simp only [htr]
 clear htr HOWN HG3
 go_loopw [5] (fun lv wr => ∃ (l : List Nat) (m : Nat), Hid (OrdJ w2 U n m 0 l tr lv wr)) (fun lv _ => n - lenV lv)
 case atStart => exact ⟨[], n, HI0⟩
 case round =>
  clear HI0
  obtain ⟨l, m, HI⟩ := hrel
  obtain ⟨pl, cl, rfl⟩ := (Sl.of_owns HI.out.row).len
  obtain ⟨ml, hml⟩ : ∃ x, l.length = x := ⟨_, rfl⟩
  rw [hml]
  have HML := Lib.hid hml
  rcases Nat.lt_or_ge ml n with hmn | hmn
  ·
   have hmI : (ml : Int) < (n : Int) := by omega
   have HMN := Lib.hid hmn
   have HWH := Lib.hid (show ¬ (orderN U n [] = l) from fun h => by have h1 := HOR.out; rw [h] at h1; omega)
   have HI' : Hid (OrdJ w2 U n m 0 l tr (.slice pl ml cl) wr) := by rw [← hml]; exact HI
   clear hml hmn HI
   go_wp2_with fail
   go_loopw [5, 6] (fun lv iv wr => ∃ (k : Nat), k ≤ n ∧ iv = .int .i64 (k : Int) ∧ lv = .slice pl ml cl ∧ Hid (OrdJ w2 U n m k l tr (.slice pl ml cl) wr)) (fun _ iv _ => n - (intOf iv).toNat)
   case atStart => exact ⟨0, Nat.zero_le _, rfl, rfl, HI'⟩
   case round =>
    clear HI'
    obtain ⟨k, hk, rfl, rfl, HI⟩ := hrel
    rcases Nat.lt_or_ge k n with hkn | hkn
    ·
     have hkI : (k : Int) < (n : Int) := by omega
     have HKN := Lib.hid hkn
     obtain ⟨r, hr⟩ : ∃ r, U[k]? = some r := ⟨_, List.getElem?_eq_getElem (by rw [HLN.out]; exact hkn)⟩
     have HFR := Lib.hid (freeN_row (l := l) hr)
     have HRI := Lib.hid (HIN.out k r hr)
     obtain ⟨b, off, u, hpv, hbl, hcu, hsu, _⟩ := HU.out.row hr
     subst hpv
     obtain ⟨pu, cu, rfl⟩ := hsu.len
     obtain ⟨mr, hmr⟩ : ∃ x, r.length = x := ⟨_, rfl⟩
     have HMR := Lib.hid hmr
     have HMRB := Lib.hid (show mr ≤ 1048576 by have := HRW.out k r hr; omega)
     have hmrI : (mr : Int) ≤ 1048576 := by have := HMRB.out; omega
     have HCU := Lib.hid (show w2.cell? ⟨b, off + k, none⟩ = some (.slice pu mr cu) by rw [← hmr]; exact hcu)
     have HBL := Lib.hid hbl
     have HSU := Lib.hid hsu
     have kt := owns_cell HI.out.told k _ (toldV_get l hkn)
     have hbt := (World.ownsRow.lt HI.out.told tr rfl).2
     obtain ⟨q, hq⟩ : ∃ q, decide (k ∈ l) = q := ⟨_, rfl⟩
     rw [hq] at kt HFR
     clear hr hk hkn hcu hsu hmr hq hbl
     go_wp2_with fail
     clear kt hbt
     go_loopw [7, 8] (fun fv iv wz => ∃ (j : Nat), j ≤ mr ∧ iv = .int .i64 (j : Int) ∧ fv = .bool (!q && (r.take j).all fun u => decide (u ∈ l)) ∧ wr = wz) (fun _ iv _ => mr - (intOf iv).toNat)
     case atStart => exact ⟨0, Nat.zero_le _, rfl, by simp, rfl⟩
     case round =>
      obtain ⟨j, hj, rfl, rfl, rfl⟩ := hrel
      have ku := HI.out.gr.cell HCU.out
      have hbr := Nat.lt_of_lt_of_le HBL.out HI.out.gr.size
      obtain ⟨f, hf⟩ : ∃ f, (!q && (r.take j).all fun u => decide (u ∈ l)) = f := ⟨_, rfl⟩
      rw [hf]
      have HF := Lib.hid hf
      clear hf
      rcases Nat.lt_or_ge j mr with hjn | hjn
      ·
       have hjI : (j : Int) < (mr : Int) := by omega
       have HJN := Lib.hid hjn
       obtain ⟨y, hy⟩ : ∃ y, r[j]? = some y := ⟨_, List.getElem?_eq_getElem (by rw [HMR.out]; exact hjn)⟩
       have hyn := HRI.out y (List.mem_of_getElem? hy)
       have hyI : (y : Int) < (n : Int) := by omega
       obtain ⟨b3, off3, hpu, hbl3, hc3⟩ := num_at HSU.out hy
       subst hpu
       have ky := HI.out.gr.cell hc3
       have hby := Nat.lt_of_lt_of_le hbl3 HI.out.gr.size
       have kf := owns_cell HI.out.told y _ (toldV_get l hyn)
       have kl := (World.ownsRow.lt HI.out.told tr rfl).2
       obtain ⟨p, hp⟩ : ∃ p, decide (y ∈ l) = p := ⟨_, rfl⟩
       rw [hp] at kf
       have HN2 := Lib.hid (show (!q && (r.take (j + 1)).all fun u => decide (u ∈ l)) = (f && p) by
        rw [take_snoc hy, List.all_append, ← Bool.and_assoc, HF.out]
        simp [hp])
       clear hj hjn hy hc3 hbl3 hp hyn
       cases f <;> cases p
       all_goals
        go_wp2_with fail
        go_roundw
        case rel => exact ⟨j + 1, HJN.out, by go_num, by rw [HN2.out]; rfl, by first | rfl | trivial⟩
        case measure => have := HJN.out; simp [intOf]; omega
      ·
       have hjI : ¬ (j : Int) < (mr : Int) := by omega
       have HFF := Lib.hid (show freeN U l k = f by
        rw [HFR.out, ← HF.out, List.take_of_length_le (by rw [HMR.out]; exact hjn)])
       clear hj hjn
       cases f with
       |
        false =>
        have HSK := Lib.hid (HI.out.skip HFF.out)
        go_wp2_with fail
        go_roundw
        case rel => exact ⟨k + 1, HKN.out, by go_num, by first | rfl | trivial, HSK⟩
        case measure => have := HKN.out; simp [intOf]; omega
       |
        true =>
        obtain ⟨hroom, hord, m', hm', hrun⟩ := HI.out.room HLN.out HKN.out HFF.out
        have HORD := Lib.hid hord
        have HM' := Lib.hid hm'
        have HRUN := Lib.hid hrun
        have kt2 := owns_cell HI.out.told k _ (toldV_get l HKN.out)
        have kn2 := owns_mark HI.out.told k
        have bt2 := (World.ownsRow.lt HI.out.told tr rfl).2
        have HROW := Lib.hid (show wr.ownsRow w2.heap.size 3 1 (.slice pl ml cl) ml (l.map natV) by have := HI.out.row; rw [HML.out] at this; exact this)
        have HAP := Lib.hid HI.out.ap1
        clear hroom hord hm' hrun
        go_wp2_with (at_builtin; refine wpList_append_own_at _ rfl (.tmp 56) (.tmp 58) 32 rfl w2.heap.size 3 i1 (.int .i64 0) 1 8 Tryz.underlying32 ki ky0 ky1 ky2 rfl (by decide) _ ml (l.map natV) rfl ((own_far HROW.out ⟨tr, k, none⟩ (.bool true) HAP.out).alloc _) ⟨wr.heap.size, 0, none⟩ 1 1 [.int .i64 (k : Int)] rfl rfl (new_cells_put _ _ _ _ _) (by intro u hu; simp at hu; subst hu; rfl) (by have := HMN.out; have := HNB.out; unfold maxLen; omega) (by have := HMN.out; have := HNB.out; omega) (by have := HI.out.gr.size; simp [World.setCell]; omega) ?_; intro v' w4 hown4 hg4 _ hloc; obtain ⟨p4, c4, rfl⟩ := (Sl.of_owns hown4).len; have HOW4 := Lib.hid hown4; have HG4 := Lib.hid hg4; have HLOC := Lib.hid hloc; clear hown4 hg4 hloc)
        go_roundw
        case rel => exact ⟨l ++ [k], m', Lib.hid (by have h4 := HOW4.out; rw [← HML.out] at h4; have := HI.out.step HKN.out HORD.out HM'.out HRUN.out h4 HG4.out (by rw [HML.out]; exact HLOC.out); rw [HML.out] at this; exact this)⟩
        case measure => have := HMN.out; simp only [lenV]; omega
    ·
     have hke : k = n := by omega
     subst hke
     exact absurd (HI.out.done HLN.out) HWH.out
  ·
   have hmI : ¬ (ml : Int) < (n : Int) := by omega
   have HRE := Lib.hid (show orderN U n [] = l by
    have h1 := HI.out.len
    have h2 := HI.out.run
    rw [show m = 0 by omega] at h2
    rw [h2]; rfl)
   have HROW := Lib.hid (show wr.ownsRow w2.heap.size 3 1 (.slice pl ml cl) l.length (l.map natV) by have := HI.out.row; rw [HML.out] at this ⊢; exact this)
   clear hml hmn
   go_wp2_with fail
   go_ret
   exact ⟨_, rfl, by rw [HRE.out]; exact owns_low6 HROW.out HLO.out, HG02.out.trans HI.out.gr⟩
end Go.Proofs.YtkkopdmemjncdaaGreatDoor
