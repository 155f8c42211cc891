/- Texts of mine, put together: N6A, N6E. No condition but what each says. -/
import Derived.Test.YtkkopdmemjncdaaGreatDoorPHl
namespace Go.Proofs.YtkkopdmemjncdaaGreatDoor
open Go Go.RowKit
set_option maxRecDepth 100000 in
set_option maxHeartbeats 2000000 in
theorem
    index6_any (l : List ByteArray) (v : Value) (n : Nat) (hn : l.length = n) (s : ByteArray) (w : World) (h : Sl w v 1 n (l.map .string)) : Calls Tryz.prog 40 #[v, .string s] w fun e w' => e = .returned (.int .i64 (atI l s)) ∧ w' = w := by
 subst hn
 have hmx := h.2.1
 unfold maxLen at hmx
 obtain ⟨p, c, rfl⟩ := h.len
 have H := Lib.hid h
 obtain ⟨n, hn⟩ : ∃ n, l.length = n := ⟨_, rfl⟩
 have HN := Lib.hid hn
 rw [hn] at hmx ⊢
 clear h hn
 go_enter Tryz.func40, Tryz.ntmps40
 go_wp2_with fail
 go_loopw [5] (fun i wr => ∃ k : Nat, k ≤ n ∧ i = .int .i64 (k : Int) ∧ w = wr ∧ Hid (memN (l.take k) s = false)) (fun i _ => n - (intOf i).toNat)
 case atStart => exact ⟨0, Nat.zero_le _, rfl, rfl, Lib.hid rfl⟩
 case round =>
  obtain ⟨k, hk, rfl, rfl, HA⟩ := hrel
  cases hx : l[k]? with
  |
   none =>
   have hkl : ¬ (k : Int) < (n : Int) := by
    rcases Nat.lt_or_ge k l.length with h | h
    · rw [List.getElem?_eq_getElem h] at hx; cases hx
    · have := HN.out; omega
   have HA2 := Lib.hid (show memN l s = false by have := HA.out; rw [List.take_of_length_le (by have := HN.out; omega)] at this; exact this)
   clear hx hk HA
   go_wp2_with fail
   go_ret
   exact ⟨ret_int (atI_none HA2.out).symm, rfl⟩
  |
   some y =>
   have hkl : k < l.length := (List.getElem?_eq_some_iff.1 hx).1
   have hkn : k < n := by rw [← HN.out]; exact hkl
   obtain ⟨b, off, rfl, hb, hc⟩ := txt_at H.out hx
   have HX := Lib.hid hx
   have HKN := Lib.hid hkn
   have hkI : (k : Int) < (n : Int) := by omega
   clear hx hk hkl hkn
   by_cases he : y = s
   ·
    subst he
    have heb : (y.toList == y.toList) = true := by simp
    have HF := Lib.hid (show atI l y = (k : Int) by rw [atI_some (memN_iff.2 (List.mem_of_getElem? HX.out)), noOf_at HA.out HX.out])
    go_wp2_with fail
    go_ret
    exact ⟨ret_int HF.out.symm, rfl⟩
   ·
    have heb : (y.toList == s.toList) = false := by rw [beq_eq_false_iff_ne]; exact fun e => he (toList_inj e)
    have HF := Lib.hid (show memN (l.take (k + 1)) s = false by
     have h1 := HA.out
     unfold memN at h1 ⊢
     rw [List.take_add_one, HX.out]
     simp only [Option.toList_some, List.any_append, h1, List.any_cons, List.any_nil, decide_eq_false he, Bool.or_self])
    clear he
    go_wp2_with fail
    go_roundw
    case rel => exact ⟨k + 1, HKN.out, by go_num, by first | rfl | trivial, HF⟩
    case measure => have := HKN.out; simp [intOf]; omega
set_option maxRecDepth 100000 in
set_option maxHeartbeats 4000000 in
theorem
    def6_any (s : Sc) (w : World) (vm vd vr : Value) (hs : ScIn w s vm vd vr) (x : ByteArray) : Calls Tryz.prog 67 #[scV vm vd vr, .string x] w fun e w' => e = .returned (.int .i64 (atI (defsN s) x)) ∧ Gr w w' := by
 obtain ⟨dl, rl, hd, hr, hm', hmo, hmn, hmb, hds, hdi, hdn, hdb, hrs, hri, hrn, hrb⟩ := hs
 obtain ⟨pm, cm, rfl⟩ := hm'.len
 obtain ⟨pd, cd, rfl⟩ := hds.len
 obtain ⟨pr, cr, rfl⟩ := hrs.len
 obtain ⟨n, hn⟩ : ∃ n, dl.length = n := ⟨_, rfl⟩
 rw [hn] at hds hdb ⊢
 have HD := Lib.hid hds
 have HDI := Lib.hid hdi
 have HHD := Lib.hid hd
 have HN := Lib.hid hn
 have HLD := Lib.hid (show (defsN s).length = n by unfold defsN; rw [List.length_map, ← hd, List.length_map]; exact hn)
 have hnI : (n : Int) ≤ 140737488351232 := by omega
 unfold scV
 clear hd hr hm' hmo hmn hmb hds hdi hdn hdb hrs hri hrn hrb hn
 go_enter Tryz.func67, Tryz.ntmps67
 go_upto_block 0 with fail
 refine name_world (fun W hW => ?_)
 have xp : boxAt W w.heap.size [.slice pm s.modes.length cm, .slice pd n cd, .slice pr rl.length cr] := by rw [hW]; exact boxAt.new_atN _ _ _ rfl rfl
 have hgW : Gr w W := by rw [hW]; exact Gr.alloc _ _
 have HGW := Lib.hid hgW
 have XP := Lib.hid xp
 clear hW xp hgW
 go_wp2_with fail
 go_loopw [5] (fun i wr => ∃ k : Nat, k ≤ n ∧ i = .int .i64 (k : Int) ∧ W = wr ∧ Hid (memN ((defsN s).take k) x = false)) (fun i _ => n - (intOf i).toNat)
 case atStart => exact ⟨0, Nat.zero_le _, rfl, rfl, Lib.hid rfl⟩
 case round =>
  obtain ⟨k, hk, rfl, rfl, HA⟩ := hrel
  have xp := XP.out
  obtain ⟨c_p0, c_p1, c_p2, m_p0, m_p1, m_p2, l_p⟩ := unb3 xp
  rcases Nat.lt_or_ge k n with hkn | hkn
  ·
   have hkI : (k : Int) < (n : Int) := by omega
   have HKN := Lib.hid hkn
   obtain ⟨⟨d, cs⟩, hx⟩ : ∃ x, dl[k]? = some x := ⟨_, List.getElem?_eq_getElem (by rw [HN.out]; exact hkn)⟩
   obtain ⟨b2, off, hpm, hbl, hc⟩ := elem_at HD.out (fun x hx => (HDI.out x hx).len) HN.out hx
   have hok := HDI.out _ (List.mem_of_getElem? hx)
   have hsd : s.defs[k]? = some d := by rw [← HHD.out, List.getElem?_map, hx]; rfl
   dsimp only at hok hc
   cases hok with
   | mk ec hee hnn hpp =>
   have HDN := Lib.hid (defsN_get hsd)
   obtain ⟨y, po, ex⟩ := d
   dsimp only at hee hnn hpp hc HDN
   subst hpm
   have k0 : W.cell? ⟨b2, off + k * 12, none⟩ = some (.string y) := HGW.out.cell (hc 0 _ rfl)
   have hbr := Nat.lt_of_lt_of_le hbl HGW.out.size
   clear hx hk hkn hc hee hnn hpp hsd hbl
   by_cases he : y = x
   ·
    subst he
    have heb : (y.toList == y.toList) = true := by simp
    have HF := Lib.hid (show atI (defsN s) y = (k : Int) by rw [atI_some (memN_iff.2 (List.mem_of_getElem? HDN.out)), noOf_at HA.out HDN.out])
    go_wp2_with fail
    go_ret
    exact ⟨ret_int HF.out.symm, HGW.out⟩
   ·
    have heb : (y.toList == x.toList) = false := by rw [beq_eq_false_iff_ne]; exact fun e => he (toList_inj e)
    have HF := Lib.hid (show memN ((defsN s).take (k + 1)) x = false by
     have h1 := HA.out
     unfold memN at h1 ⊢
     rw [List.take_add_one, HDN.out]
     simp only [Option.toList_some, List.any_append, h1, List.any_cons, List.any_nil, decide_eq_false he, Bool.or_self])
    clear he
    go_wp2_with fail
    clear c_p0 c_p1 c_p2 m_p0 m_p1 m_p2 l_p
    clear k0 hbr xp
    go_roundw
    case rel => exact ⟨k + 1, HKN.out, by go_num, by first | rfl | trivial, HF⟩
    case measure => have := HKN.out; simp [intOf]; omega
  ·
   have hkI : ¬ (k : Int) < (n : Int) := by omega
   have HA2 := Lib.hid (show memN (defsN s) x = false by have := HA.out; rw [List.take_of_length_le (by rw [HLD.out]; exact hkn)] at this; exact this)
   clear hk hkn HA
   go_wp2_with fail
   go_ret
   exact ⟨ret_int (atI_none HA2.out).symm, HGW.out⟩
def GrownL (w w' : World) (v v' : Value) : Prop := w.grownBy w' v.ownBlock ∧ (v'.ownBlock = v.ownBlock ∨ ∀ g, v'.ownBlock = some g → w.heap.size ≤ g)
theorem GrownL.refl (w : World) (v : Value) : GrownL w w v v := ⟨⟨rfl, rfl, rfl, Nat.le_refl _, fun _ _ _ => rfl⟩, .inl rfl⟩
theorem GrownL.trans {a b c : World} {u v x : Value} (h : GrownL a b u v) (k : GrownL b c v x) : GrownL a c u x := by
 obtain ⟨h1, h2⟩ := h
 obtain ⟨k1, k2⟩ := k
 refine ⟨⟨k1.os.trans h1.os, k1.tape.trans h1.tape, k1.output.trans h1.output, Nat.le_trans h1.size k1.size, fun g hg hne => (k1.block g (Nat.lt_of_lt_of_le hg h1.size) (fun e => ?_)).trans (h1.block g hg hne)⟩, ?_⟩
 ·
  rcases h2 with h2 | h2
  · exact hne (e.trans h2)
  ·
   have := h2 g e.symm
   omega
 ·
  rcases k2 with k2 | k2
  ·
   rcases h2 with h2 | h2
   · exact .inl (k2.trans h2)
   · exact .inr (fun g hg => h2 g (k2.symm.trans hg))
  · exact .inr (fun g hg => Nat.le_trans h1.size (k2 g hg))
theorem GrownL.gr {w w' : World} (v : Value) (h : Gr w w') : GrownL w w' v v := ⟨⟨h.os, h.tape, h.output, h.size, fun k hk _ => Below.block h k hk⟩, .inl rfl⟩
set_option maxRecDepth 100000 in
set_option maxHeartbeats 4000000 in
theorem
    with6_any (l : List ByteArray) (v : Value) (n B : Nat) (s : ByteArray) (w : World) (hn : l.length = n) (h : w.ownsRow B 9 1 v n (l.map .string)) (hB : B ≤ w.heap.size) (hb : n ≤ 1048576) :
  Calls Tryz.prog 89 #[v, .string s] w fun e w' => ∃ v', e = .returned v' ∧ w'.ownsRow B 9 1 v' (withN l s).length ((withN l s).map .string) ∧ GrownL w w' v v' := by
 obtain ⟨i0, si, sy0, sy1, sy2⟩ := info_parts info_strN
 obtain ⟨p, c, rfl⟩ := (Sl.of_owns h).len
 have H := Lib.hid h
 have HN := Lib.hid hn
 have HBB := Lib.hid hB
 have HNB := Lib.hid hb
 have hnI : (n : Int) ≤ 1048576 := by omega
 clear h hn hB hb
 go_enter Tryz.func89, Tryz.ntmps89
 go_wp2_with fail
 go_loopw [5] (fun i wr => ∃ k : Nat, k ≤ n ∧ i = .int .i64 (k : Int) ∧ w = wr ∧ Hid (memN (l.take k) s = false)) (fun i _ => n - (intOf i).toNat)
 case atStart => exact ⟨0, Nat.zero_le _, rfl, rfl, Lib.hid rfl⟩
 case round =>
  obtain ⟨k, hk, rfl, rfl, HA⟩ := hrel
  cases hx : l[k]? with
  |
   none =>
   have hkl : ¬ (k : Int) < (n : Int) := by
    rcases Nat.lt_or_ge k l.length with h | h
    · rw [List.getElem?_eq_getElem h] at hx; cases hx
    · have := HN.out; omega
   have HA2 := Lib.hid (show memN l s = false by have := HA.out; rw [List.take_of_length_le (by have := HN.out; omega)] at this; exact this)
   have HW := Lib.hid (show withN l s = l ++ [s] by unfold withN; rw [if_neg (by rw [HA2.out]; simp)])
   obtain ⟨XS, hXS⟩ : ∃ X : List Value, l.map .string = X := ⟨_, rfl⟩
   have HXS := Lib.hid hXS
   rw [hXS] at H
   clear hx hk HA hXS
   go_wp2_with (at_builtin; refine wpList_append_own_at _ rfl (.tmp 19) (.tmp 21) 30 rfl B 9 i0 (.string ⟨#[]⟩) 1 16 Tryz.underlying30 si sy0 sy1 sy2 rfl (by decide) _ n XS rfl (H.out.alloc _) ⟨w.heap.size, 0, none⟩ 1 1 [.string s] rfl rfl (new_cells _ _ _) (by intro u hu; simp at hu; subst hu; rfl) (by have := HNB.out; unfold maxLen; omega) (by have := HNB.out; omega) (Nat.le_trans HBB.out (Gr.alloc _ _).size) ?_; intro v' w4 hown4 hg4 _ hloc; obtain ⟨p4, c4', rfl⟩ := (Sl.of_owns hown4).len; have HOW4 := Lib.hid hown4; have HGL := Lib.hid (show GrownL w w4 (.slice p n c) (.slice p4 (n + 1) c4') from (GrownL.gr _ (Gr.alloc _ _)).trans ⟨hg4, hloc.imp id (fun e g hg => by rw [e] at hg; injection hg with hg; omega)⟩); clear hown4 hg4 hloc)
   go_ret
   refine ⟨_, rfl, ?_, HGL.out⟩
   rw [HW.out, List.length_append, List.map_append, HXS.out, HN.out]
   exact HOW4.out
  |
   some y =>
   have hkl : k < l.length := (List.getElem?_eq_some_iff.1 hx).1
   have hkn : k < n := by rw [← HN.out]; exact hkl
   obtain ⟨b, off, rfl, hb, hc⟩ := txt_at (show Sl w (.slice p n c) 1 l.length (l.map .string) by rw [HN.out]; exact Sl.of_owns H.out) hx
   have HX := Lib.hid hx
   have HKN := Lib.hid hkn
   have hkI : (k : Int) < (n : Int) := by omega
   clear hx hk hkl hkn
   by_cases he : y = s
   ·
    subst he
    have heb : (y.toList == y.toList) = true := by simp
    have HW := Lib.hid (show withN l y = l by unfold withN; rw [if_pos (memN_iff.2 (List.mem_of_getElem? HX.out))])
    go_wp2_with fail
    go_ret
    exact ⟨_, rfl, by rw [HW.out, HN.out]; exact H.out, GrownL.refl _ _⟩
   ·
    have heb : (y.toList == s.toList) = false := by rw [beq_eq_false_iff_ne]; exact fun e => he (toList_inj e)
    have HF := Lib.hid (show memN (l.take (k + 1)) s = false by
     have h1 := HA.out
     unfold memN at h1 ⊢
     rw [List.take_add_one, HX.out]
     simp only [Option.toList_some, List.any_append, h1, List.any_cons, List.any_nil, decide_eq_false he, Bool.or_self])
    clear he
    go_wp2_with fail
    go_roundw
    case rel => exact ⟨k + 1, HKN.out, by go_num, by first | rfl | trivial, HF⟩
    case measure => have := HKN.out; simp [intOf]; omega
end Go.Proofs.YtkkopdmemjncdaaGreatDoor
namespace Go.Proofs.YtkkopdmemjncdaaGreatDoor
open Go Go.RowKit
theorem own_one {W : World} {B : Nat} (v : Value) (e : TypeId) (hB : B ≤ W.heap.size) : (W.alloc (.cells #[v] e)).ownsRow B e 1 (.slice (some ⟨W.heap.size, 0, none⟩) 1 1) 1 [v] :=
 ⟨rfl, .inr ⟨W.heap.size, 1, #[v], rfl, hB, heap_alloc_new W _, Nat.le_refl _, by unfold maxLen; omega, rfl, rfl⟩⟩
theorem start_names {s : Sc} (h : s.modes ≠ []) : modesN s = s.modes.map (·.name) := by unfold modesN; rw [if_neg h]
theorem start_none {s : Sc} (h : s.modes = []) : modesN s = [⟨#[115, 116, 97, 114, 116]⟩] := by unfold modesN; rw [if_pos h]
set_option maxRecDepth 100000 in
set_option maxHeartbeats 8000000 in
theorem
    modes6_any (s : Sc) (w : World) (vm vd vr : Value) (hs : ScIn w s vm vd vr) (hml : s.modes.length ≤ 1048576) :
  Calls Tryz.prog 37 #[scV vm vd vr] w fun e w' => ∃ v, e = .returned v ∧ w'.ownsRow w.heap.size 9 1 v (modesN s).length ((modesN s).map .string) ∧ Gr w w' := by
 obtain ⟨i0, si, sy0, sy1, sy2⟩ := info_parts info_strN
 obtain ⟨dl, rl, hd, hr, hm, hmo, hmn, hmb, hds, hdi, hdn, hdb, hrs, hri, hrn, hrb⟩ := hs
 obtain ⟨pm, cm, rfl⟩ := hm.len
 obtain ⟨pd, cd, rfl⟩ := hds.len
 obtain ⟨pr, cr, rfl⟩ := hrs.len
 obtain ⟨n, hn⟩ : ∃ n, s.modes.length = n := ⟨_, rfl⟩
 obtain ⟨nd, hnd⟩ : ∃ n, dl.length = n := ⟨_, rfl⟩
 obtain ⟨nr, hnr⟩ : ∃ n, rl.length = n := ⟨_, rfl⟩
 have HM := Lib.hid hm
 have HN := Lib.hid hn
 have hnI : (n : Int) ≤ 1048576 := by omega
 have HNB := Lib.hid (show n ≤ 1048576 by omega)
 rw [hn, hnd, hnr]
 unfold scV
 clear hd hr hm hmo hmn hmb hds hdi hdn hdb hrs hri hrn hrb hml hn hnd hnr
 go_enter Tryz.func37, Tryz.ntmps37
 go_upto_block 0 with fail
 refine name_world (fun W hW => ?_)
 have xp : boxAt W w.heap.size [.slice pm n cm, .slice pd nd cd, .slice pr nr cr] := by rw [hW]; exact boxAt.new_atN _ _ _ rfl rfl
 have hgW : Gr w W := by rw [hW]; exact Gr.alloc _ _
 have HR0 := Lib.hid (((Reg.start w).addBox hgW xp (by simp) (Nat.le_refl _)).push 9 1)
 obtain ⟨sb, hsb⟩ : ∃ b, w.heap.size = b := ⟨_, rfl⟩
 rw [hsb] at HR0
 simp only [hsb]
 clear hW xp hgW hsb
 go_wp2_with fail
 go_loopw [3, 4] (fun va i wr => ∃ k : Nat, k ≤ n ∧ i = .int .i64 (k : Int) ∧ Hid (Reg w [(sb, [.slice pm n cm, .slice pd nd cd, .slice pr nr cr])] [⟨va, 9, 1, k, ((s.modes.map (·.name)).take k).map .string⟩] wr)) (fun _ i _ => n - (intOf i).toNat)
 case atStart => exact ⟨0, Nat.zero_le _, rfl, HR0⟩
 case round =>
  clear HR0
  obtain ⟨k, hk, rfl, HRG⟩ := hrel
  have xp := (HRG.out.box _ (List.mem_singleton.2 rfl)).1
  dsimp only at xp
  have hrow := HRG.out.row (List.mem_singleton.2 rfl)
  dsimp only at hrow
  obtain ⟨pa, ca, rfl⟩ := (Sl.of_owns hrow).len
  have HROW := Lib.hid hrow
  clear hrow
  obtain ⟨c_p0, c_p1, c_p2, m_p0, m_p1, m_p2, l_p⟩ := unb3 xp
  rcases Nat.lt_or_ge k n with hkn | hkn
  ·
   have hkI : (k : Int) < (n : Int) := by omega
   have HKN := Lib.hid hkn
   obtain ⟨md, hx⟩ : ∃ x, s.modes[k]? = some x := ⟨_, List.getElem?_eq_getElem (by rw [HN.out]; exact hkn)⟩
   have hS := HM.out
   obtain ⟨b2, off, hpm, hbl, hc⟩ := mode_at hS hx
   subst hpm
   have HDN := Lib.hid (show (s.modes.map (·.name))[k]? = some md.name by rw [List.getElem?_map, hx]; rfl)
   have k0 : wr.cell? ⟨b2, off + k * 3, none⟩ = some (.string md.name) := HRG.out.gr.cell (hc 0 _ rfl)
   have hbr := Nat.lt_of_lt_of_le hbl HRG.out.gr.size
   obtain ⟨nmd, hnmd⟩ : ∃ t, md.name = t := ⟨_, rfl⟩
   rw [hnmd] at k0 HDN
   obtain ⟨XS, hXS⟩ : ∃ X : List Value, ((s.modes.map (·.name)).take k).map .string = X := ⟨_, rfl⟩
   have HXS := Lib.hid hXS
   rw [hXS] at HROW
   clear hx hk hkn hc hS hbl hXS hnmd
   go_wp2_with (at_builtin; refine wpList_append_own_at _ rfl (.tmp 12) (.tmp 19) 30 rfl w.heap.size 9 i0 (.string ⟨#[]⟩) 1 16 Tryz.underlying30 si sy0 sy1 sy2 rfl (by decide) _ k XS rfl (HROW.out.alloc _) ⟨wr.heap.size, 0, none⟩ 1 1 [.string nmd] rfl rfl (new_cells _ _ _) (by intro u hu; simp at hu; subst hu; rfl) (by have := HKN.out; have := HNB.out; unfold maxLen; omega) (by have := HKN.out; have := HNB.out; omega) (Nat.le_trans HRG.out.kp.size (Gr.alloc _ _).size) ?_; intro v' w4 hown4 hg4 _ hloc; obtain ⟨p4, c4', rfl⟩ := (Sl.of_owns hown4).len; have HOW4 := Lib.hid hown4; have HG4 := Lib.hid hg4; have HLOC := Lib.hid hloc; clear hown4 hg4 hloc)
   clear c_p0 c_p1 c_p2 m_p0 m_p1 m_p2 l_p
   clear xp k0
   go_roundw
   case rel => exact ⟨k + 1, HKN.out, by go_num, Lib.hid (by
    rw [take_snoc HDN.out, List.map_append, HXS.out]
    exact (HRG.out.later (Gr.alloc wr _)).grow (i := 0) rfl HG4.out HOW4.out HLOC.out)⟩
   case measure => have := HKN.out; simp [intOf]; omega
  ·
   have hkI : ¬ (k : Int) < (n : Int) := by omega
   have hke : n = k := by omega
   subst hke
   have HTA := Lib.hid (show (s.modes.map (·.name)).take n = s.modes.map (·.name) from List.take_of_length_le (by rw [List.length_map, HN.out]; exact Nat.le_refl _))
   rw [HTA.out] at HROW
   have HGF := Lib.hid HRG.out.gr
   clear hk hkn
   rcases Nat.eq_zero_or_pos n with h0 | h0
   ·
    have HZ := Lib.hid (start_none (s := s) (List.eq_nil_of_length_eq_zero (by rw [HN.out]; exact h0)))
    have hzb : ((n : Int) == 0) = true := by rw [beq_iff_eq]; omega
    have HB := Lib.hid HRG.out.kp.size
    clear h0
    go_wp2_with fail
    go_ret
    refine ⟨_, rfl, ?_, HGF.out.trans (Gr.alloc _ _)⟩
    rw [HZ.out]
    exact own_one _ _ HB.out
   ·
    have HZ := Lib.hid (start_names (s := s) (fun h => by have h1 := HN.out; rw [h] at h1; simp at h1; omega))
    have hzb : ((n : Int) == 0) = false := by rw [beq_eq_false_iff_ne]; omega
    clear h0
    go_wp2_with fail
    go_ret
    exact ⟨_, rfl, by rw [HZ.out, List.length_map, HN.out]; exact HROW.out, HGF.out⟩
end Go.Proofs.YtkkopdmemjncdaaGreatDoor
