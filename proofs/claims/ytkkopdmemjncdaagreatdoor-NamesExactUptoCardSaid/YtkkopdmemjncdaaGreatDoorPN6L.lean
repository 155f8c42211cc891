/- Texts of mine, put together: N6L. No condition but what each says. -/
import Derived.Test.YtkkopdmemjncdaaGreatDoorPN6B
import Derived.Test.YtkkopdmemjncdaaGreatDoorPN6A
import Derived.Test.YtkkopdmemjncdaaGreatDoorPHo
namespace Go.Proofs.YtkkopdmemjncdaaGreatDoor
open Go Go.RowKit
theorem note1_again (b : Option Nt) (x : Nt) : note1 (note1 b x) x = note1 b x := by
 obtain ⟨y, hy, h⟩ := note1_some b x
 rw [hy]
 rcases h with rfl | h
 · unfold note1; simp
 ·
  subst h
  by_cases h2 : x.2 < y.2
  ·
   unfold note1 at hy
   simp only [if_pos h2] at hy
   injection hy with hy
   subst hy
   omega
  · exact note1_old h2
theorem memN_snoc6 {l : List ByteArray} {j : Nat} {y : ByteArray} (h : l[j]? = some y) (s : ByteArray) : memN (l.take (j + 1)) s = (memN (l.take j) s || decide (y = s)) := by
 rw [take_snoc h]
 unfold memN
 rw [List.any_append]
 simp
theorem own_kp6 {w w' : World} {B e k n q : Nat} {v : Value} {xs : List Value} (h : w.ownsRow B e k v n xs) (hk : KpR [q] w w') (hq : q < B) : w'.ownsRow B e k v n xs :=
 owns_heap h (fun g hg => hk.block g (World.ownsRow.lt h g hg).2 (fun hm => by have h1 := List.mem_singleton.1 hm; have h2 := (World.ownsRow.lt h g hg).1; omega))
def noteIf (q : Bool) (b : Option Nt) (x : Nt) : Option Nt := if q = true then note1 b x else b
theorem noteIf_yes (q : Bool) (b : Option Nt) (x : Nt) : note1 (noteIf q b x) x = noteIf (q || true) b x := by
 cases q with
 | false => rfl
 | true => exact note1_again b x
theorem dups_step {l : List Nt} {k : Nat} {x : Nt} (h : l[k]? = some x) (b : Option Nt) : (dups [] (l.take (k + 1))).foldl note1 b = noteIf (memN ((l.map (·.1)).take k) x.1) ((dups [] (l.take k)).foldl note1 b) x := by
 rw [take_snoc h, dups_snoc, List.foldl_append, List.nil_append, List.map_take]
 unfold noteIf
 split <;> rfl
theorem flat_step {α : Type} {l : List α} {k : Nat} {x : α} (h : l[k]? = some x) (f : α → List Nt) (b : Option Nt) : ((l.take (k + 1)).flatMap f).foldl note1 b = (f x).foldl note1 (((l.take k).flatMap f).foldl note1 b) := by
 rw [take_snoc h, List.flatMap_append, List.foldl_append]
 simp
theorem at_lt {l : List ByteArray} {k : Nat} {s : ByteArray} (h : l[k]? = some s) : decide (atI l s < (k : Int)) = memN (l.take k) s := by
 have hm : memN l s = true := memN_iff.2 (List.mem_of_getElem? h)
 rw [atI_some hm]
 cases hk : memN (l.take k) s with
 | false => rw [noOf_at hk h]; simp
 |
  true =>
  have h1 := (noOf_some (memN_iff.1 hk)).1
  have h2 : noOf l s = noOf (l.take k) s := by
   conv => lhs; rw [← List.take_append_drop k l]
   unfold noOf at h1 ⊢
   rw [List.findIdx_append, if_pos h1]
  have h3 : (l.take k).length ≤ k := by rw [List.length_take]; omega
  rw [h2]
  exact decide_eq_true (by omega)
theorem noTrail {r : Rl} (h : r.hasTrail = false → refsE r.trail = []) (K : List ByteArray) : (trailsR r).flatMap (fun e => lost K (refsE e)) = lost K (refsE r.head) ++ lost K (refsE r.trail) := by
 unfold trailsR
 cases ht : r.hasTrail with
 | false => rw [h ht]; simp [lost]
 | true => simp
theorem spec_noTrail {s : Sc} (h : specC s = true) : ∀ r ∈ s.rules, r.hasTrail = false → refsE r.trail = [] := by
 intro r hr ht
 unfold specC at h
 simp only [Bool.and_eq_true] at h
 have h1 := List.all_eq_true.1 h.2.2.2 r hr
 unfold ruleC at h1
 simp only [Bool.and_eq_true, ht, if_neg (show ¬ (false = true) by simp)] at h1
 have h2 := h1.2.2.2.2.2.2.1
 obtain ⟨po, al, ms, hd, htr, tr, lb, ac⟩ := r
 cases tr with
 |
  mk op pos st text mn mx args =>
  unfold noneE at h2
  have h3 := of_decide_eq_true h2
  have h4 : args = [] := List.eq_nil_of_length_eq_zero h3.2.2.2.2.2.2
  rw [refsE, h4, if_neg (by omega)]
  rfl
theorem RlIn.formY {w : World} {r : Rl} {cs : List Value} (h : RlIn w r cs) : ∃ (po : Int) (al : Bool) (pum : Option Addr) (num cum : Nat) (op ps : Int) (s1 : BitVec 256) (tx : ByteArray) (mn mx : Int) (p1 : Option Addr) (n1 c1 : Nat) (ht : Bool) (op2 ps2 : Int) (s2 : BitVec 256) (tx2 : ByteArray) (mn2 mx2 : Int) (p2 : Option Addr) (n2 c2 : Nat) (lb : ByteArray) (pua : Option Addr) (nua cua : Nat), cs = [.int .i64 po, .bool al, .slice pum num cum, .int .i64 op, .int .i64 ps, .int .u64 (wd s1 0), .int .u64 (wd s1 1), .int .u64 (wd s1 2), .int .u64 (wd s1 3), .string tx, .int .i64 mn, .int .i64 mx, .slice p1 n1 c1, .bool ht, .int .i64 op2, .int .i64 ps2, .int .u64 (wd s2 0), .int .u64 (wd s2 1), .int .u64 (wd s2 2), .int .u64 (wd s2 3), .string tx2, .int .i64 mn2, .int .i64 mx2, .slice p2 n2 c2, .string lb, .slice pua nua cua] ∧
  ExIn w r.head (exCells op ps s1 tx mn mx (.slice p1 n1 c1)) ∧ ExIn w r.trail (exCells op2 ps2 s2 tx2 mn2 mx2 (.slice p2 n2 c2)) := by
 cases h with
 |
  mk vm va ec tc he ht hm hmn hmb hmo ha han hab hao hl hp =>
  obtain ⟨op, ps, s1, tx, mn, mx, p1, n1, c1, rfl⟩ := he.formN
  obtain ⟨op2, ps2, s2, tx2, mn2, mx2, p2, n2, c2, rfl⟩ := ht.formN
  obtain ⟨pum, cum, rfl⟩ := hm.len
  obtain ⟨pua, cua, rfl⟩ := ha.len
  exact ⟨_, _, pum, _, cum, op, ps, s1, tx, mn, mx, p1, n1, c1, _, op2, ps2, s2, tx2, mn2, mx2, p2, n2, c2, _, pua, _, cua, rfl, he, ht⟩
def FoundV (w : World) : Option Nt → Value → Prop
 | none, v => v = .agg #[.int .i64 0, .int .i64 0, .int .i64 0, .int .i64 0, .slice none 0 0, .bool false]
 | some x, v => ∃ g c, v = .agg #[.int .i64 6, .int .i64 0, .int .i64 0, .int .i64 x.2, .slice (some ⟨g, 0, none⟩) 1 c, .bool true] ∧ Sl w (.slice (some ⟨g, 0, none⟩) 1 c) 1 1 [.string x.1]
set_option maxRecDepth 100000 in
set_option maxHeartbeats 32000000 in
theorem
    wrong6_any (
          s
           :
            Sc)
              (w : World) (vm vd vr : Value) (hs : ScIn w s vm vd vr) (hml : s.modes.length ≤ 1048576) (hnt : ∀ r ∈ s.rules, r.hasTrail = false → refsE r.trail = []) :
  Calls Tryz.prog 35 #[scV vm vd vr] w fun e w' => ∃ v, e = .returned v ∧ FoundV w' (worst (notes s)) v ∧ Gr w w' := by
 obtain ⟨BZ, hbz⟩ : ∃ b, worst (notes s) = b := ⟨_, rfl⟩
 rw [hbz]
 have HBZ := Lib.hid hbz
 clear hbz
 have HDF := Lib.hid (fun W (hG : Gr w W) x => def6_any s W vm vd vr (hs.later hG) x)
 have HMD := Lib.hid (fun W (hG : Gr w W) => modes6_any s W vm vd vr (hs.later hG) hml)
 have HRF := Lib.hid (fun W (hG : Gr w W) fb (hfb : W.heap.size ≤ fb) e cs W2 b => refsf_any s W vm vd vr (hs.later hG) fb hfb _ e (Nat.le_refl _) cs W2 b)
 have HNT := Lib.hid hnt
 obtain ⟨dl, rl, hd, hr, hm, hmo, hmn, hmb, hds, hdi, hdn, hdb, hrs, hri, hrn, hrb⟩ := hs
 obtain ⟨pm, cm, rfl⟩ := hm.len
 obtain ⟨pd, cd, rfl⟩ := hds.len
 obtain ⟨pr, cr, rfl⟩ := hrs.len
 obtain ⟨nm, hnm⟩ : ∃ n, s.modes.length = n := ⟨_, rfl⟩
 obtain ⟨n, hnd⟩ : ∃ n, dl.length = n := ⟨_, rfl⟩
 obtain ⟨nr, hnr⟩ : ∃ n, rl.length = n := ⟨_, rfl⟩
 rw [hnm] at HDF HMD HRF hmb hml ⊢
 rw [hnd] at HDF HMD HRF hdb hds ⊢
 rw [hnr] at HDF HMD HRF hrb hrs ⊢
 unfold scV at HDF HMD HRF ⊢
 have HM := Lib.hid (show Sl w (.slice pm s.modes.length cm) 3 s.modes.length (s.modes.flatMap mdC) by rw [hnm] at hm ⊢; exact hm)
 have HNM := Lib.hid hnm
 have HD := Lib.hid hds
 have HDI := Lib.hid hdi
 have HHD := Lib.hid hd
 have HND := Lib.hid hnd
 have HR := Lib.hid hrs
 have HRI := Lib.hid hri
 have HHR := Lib.hid hr
 have HNR := Lib.hid hnr
 have HSD := Lib.hid (show s.defs.length = n by rw [← hd, List.length_map]; exact hnd)
 have HSR := Lib.hid (show s.rules.length = nr by rw [← hr, List.length_map]; exact hnr)
 have hnmI : (nm : Int) ≤ 1048576 := by omega
 have hnI : (n : Int) ≤ 1099511627776 := by omega
 have hnrI : (nr : Int) ≤ 1099511627776 := by omega
 clear hd hr hm hmo hmn hmb hds hdi hdn hdb hrs hri hrn hrb hnm hnd hnr hml hnt
 go_enter Tryz.func35, Tryz.ntmps35
 go_upto_region 2 with fail
 refine name_world (fun W hW => ?_)
 have xs : boxAt W w.heap.size [.slice pm nm cm, .slice pd n cd, .slice pr nr cr] := by rw [hW]; exact ((boxAt.new_atN _ _ _ rfl rfl).later (Gr.alloc _ _)).later (Gr.alloc _ _)
 have xr : boxAt W (w.heap.size + 1) [.int .i64 0, .int .i64 0, .int .i64 0, .int .i64 0, .slice none 0 0, .bool false] := by rw [hW]; exact (boxAt.new_atN _ _ _ rfl (by simp)).later (Gr.alloc _ _)
 have xf : boxAt W (w.heap.size + 1 + 1) [.int .i64 0, .int .i64 0, .int .i64 0, .int .i64 0, .slice none 0 0, .bool false] := by rw [hW]; exact boxAt.new_atN _ _ _ rfl (by simp)
 have hgW : Gr w W := by rw [hW]; exact ((Gr.alloc _ _).trans (Gr.alloc _ _)).trans (Gr.alloc _ _)
 clear hW
 obtain ⟨sb, hsb⟩ : ∃ b, w.heap.size = b := ⟨_, rfl⟩
 obtain ⟨qb, hqb⟩ : ∃ b, sb + 1 = b := ⟨_, rfl⟩
 obtain ⟨fb, hfb⟩ : ∃ b, qb + 1 = b := ⟨_, rfl⟩
 have HFS := Lib.hid (show w.heap.size ≤ fb by omega)
 have HQL := Lib.hid (show w.heap.size ≤ qb by omega)
 rw [hsb] at xs xr xf
 rw [hqb] at xr xf
 rw [hfb] at xf
 have XS := Lib.hid (fun W2 (hK : KpR [fb] W W2) => hK.box xs (fun hm => by have h1 := List.mem_singleton.1 hm; omega) (by simp))
 have XR := Lib.hid (fun W2 (hK : KpR [fb] W W2) => hK.box xr (fun hm => by have h1 := List.mem_singleton.1 hm; omega) (by simp))
 have HGR := Lib.hid (fun W2 (hK : KpR [fb] W W2) => (show Gr w W2 from KpR.toGr hgW hK (fun x hx => by rw [List.mem_singleton.1 hx]; exact HFS.out)))
 have HF0 := Lib.hid (show FoundIn W fb none from xf)
 have HFL := Lib.hid (show fb < W.heap.size from xf.lt (by simp))
 have HKA := Lib.hid (fun W2 W3 (hK : KpR [fb] W W2) (hG : Gr W2 W3) => (show KpR [fb] W W3 from hK.trans (KpR.gr (R := [fb]) hG) (fun x hx => .inl hx)))
 have HKB := Lib.hid (fun W2 W3 W4 (hK : KpR [fb] W W2) (hG : Gr W2 W3) (hk : KpR [fb] W3 W4) => (show KpR [fb] W W4 from (hK.trans (KpR.gr (R := [fb]) hG) (fun x hx => .inl hx)).trans hk (fun x hx => .inl hx)))
 have HAT := Lib.hid (fun (b : Option Nt) (x : Nt) (Wr : World) (hf : FoundIn Wr fb b) (W2 : World) (hG : Gr Wr W2) => at6f_any fb b x W2 (hf.later hG))
 have HRE := Lib.hid (fun (e : Ex) (cs : List Value) (b : Option Nt) (Wr : World) (he : ExIn w e cs) (hg : Gr w Wr) (hf : FoundIn Wr fb b) (W2 : World) (hG : Gr Wr W2) => HRF.out w (Gr.refl _) fb HFS.out e cs W2 b he (hg.trans hG) (hf.later hG))
 simp only [hsb, hqb, hfb]
 clear xs xr xf hgW hsb hqb hfb HRF
 have HK0 := Lib.hid (KpR.refl [fb] W)
 go_wp2_with fail
 go_loopw [4] (fun i wr => ∃ k : Nat, k ≤ nm ∧ i = .int .i64 (k : Int) ∧ Hid (FoundIn wr fb ((dups [] ((modeN s).take k)).foldl note1 none)) ∧ Hid (KpR [fb] W wr)) (fun i _ => nm - (intOf i).toNat)
 case atStart => exact ⟨0, Nat.zero_le _, rfl, HF0, HK0⟩
 case round =>
  clear HF0 HK0
  obtain ⟨k, hk, rfl, HFO, HK⟩ := hrel
  have xs := XS.out wr HK.out
  obtain ⟨c_s0, c_s1, c_s2, m_s0, m_s1, m_s2, l_s⟩ := unb3 xs
  rcases Nat.lt_or_ge k nm with hkn | hkn
  ·
   have hkI : (k : Int) < (nm : Int) := by omega
   have HKN := Lib.hid hkn
   obtain ⟨md, hx⟩ : ∃ x, s.modes[k]? = some x := ⟨_, List.getElem?_eq_getElem (by rw [HNM.out]; exact hkn)⟩
   obtain ⟨b2, off, hpm, hbl, hc⟩ := mode_at HM.out hx
   subst hpm
   have HC0 := Lib.hid (hc 0 _ rfl)
   have HC2 := Lib.hid (hc 2 _ rfl)
   have HBL := Lib.hid hbl
   have HXN := Lib.hid (show (modeN s)[k]? = some (md.name, md.pos) by unfold modeN; rw [List.getElem?_map, hx]; rfl)
   have HXM := Lib.hid (show ((modeN s).map (·.1))[k]? = some md.name by rw [List.getElem?_map, HXN.out]; rfl)
   obtain ⟨nmx, hnmx⟩ : ∃ t, md.name = t := ⟨_, rfl⟩
   obtain ⟨pox, hpox⟩ : ∃ t, md.pos = t := ⟨_, rfl⟩
   rw [hnmx] at HC0 HXN HXM
   rw [hpox] at HC2 HXN
   obtain ⟨b0, hb0⟩ : ∃ b, (dups [] ((modeN s).take k)).foldl note1 none = b := ⟨_, rfl⟩
   rw [hb0] at HFO
   have HB0 := Lib.hid hb0
   have HST := Lib.hid (dups_step HXN.out none)
   clear hx hk hkn hc hbl hnmx hpox hb0
   go_wp2_with fail
   clear c_s0 c_s1 c_s2 m_s0 m_s1 m_s2 l_s
   clear xs
   go_loopw [5] (fun i wz => ∃ j : Nat, j ≤ k ∧ i = .int .i64 (j : Int) ∧ Hid (FoundIn wz fb (noteIf (memN (((modeN s).map (·.1)).take j) nmx) b0 (nmx, pox))) ∧ Hid (KpR [fb] W wz)) (fun i _ => k - (intOf i).toNat)
   case atStart => exact ⟨0, Nat.zero_le _, rfl, HFO, HK⟩
   case round =>
    clear HFO HK
    obtain ⟨j, hj, rfl, HFO, HK⟩ := hrel
    rcases Nat.lt_or_ge j k with hjn | hjn
    ·
     have hjI : (j : Int) < (k : Int) := by omega
     have hjI2 : (j : Int) < (nm : Int) := by omega
     have HJN := Lib.hid hjn
     obtain ⟨my, hy⟩ : ∃ x, s.modes[j]? = some x := ⟨_, List.getElem?_eq_getElem (by rw [HNM.out]; have := HKN.out; omega)⟩
     obtain ⟨b3, off3, hpm, hbl3, hc3⟩ := mode_at HM.out hy
     injection hpm with hpm
     injection hpm with hp1 hp2
     subst hp1 hp2
     have hg := HGR.out wr HK.out
     have HYM := Lib.hid (show ((modeN s).map (·.1))[j]? = some my.name by unfold modeN; rw [List.map_map, List.getElem?_map, hy]; rfl)
     have k0 : wr.cell? ⟨b2, off + k * 3, none⟩ = some (.string nmx) := hg.cell HC0.out
     have k2 : wr.cell? ⟨b2, off + k * 3 + 2, none⟩ = some (.int .i64 pox) := hg.cell HC2.out
     have j0 : wr.cell? ⟨b2, off + j * 3, none⟩ = some (.string my.name) := hg.cell (hc3 0 _ rfl)
     have hbr := Nat.lt_of_lt_of_le HBL.out hg.size
     obtain ⟨nmy, hnmy⟩ : ∃ t, my.name = t := ⟨_, rfl⟩
     rw [hnmy] at HYM j0
     have HMS := Lib.hid (memN_snoc6 HYM.out nmx)
     have xs := XS.out wr HK.out
     obtain ⟨c_s0, c_s1, c_s2, m_s0, m_s1, m_s2, l_s⟩ := unb3 xs
     obtain ⟨q, hq⟩ : ∃ q, memN (((modeN s).map (·.1)).take j) nmx = q := ⟨_, rfl⟩
     rw [hq] at HFO HMS
     clear hj hjn hy hbl3 hc3 hnmy hg hq
     by_cases he : nmy = nmx
     ·
      subst he
      have heb : (nmy.toList == nmy.toList) = true := by simp
      have HNX := Lib.hid (show noteIf (memN (((modeN s).map (·.1)).take (j + 1)) nmy) b0 (nmy, pox) = note1 (noteIf q b0 (nmy, pox)) (nmy, pox) by
       rw [HMS.out, decide_eq_true rfl, noteIf_yes])
      have HC := Lib.hid (HAT.out _ (nmy, pox) wr HFO.out)
      try dsimp only at HC
      go_wp2_with fail
      refine wp_region_G (.take 0 (.take 1 (.take 2 (.take 3 (.take 4 (.take 5 (.take 6 (.take 7 (.take 8 (.take 9 (.take 10 (.take 11 (.take 12 .nil))))))))))))) (by kernel_rfl) (by kernel_rfl) ?_
      simp only [pickOps, nthOp]
      intro wq hG
      repeat (first | (refine wpG_skip_take ?_ ?_; (focus rfl); try simp only [Act.put, List.setIfInBounds_toArray, List.set_cons_zero, List.set_cons_succ]) | (refine wpG_skip_run ?_ ?_; (focus rfl); try simp only [Act.put, List.setIfInBounds_toArray, List.set_cons_zero, List.set_cons_succ]) | (refine wpG_take ?_ ?_; (focus rfl); apply Exists.intro; refine ⟨fun w' hw' => ?_, ?_⟩; (focus (have hc := Gr.cells hw'; go_simp; (try rfl); done)); try simp only [Act.put, List.setIfInBounds_toArray, List.set_cons_zero, List.set_cons_succ]))
      refine wpG_done ?_
      have k0 := hG.cell k0
      have k2 := hG.cell k2
      have hbr := Nat.lt_of_lt_of_le hbr hG.size
      have HK1 := Lib.hid (HKA.out _ _ HK.out hG)
      have HFO1 := Lib.hid (HFO.out.later hG)
      replace HC := Lib.hid (HAT.out _ (nmy, pox) wq HFO1.out)
      try dsimp only at HC
      clear c_s0 c_s1 c_s2 m_s0 m_s1 m_s2 l_s
      clear xs hG j0
      have xs := XS.out wq HK1.out
      obtain ⟨c_s0, c_s1, c_s2, m_s0, m_s1, m_s2, l_s⟩ := unb3 xs
      go_wp2_with fail
      refine wp_region_T (fun _ _ => False) (fun w' => Gr wq w') (.take 0 (.take 1 (.take 2 (.take 3 (.take 4 (.take 5 (.take 6 (.take 7 (.take 8 (.take 9 (.take 10 (.take 11 (.run 12 true .nil))))))))))))) (fun _ _ _ _ h => h.elim) (Gr.drew _) (by kernel_rfl) (by kernel_rfl) ?_
      simp only [pickOps, nthOp]
      intro wq2 hG hSq
      clear hSq
      repeat (first | (refine wpP_skip_take ?_ ?_; (focus rfl); try simp only [Act.put, List.setIfInBounds_toArray, List.set_cons_zero, List.set_cons_succ]) | (refine wpP_skip_run ?_ ?_; (focus rfl); try simp only [Act.put, List.setIfInBounds_toArray, List.set_cons_zero, List.set_cons_succ]) | (refine wpP_take ?_ ?_; (focus rfl); apply Exists.intro; refine ⟨fun w' hw' => ?_, ?_⟩; (focus (have hc := Gr.cells hw'; go_simp; (try rfl); done)); try simp only [Act.put, List.setIfInBounds_toArray, List.set_cons_zero, List.set_cons_succ]))
      refine wpP_last ?_ (fun K hK => ?_); (focus rfl)
      go_simp
      go_at_call 66
      refine (HC.out wq2 hG).mono ?_; rintro e' w5 ⟨rfl, hf5, hk5⟩
      (try dsimp only)
      refine hK.out _ _ ?_
      try simp only [Act.put, List.setIfInBounds_toArray, List.set_cons_zero, List.set_cons_succ]
      clear hK K
      refine wpP_done ?_
      have HF5 := Lib.hid hf5
      have HK5 := Lib.hid (HKB.out _ _ _ HK1.out hG hk5)
      clear c_s0 c_s1 c_s2 m_s0 m_s1 m_s2 l_s
      clear hf5 hk5 hG k0 k2 hbr xs HC
      go_wp2_with fail
      go_roundw
      case rel => exact ⟨j + 1, by have := HJN.out; omega, by go_num, by rw [HNX.out]; exact HF5, HK5⟩
      case measure => have := HJN.out; simp [intOf]; omega
     ·
      have heb : (nmy.toList == nmx.toList) = false := by rw [beq_eq_false_iff_ne]; exact fun e => he (toList_inj e)
      have HNX := Lib.hid (show memN (((modeN s).map (·.1)).take (j + 1)) nmx = q by rw [HMS.out, decide_eq_false he, Bool.or_false])
      clear he
      go_wp2_with fail
      refine wp_region_G (.take 0 (.take 1 (.take 2 (.take 3 (.take 4 (.take 5 (.take 6 (.take 7 (.take 8 (.take 9 (.take 10 (.take 11 (.take 12 .nil))))))))))))) (by kernel_rfl) (by kernel_rfl) ?_
      simp only [pickOps, nthOp]
      intro wq hG
      repeat (first | (refine wpG_skip_take ?_ ?_; (focus rfl); try simp only [Act.put, List.setIfInBounds_toArray, List.set_cons_zero, List.set_cons_succ]) | (refine wpG_skip_run ?_ ?_; (focus rfl); try simp only [Act.put, List.setIfInBounds_toArray, List.set_cons_zero, List.set_cons_succ]) | (refine wpG_take ?_ ?_; (focus rfl); apply Exists.intro; refine ⟨fun w' hw' => ?_, ?_⟩; (focus (have hc := Gr.cells hw'; go_simp; (try rfl); done)); try simp only [Act.put, List.setIfInBounds_toArray, List.set_cons_zero, List.set_cons_succ]))
      refine wpG_done ?_
      have HK1 := Lib.hid (HKA.out _ _ HK.out hG)
      have HFO1 := Lib.hid (HFO.out.later hG)
      clear c_s0 c_s1 c_s2 m_s0 m_s1 m_s2 l_s
      clear xs hG k0 k2 j0 hbr
      go_wp2_with fail
      go_roundw
      case rel => exact ⟨j + 1, by have := HJN.out; omega, by go_num, by rw [HNX.out]; exact HFO1, HK1⟩
      case measure => have := HJN.out; simp [intOf]; omega
    ·
     have hjI : ¬ (j : Int) < (k : Int) := by omega
     have hje : j = k := by omega
     have HFN := Lib.hid (show FoundIn wr fb ((dups [] ((modeN s).take (k + 1))).foldl note1 none) by rw [HST.out, HB0.out, ← hje]; exact HFO.out)
     clear hj hjn hje
     go_wp2_with fail
     go_roundw
     case rel => exact ⟨k + 1, HKN.out, by go_num, HFN, HK⟩
     case measure => have := HKN.out; simp [intOf]; omega
  ·
   have hkI : ¬ (
          k
           :
            Int) < (
                nm : Int) := by omega
   have HB1 := Lib.hid (show FoundIn wr fb ((dups [] (modeN s)).foldl note1 none) by
    have := HFO.out
    rw [List.take_of_length_le (by unfold modeN; rw [List.length_map, HNM.out]; exact hkn)] at this
    exact this)
   obtain ⟨B1, hB1⟩ : ∃ b, (dups [] (modeN s)).foldl note1 none = b := ⟨_, rfl⟩
   rw [hB1] at HB1
   have HB1E := Lib.hid hB1
   clear hk hkn HFO hB1
   go_wp2_with fail
   clear c_s0 c_s1 c_s2 m_s0 m_s1 m_s2 l_s
   clear xs
   go_loopw [6] (fun i wr => ∃ k : Nat, k ≤ n ∧ i = .int .i64 (k : Int) ∧ Hid (FoundIn wr fb ((dups [] ((defN s).take k)).foldl note1 B1)) ∧ Hid (KpR [fb] W wr)) (fun i _ => n - (intOf i).toNat)
   case atStart => exact ⟨0, Nat.zero_le _, rfl, HB1, HK⟩
   case round =>
    clear HB1 HK
    obtain ⟨k, hk, rfl, HFO, HK⟩ := hrel
    have xs := XS.out wr HK.out
    obtain ⟨c_s0, c_s1, c_s2, m_s0, m_s1, m_s2, l_s⟩ := unb3 xs
    rcases Nat.lt_or_ge k n with hkn | hkn
    ·
     have hkI : (k : Int) < (n : Int) := by omega
     have HKN := Lib.hid hkn
     obtain ⟨⟨d, cs⟩, hx⟩ : ∃ x, dl[k]? = some x := ⟨_, List.getElem?_eq_getElem (by rw [HND.out]; exact hkn)⟩
     obtain ⟨b2, off, hpm, hbl, hc⟩ := elem_at HD.out (fun x hx => (HDI.out x hx).len) HND.out hx
     have hok := HDI.out _ (List.mem_of_getElem? hx)
     have hsd : s.defs[k]? = some d := by rw [← HHD.out, List.getElem?_map, hx]; rfl
     dsimp only at hok hc
     cases hok with
     | mk ec hee hnn hpp =>
     have HDN := Lib.hid (defsN_get hsd)
     have HXN := Lib.hid (show (defN s)[k]? = some (d.name, d.pos) by unfold defN; rw [List.getElem?_map, hsd]; rfl)
     subst hpm
     have hg := HGR.out wr HK.out
     have k0 : wr.cell? ⟨b2, off + k * 12, none⟩ = some (.string d.name) := hg.cell (hc 0 _ rfl)
     have k1 : wr.cell? ⟨b2, off + k * 12 + 1, none⟩ = some (.int .i64 d.pos) := hg.cell (hc 1 _ rfl)
     have hbr := Nat.lt_of_lt_of_le hbl hg.size
     obtain ⟨nmx, hnmx⟩ : ∃ t, d.name = t := ⟨_, rfl⟩
     obtain ⟨pox, hpox⟩ : ∃ t, d.pos = t := ⟨_, rfl⟩
     rw [hnmx] at k0 HXN HDN
     rw [hpox] at k1 HXN
     have HLT := Lib.hid (at_lt HDN.out)
     have HST := Lib.hid (show (dups [] ((defN s).take (k + 1))).foldl note1 B1 = noteIf (memN ((defsN s).take k) nmx) ((dups [] ((defN s).take k)).foldl note1 B1) (nmx, pox) by
      rw [dups_step HXN.out B1, show (defN s).map (·.1) = defsN s by unfold defN defsN; rw [List.map_map]; rfl])
     obtain ⟨b0, hb0⟩ : ∃ b, (dups [] ((defN s).take k)).foldl note1 B1 = b := ⟨_, rfl⟩
     rw [hb0] at HFO HST
     have HDC := Lib.hid (fun W2 (hG : Gr wr W2) => HDF.out W2 ((HGR.out wr HK.out).trans hG) nmx)
     obtain ⟨a, ha⟩ : ∃ a, atI (defsN s) nmx = a := ⟨_, rfl⟩
     rw [ha] at HDC HLT
     obtain ⟨q, hq⟩ : ∃ q, memN ((defsN s).take k) nmx = q := ⟨_, rfl⟩
     rw [hq] at HLT HST
     clear hx hk hkn hc hee hnn hpp hsd hbl hnmx hpox hb0 ha hq hg
     go_wp2_with fail
     refine wp_region_S (fun w' => Gr wr w') (.take 0 (.take 1 (.take 2 (.take 3 (.take 4 (.take 5 (.take 6 (.take 8 (.run 7 false (.take 9 .nil)))))))))) (Gr.drew _) (by kernel_rfl) (by kernel_rfl) ?_
     simp only [pickOps, nthOp]
     intro wq hN hG
     clear hG
     repeat (first | (refine wpG_skip_take ?_ ?_; (focus rfl); try simp only [Act.put, List.setIfInBounds_toArray, List.set_cons_zero, List.set_cons_succ]) | (refine wpG_skip_run ?_ ?_; (focus rfl); try simp only [Act.put, List.setIfInBounds_toArray, List.set_cons_zero, List.set_cons_succ]) | (refine wpG_take ?_ ?_; (focus rfl); apply Exists.intro; refine ⟨fun w' hw' => ?_, ?_⟩; (focus (have hc := Gr.cells hw'; go_simp; (try rfl); done)); try simp only [Act.put, List.setIfInBounds_toArray, List.set_cons_zero, List.set_cons_succ]))
     refine wpG_run ?_ (fun K hK => ?_); (focus rfl)
     go_simp
     go_at_call 67
     (with_reducible refine (HDC.out _ hN).mono ?_); rintro e' w7 ⟨rfl, hb⟩
     try dsimp only
     have hN7 := hN.trans hb
     refine hK.out _ _ hN7 ?_
     clear hK K hb
     try simp only [Act.put, List.setIfInBounds_toArray, List.set_cons_zero, List.set_cons_succ]
     repeat (first | (refine wpG_skip_take ?_ ?_; (focus rfl); try simp only [Act.put, List.setIfInBounds_toArray, List.set_cons_zero, List.set_cons_succ]) | (refine wpG_skip_run ?_ ?_; (focus rfl); try simp only [Act.put, List.setIfInBounds_toArray, List.set_cons_zero, List.set_cons_succ]) | (refine wpG_take ?_ ?_; (focus rfl); apply Exists.intro; refine ⟨fun w' hw' => ?_, ?_⟩; (focus (have hc := Gr.cells hw'; go_simp; (try rfl); done)); try simp only [Act.put, List.setIfInBounds_toArray, List.set_cons_zero, List.set_cons_succ]))
     refine wpG_done ?_
     try rw [HLT.out]
     have HK1 := Lib.hid (HKA.out _ _ HK.out hN7)
     have HFO1 := Lib.hid (HFO.out.later hN7)
     have k0 := hN7.cell k0
     have k1 := hN7.cell k1
     have hbr := Nat.lt_of_lt_of_le hbr hN7.size
     clear c_s0 c_s1 c_s2 m_s0 m_s1 m_s2 l_s
     clear xs hN hN7 HK HFO
     have xs := XS.out w7 HK1.out
     obtain ⟨c_s0, c_s1, c_s2, m_s0, m_s1, m_s2, l_s⟩ := unb3 xs
     cases q with
     |
      true =>
      have HC := Lib.hid (HAT.out _ (nmx, pox) w7 HFO1.out)
      try dsimp only at HC
      go_wp2_with fail
      refine wp_region_T (fun _ _ => False) (fun w' => Gr w7 w') (.take 0 (.take 1 (.take 2 (.take 3 (.take 4 (.take 5 (.take 6 (.take 7 (.take 8 (.take 9 (.take 10 (.take 11 (.run 12 true .nil))))))))))))) (fun _ _ _ _ h => h.elim) (Gr.drew _) (by kernel_rfl) (by kernel_rfl) ?_
      simp only [pickOps, nthOp]
      intro wq2 hG hSq
      clear hSq
      repeat (first | (refine wpP_skip_take ?_ ?_; (focus rfl); try simp only [Act.put, List.setIfInBounds_toArray, List.set_cons_zero, List.set_cons_succ]) | (refine wpP_skip_run ?_ ?_; (focus rfl); try simp only [Act.put, List.setIfInBounds_toArray, List.set_cons_zero, List.set_cons_succ]) | (refine wpP_take ?_ ?_; (focus rfl); apply Exists.intro; refine ⟨fun w' hw' => ?_, ?_⟩; (focus (have hc := Gr.cells hw'; go_simp; (try rfl); done)); try simp only [Act.put, List.setIfInBounds_toArray, List.set_cons_zero, List.set_cons_succ]))
      refine wpP_last ?_ (fun K hK => ?_); (focus rfl)
      go_simp
      go_at_call 66
      refine (HC.out wq2 hG).mono ?_; rintro e' w5 ⟨rfl, hf5, hk5⟩
      (try dsimp only)
      refine hK.out _ _ ?_
      try simp only [Act.put, List.setIfInBounds_toArray, List.set_cons_zero, List.set_cons_succ]
      clear hK K
      refine wpP_done ?_
      have HF5 := Lib.hid hf5
      have HK5 := Lib.hid (HKB.out _ _ _ HK1.out hG hk5)
      clear c_s0 c_s1 c_s2 m_s0 m_s1 m_s2 l_s
      clear hf5 hk5 hG k0 k1 hbr xs HC
      go_wp2_with fail
      go_roundw
      case rel => exact ⟨k + 1, HKN.out, by go_num, by rw [HST.out]; exact HF5, HK5⟩
      case measure => have := HKN.out; simp [intOf]; omega
     |
      false =>
      go_wp2_with fail
      clear c_s0 c_s1 c_s2 m_s0 m_s1 m_s2 l_s
      clear k0 k1 hbr xs
      go_roundw
      case rel => exact ⟨k + 1, HKN.out, by go_num, by rw [HST.out]; exact HFO1, HK1⟩
      case measure => have := HKN.out; simp [intOf]; omega
    ·
     have hkI : ¬ (
            k
             :
              Int) < (n : Int) := by omega
     have HB2 := Lib.hid (show FoundIn wr fb ((dups [] (defN s)).foldl note1 B1) by
      have := HFO.out
      rw [List.take_of_length_le (by unfold defN; rw [List.length_map, HSD.out]; exact hkn)] at this
      exact this)
     obtain ⟨B2, hB2⟩ : ∃ b, (dups [] (defN s)).foldl note1 B1 = b := ⟨_, rfl⟩
     rw [hB2] at HB2
     have HB2E := Lib.hid hB2
     clear hk hkn HFO hB2
     go_wp2_with fail
     clear c_s0 c_s1 c_s2 m_s0 m_s1 m_s2 l_s
     clear xs
     go_loopw [7] (fun i wr => ∃ k : Nat, k ≤ n ∧ i = .int .i64 (k : Int) ∧ Hid (FoundIn wr fb (((s.defs.take k).flatMap fun d => lost (defsN s) (refsE d.ex)).foldl note1 B2)) ∧ Hid (KpR [fb] W wr)) (fun i _ => n - (intOf i).toNat)
     case atStart => exact ⟨0, Nat.zero_le _, rfl, HB2, HK⟩
     case round =>
      clear HB2 HK
      obtain ⟨k, hk, rfl, HFO, HK⟩ := hrel
      have xs := XS.out wr HK.out
      obtain ⟨c_s0, c_s1, c_s2, m_s0, m_s1, m_s2, l_s⟩ := unb3 xs
      rcases Nat.lt_or_ge k n with hkn | hkn
      ·
       have hkI : (k : Int) < (n : Int) := by omega
       have HKN := Lib.hid hkn
       obtain ⟨⟨d, cs⟩, hx⟩ : ∃ x, dl[k]? = some x := ⟨_, List.getElem?_eq_getElem (by rw [HND.out]; exact hkn)⟩
       obtain ⟨b2, off, hpm, hbl, hc⟩ := elem_at HD.out (fun x hx => (HDI.out x hx).len) HND.out hx
       have hok := HDI.out _ (List.mem_of_getElem? hx)
       have hsd : s.defs[k]? = some d := by rw [← HHD.out, List.getElem?_map, hx]; rfl
       dsimp only at hok hc
       cases hok with
       | mk ec hee hnn hpp =>
       obtain ⟨op, ps, s1, tx, mn, mx, p1, n1, c1, rfl⟩ := hee.formN
       subst hpm
       have hg := HGR.out wr HK.out
       have k2 : wr.cell? ⟨b2, off + k * 12 + 2, none⟩ = some (.int .i64 op) := hg.cell (hc 2 _ rfl)
       have k3 : wr.cell? ⟨b2, off + k * 12 + 3, none⟩ = some (.int .i64 ps) := hg.cell (hc 3 _ rfl)
       have k4 : wr.cell? ⟨b2, off + k * 12 + 4, none⟩ = some (.int .u64 (wd s1 0)) := hg.cell (hc 4 _ rfl)
       have k5 : wr.cell? ⟨b2, off + k * 12 + 5, none⟩ = some (.int .u64 (wd s1 1)) := hg.cell (hc 5 _ rfl)
       have k6 : wr.cell? ⟨b2, off + k * 12 + 6, none⟩ = some (.int .u64 (wd s1 2)) := hg.cell (hc 6 _ rfl)
       have k7 : wr.cell? ⟨b2, off + k * 12 + 7, none⟩ = some (.int .u64 (wd s1 3)) := hg.cell (hc 7 _ rfl)
       have k8 : wr.cell? ⟨b2, off + k * 12 + 8, none⟩ = some (.string tx) := hg.cell (hc 8 _ rfl)
       have k9 : wr.cell? ⟨b2, off + k * 12 + 9, none⟩ = some (.int .i64 mn) := hg.cell (hc 9 _ rfl)
       have k10 : wr.cell? ⟨b2, off + k * 12 + 10, none⟩ = some (.int .i64 mx) := hg.cell (hc 10 _ rfl)
       have k11 : wr.cell? ⟨b2, off + k * 12 + 11, none⟩ = some (.slice p1 n1 c1) := hg.cell (hc 11 _ rfl)
       have hbr := Nat.lt_of_lt_of_le hbl hg.size
       have HST := Lib.hid (flat_step hsd (fun d => lost (defsN s) (refsE d.ex)) B2)
       have HC := Lib.hid (HRE.out d.ex _ _ wr hee hg HFO.out)
       try dsimp only at HST
       rw [← HST.out] at HC
       unfold exCells at HC
       try dsimp only at HC
       clear hx hk hkn hc hee hnn hpp hsd hbl hg
       go_wp2_with fail
       refine wp_region_T (fun _ _ => False) (fun w' => Gr wr w') (.take 0 (.take 1 (.take 2 (.take 3 (.take 4 (.take 5 (.take 6 (.run 7 true .nil)))))))) (fun _ _ _ _ h => h.elim) (Gr.drew _) (by kernel_rfl) (by kernel_rfl) ?_
       simp only [pickOps, nthOp]
       intro wq hG hSq
       clear hSq
       repeat (first | (refine wpP_skip_take ?_ ?_; (focus rfl); try simp only [Act.put, List.setIfInBounds_toArray, List.set_cons_zero, List.set_cons_succ]) | (refine wpP_skip_run ?_ ?_; (focus rfl); try simp only [Act.put, List.setIfInBounds_toArray, List.set_cons_zero, List.set_cons_succ]) | (refine wpP_take ?_ ?_; (focus rfl); apply Exists.intro; refine ⟨fun w' hw' => ?_, ?_⟩; (focus (have hc := Gr.cells hw'; go_simp; (try rfl); done)); try simp only [Act.put, List.setIfInBounds_toArray, List.set_cons_zero, List.set_cons_succ]))
       refine wpP_last ?_ (fun K hK => ?_); (focus rfl)
       go_simp
       go_at_call 68
       refine (HC.out wq hG).mono ?_; rintro e' w5 ⟨rfl, hf5, hk5⟩
       (try dsimp only)
       refine hK.out _ _ ?_
       try simp only [Act.put, List.setIfInBounds_toArray, List.set_cons_zero, List.set_cons_succ]
       clear hK K
       refine wpP_done ?_
       have HF5 := Lib.hid hf5
       have HK5 := Lib.hid (HKB.out _ _ _ HK.out hG hk5)
       clear c_s0 c_s1 c_s2 m_s0 m_s1 m_s2 l_s
       clear hf5 hk5 hG k2 k3 k4 k5 k6 k7 k8 k9 k10 k11 hbr xs HC
       go_wp2_with fail
       go_roundw
       case rel => exact ⟨k + 1, HKN.out, by go_num, HF5, HK5⟩
       case measure => have := HKN.out; simp [intOf]; omega
      ·
       have hkI : ¬ (
              k
               :
                Int) < (n : Int) := by omega
       have HB3 := Lib.hid (show FoundIn wr fb ((s.defs.flatMap fun d => lost (defsN s) (refsE d.ex)).foldl note1 B2) by
        have := HFO.out
        rw [List.take_of_length_le (by rw [HSD.out]; exact hkn)] at this
        exact this)
       obtain ⟨B3, hB3⟩ : ∃ b, (s.defs.flatMap fun d => lost (defsN s) (refsE d.ex)).foldl note1 B2 = b := ⟨_, rfl⟩
       rw [hB3] at HB3
       have HB3E := Lib.hid hB3
       clear hk hkn HFO hB3
       go_wp2_with fail
       clear c_s0 c_s1 c_s2 m_s0 m_s1 m_s2 l_s
       clear xs
       go_loopw [8] (fun i wr => ∃ k : Nat, k ≤ nr ∧ i = .int .i64 (k : Int) ∧ Hid (FoundIn wr fb (((s.rules.take k).flatMap fun r => (trailsR r).flatMap fun e => lost (defsN s) (refsE e)).foldl note1 B3)) ∧ Hid (KpR [fb] W wr)) (fun i _ => nr - (intOf i).toNat)
       case atStart => exact ⟨0, Nat.zero_le _, rfl, HB3, HK⟩
       case round =>
        clear HB3 HK
        obtain ⟨k, hk, rfl, HFO, HK⟩ := hrel
        have xs := XS.out wr HK.out
        obtain ⟨c_s0, c_s1, c_s2, m_s0, m_s1, m_s2, l_s⟩ := unb3 xs
        rcases Nat.lt_or_ge k nr with hkn | hkn
        ·
         have hkI : (k : Int) < (nr : Int) := by omega
         have HKN := Lib.hid hkn
         obtain ⟨⟨r, cs⟩, hx⟩ : ∃ x, rl[k]? = some x := ⟨_, List.getElem?_eq_getElem (by rw [HNR.out]; exact hkn)⟩
         obtain ⟨b2, off, hpm, hbl, hc⟩ := elem_at HR.out (fun x hx => (HRI.out x hx).len) HNR.out hx
         have hok := HRI.out _ (List.mem_of_getElem? hx)
         have hsd : s.rules[k]? = some r := by rw [← HHR.out, List.getElem?_map, hx]; rfl
         dsimp only at hok hc
         obtain ⟨po, al, pum, num, cum, op, ps, s1, tx, mn, mx, p1, n1, c1, ht, op2, ps2, s2, tx2, mn2, mx2, p2, n2, c2, lb, pua, nua, cua, hcs, hhd, htl⟩ := hok.formY
         subst hcs
         subst hpm
         have HCC := Lib.hid hc
         have HBL := Lib.hid hbl
         have HST := Lib.hid (show ((s.rules.take (k + 1)).flatMap fun r => (trailsR r).flatMap fun e => lost (defsN s) (refsE e)).foldl note1 B3 = (lost (defsN s) (refsE r.trail)).foldl note1 ((lost (defsN s) (refsE r.head)).foldl note1 (((s.rules.take k).flatMap fun r => (trailsR r).flatMap fun e => lost (defsN s) (refsE e)).foldl note1 B3)) by
          rw [flat_step hsd, noTrail (HNT.out r (List.mem_of_getElem? hsd)), List.foldl_append])
         have HHD2 := Lib.hid hhd
         have HTL2 := Lib.hid htl
         obtain ⟨b0, hb0⟩ : ∃ b, ((s.rules.take k).flatMap fun r => (trailsR r).flatMap fun e => lost (defsN s) (refsE e)).foldl note1 B3 = b := ⟨_, rfl⟩
         rw [hb0] at HFO HST
         have hg := HGR.out wr HK.out
         have k3 : wr.cell? ⟨b2, off + k * 26 + 3, none⟩ = some (.int .i64 op) := hg.cell (HCC.out 3 _ rfl)
         have k4 : wr.cell? ⟨b2, off + k * 26 + 4, none⟩ = some (.int .i64 ps) := hg.cell (HCC.out 4 _ rfl)
         have k5 : wr.cell? ⟨b2, off + k * 26 + 5, none⟩ = some (.int .u64 (wd s1 0)) := hg.cell (HCC.out 5 _ rfl)
         have k6 : wr.cell? ⟨b2, off + k * 26 + 6, none⟩ = some (.int .u64 (wd s1 1)) := hg.cell (HCC.out 6 _ rfl)
         have k7 : wr.cell? ⟨b2, off + k * 26 + 7, none⟩ = some (.int .u64 (wd s1 2)) := hg.cell (HCC.out 7 _ rfl)
         have k8 : wr.cell? ⟨b2, off + k * 26 + 8, none⟩ = some (.int .u64 (wd s1 3)) := hg.cell (HCC.out 8 _ rfl)
         have k9 : wr.cell? ⟨b2, off + k * 26 + 9, none⟩ = some (.string tx) := hg.cell (HCC.out 9 _ rfl)
         have k10 : wr.cell? ⟨b2, off + k * 26 + 10, none⟩ = some (.int .i64 mn) := hg.cell (HCC.out 10 _ rfl)
         have k11 : wr.cell? ⟨b2, off + k * 26 + 11, none⟩ = some (.int .i64 mx) := hg.cell (HCC.out 11 _ rfl)
         have k12 : wr.cell? ⟨b2, off + k * 26 + 12, none⟩ = some (.slice p1 n1 c1) := hg.cell (HCC.out 12 _ rfl)
         have hbr := Nat.lt_of_lt_of_le hbl hg.size
         have HC := Lib.hid (HRE.out r.head _ _ wr hhd hg HFO.out)
         unfold exCells at HC
         try dsimp only at HC
         clear hx hk hkn hc hhd htl hsd hbl hg hok hb0
         go_wp2_with fail
         refine wp_region_T (fun _ _ => False) (fun w' => Gr wr w') (.take 0 (.take 1 (.take 2 (.take 3 (.take 4 (.take 5 (.take 6 (.run 7 true .nil)))))))) (fun _ _ _ _ h => h.elim) (Gr.drew _) (by kernel_rfl) (by kernel_rfl) ?_
         simp only [pickOps, nthOp]
         intro wq hG hSq
         clear hSq
         repeat (first | (refine wpP_skip_take ?_ ?_; (focus rfl); try simp only [Act.put, List.setIfInBounds_toArray, List.set_cons_zero, List.set_cons_succ]) | (refine wpP_skip_run ?_ ?_; (focus rfl); try simp only [Act.put, List.setIfInBounds_toArray, List.set_cons_zero, List.set_cons_succ]) | (refine wpP_take ?_ ?_; (focus rfl); apply Exists.intro; refine ⟨fun w' hw' => ?_, ?_⟩; (focus (have hc := Gr.cells hw'; go_simp; (try rfl); done)); try simp only [Act.put, List.setIfInBounds_toArray, List.set_cons_zero, List.set_cons_succ]))
         refine wpP_last ?_ (fun K hK => ?_); (focus rfl)
         go_simp
         go_at_call 68
         refine (HC.out wq hG).mono ?_; rintro e' w5 ⟨rfl, hf5, hk5⟩
         (try dsimp only)
         refine hK.out _ _ ?_
         try simp only [Act.put, List.setIfInBounds_toArray, List.set_cons_zero, List.set_cons_succ]
         clear hK K
         refine wpP_done ?_
         have HF5 := Lib.hid hf5
         have HK5 := Lib.hid (HKB.out _ _ _ HK.out hG hk5)
         clear c_s0 c_s1 c_s2 m_s0 m_s1 m_s2 l_s
         clear hf5 hk5 hG k3 k4 k5 k6 k7 k8 k9 k10 k11 k12 hbr xs HC
         have hg := HGR.out w5 HK5.out
         have k14 : w5.cell? ⟨b2, off + k * 26 + 14, none⟩ = some (.int .i64 op2) := hg.cell (HCC.out 14 _ rfl)
         have k15 : w5.cell? ⟨b2, off + k * 26 + 15, none⟩ = some (.int .i64 ps2) := hg.cell (HCC.out 15 _ rfl)
         have k16 : w5.cell? ⟨b2, off + k * 26 + 16, none⟩ = some (.int .u64 (wd s2 0)) := hg.cell (HCC.out 16 _ rfl)
         have k17 : w5.cell? ⟨b2, off + k * 26 + 17, none⟩ = some (.int .u64 (wd s2 1)) := hg.cell (HCC.out 17 _ rfl)
         have k18 : w5.cell? ⟨b2, off + k * 26 + 18, none⟩ = some (.int .u64 (wd s2 2)) := hg.cell (HCC.out 18 _ rfl)
         have k19 : w5.cell? ⟨b2, off + k * 26 + 19, none⟩ = some (.int .u64 (wd s2 3)) := hg.cell (HCC.out 19 _ rfl)
         have k20 : w5.cell? ⟨b2, off + k * 26 + 20, none⟩ = some (.string tx2) := hg.cell (HCC.out 20 _ rfl)
         have k21 : w5.cell? ⟨b2, off + k * 26 + 21, none⟩ = some (.int .i64 mn2) := hg.cell (HCC.out 21 _ rfl)
         have k22 : w5.cell? ⟨b2, off + k * 26 + 22, none⟩ = some (.int .i64 mx2) := hg.cell (HCC.out 22 _ rfl)
         have k23 : w5.cell? ⟨b2, off + k * 26 + 23, none⟩ = some (.slice p2 n2 c2) := hg.cell (HCC.out 23 _ rfl)
         have hbr := Nat.lt_of_lt_of_le HBL.out hg.size
         have HC := Lib.hid (HRE.out r.trail _ _ w5 HTL2.out hg HF5.out)
         unfold exCells at HC
         try dsimp only at HC
         rw [← HST.out] at HC
         have xs := XS.out w5 HK5.out
         obtain ⟨c_s0, c_s1, c_s2, m_s0, m_s1, m_s2, l_s⟩ := unb3 xs
         clear hg
         go_wp2_with fail
         refine wp_region_T (fun _ _ => False) (fun w' => Gr w5 w') (.take 0 (.take 1 (.take 2 (.take 3 (.take 4 (.take 5 (.take 6 (.run 7 true .nil)))))))) (fun _ _ _ _ h => h.elim) (Gr.drew _) (by kernel_rfl) (by kernel_rfl) ?_
         simp only [pickOps, nthOp]
         intro wq2 hG hSq
         clear hSq
         repeat (first | (refine wpP_skip_take ?_ ?_; (focus rfl); try simp only [Act.put, List.setIfInBounds_toArray, List.set_cons_zero, List.set_cons_succ]) | (refine wpP_skip_run ?_ ?_; (focus rfl); try simp only [Act.put, List.setIfInBounds_toArray, List.set_cons_zero, List.set_cons_succ]) | (refine wpP_take ?_ ?_; (focus rfl); apply Exists.intro; refine ⟨fun w' hw' => ?_, ?_⟩; (focus (have hc := Gr.cells hw'; go_simp; (try rfl); done)); try simp only [Act.put, List.setIfInBounds_toArray, List.set_cons_zero, List.set_cons_succ]))
         refine wpP_last ?_ (fun K hK => ?_); (focus rfl)
         go_simp
         go_at_call 68
         refine (HC.out wq2 hG).mono ?_; rintro e' w6 ⟨rfl, hf5, hk5⟩
         (try dsimp only)
         refine hK.out _ _ ?_
         try simp only [Act.put, List.setIfInBounds_toArray, List.set_cons_zero, List.set_cons_succ]
         clear hK K
         refine wpP_done ?_
         have HF6 := Lib.hid hf5
         have HK6 := Lib.hid (HKB.out _ _ _ HK5.out hG hk5)
         clear c_s0 c_s1 c_s2 m_s0 m_s1 m_s2 l_s
         clear hf5 hk5 hG k14 k15 k16 k17 k18 k19 k20 k21 k22 k23 hbr xs HC
         go_wp2_with fail
         go_roundw
         case rel => exact ⟨k + 1, HKN.out, by go_num, HF6, HK6⟩
         case measure => have := HKN.out; simp [intOf]; omega
        ·
         have hkI : ¬ (
                k
                 : Int) < (nr : Int) := by omega
         have HB4 := Lib.hid (show FoundIn wr fb ((s.rules.flatMap fun r => (trailsR r).flatMap fun e => lost (defsN s) (refsE e)).foldl note1 B3) by
          have := HFO.out
          rw [List.take_of_length_le (by rw [HSR.out]; exact hkn)] at this
          exact this)
         obtain ⟨B4, hB4⟩ : ∃ b, (s.rules.flatMap fun r => (trailsR r).flatMap fun e => lost (defsN s) (refsE e)).foldl note1 B3 = b := ⟨_, rfl⟩
         rw [hB4] at HB4
         have HB4E := Lib.hid hB4
         have HMC := Lib.hid (HMD.out wr (HGR.out wr HK.out))
         clear hk hkn HFO hB4
         go_wp2_with fail
         go_at_call 37
         (with_reducible refine HMC.out.mono ?_); rintro e w2 ⟨lv, rfl, hlv, hg2⟩
         obtain ⟨pl, cl, rfl⟩ := (Sl.of_owns hlv).len
         have HK2 := Lib.hid (HKA.out _ _ HK.out hg2)
         have HB5 := Lib.hid (HB4.out.later hg2)
         have HLV := Lib.hid (fun W2 (hk : KpR [fb] w2 W2) => (show Sl W2 (.slice pl (modesN s).length cl) 1 (modesN s).length ((modesN s).map .string) from Sl.of_owns (own_kp6 hlv hk (Nat.lt_of_lt_of_le HFL.out HK.out.size))))
         have HIX := Lib.hid (fun W2 (hk : KpR [fb] w2 W2) W3 (hG : Gr W2 W3) x => index6_any (modesN s) _ _ rfl x W3 ((HLV.out W2 hk).later hG))
         obtain ⟨ln, hln⟩ : ∃ n, (modesN s).length = n := ⟨_, rfl⟩
         rw [hln] at HIX ⊢
         have HKW := Lib.hid (fun W2 (hk : KpR [fb] w2 W2) => (show KpR [fb] W W2 from HK2.out.trans hk (fun x hx => .inl hx)))
         have HFL2 := Lib.hid (Nat.lt_of_lt_of_le HFL.out HK2.out.size)
         have HK3 := Lib.hid (KpR.refl [fb] w2)
         clear c_s0 c_s1 c_s2 m_s0 m_s1 m_s2 l_s
         clear xs hlv hg2 HK HB4 HMC HLV hln
         go_wp2_with fail
         go_loopw [10] (fun i wr => ∃ k : Nat, k ≤ nr ∧ i = .int .i64 (k : Int) ∧ Hid (FoundIn wr fb (((s.rules.take k).flatMap fun r => lost (modesN s) (useR r)).foldl note1 B4)) ∧ Hid (KpR [fb] w2 wr)) (fun i _ => nr - (intOf i).toNat)
         case atStart => exact ⟨0, Nat.zero_le _, rfl, HB5, HK3⟩
         case round =>
          clear HB5 HK3
          obtain ⟨k, hk, rfl, HFO, HK⟩ := hrel
          have xs := XS.out wr (HKW.out wr HK.out)
          obtain ⟨c_s0, c_s1, c_s2, m_s0, m_s1, m_s2, l_s⟩ := unb3 xs
          rcases Nat.lt_or_ge k nr with hkn | hkn
          ·
           have hkI : (
                 k : Int) < (nr : Int) := by omega
           have HKN := Lib.hid hkn
           obtain ⟨⟨r, cs⟩, hx⟩ : ∃ x, rl[k]? = some x := ⟨_, List.getElem?_eq_getElem (by rw [HNR.out]; exact hkn)⟩
           obtain ⟨b2, off, hpm, hbl, hc⟩ := elem_at HR.out (fun x hx => (HRI.out x hx).len) HNR.out hx
           have hok := HRI.out _ (List.mem_of_getElem? hx)
           have hsd : s.rules[k]? = some r := by rw [← HHR.out, List.getElem?_map, hx]; rfl
           dsimp only at hok hc
           obtain ⟨po, al, pum, num, cum, op, ps, s1, tx, mn, mx, p1, n1, c1, ht, op2, ps2, s2, tx2, mn2, mx2, p2, n2, c2, lb, pua, nua, cua, hcs, hmm, hma, hsm, hsa, hmo, hao, hmb, hab⟩ := hok.formX
           subst hcs
           subst hpm
           have hg := HGR.out wr (HKW.out wr HK.out)
           have HCELL := Lib.hid (fun t u (h : ([.int .i64 po, .bool al, .slice pum num cum, .int .i64 op, .int .i64 ps, .int .u64 (wd s1 0), .int .u64 (wd s1 1), .int .u64 (wd s1 2), .int .u64 (wd s1 3), .string tx, .int .i64 mn, .int .i64 mx, .slice p1 n1 c1, .bool ht, .int .i64 op2, .int .i64 ps2, .int .u64 (wd s2 0), .int .u64 (wd s2 1), .int .u64 (wd s2 2), .int .u64 (wd s2 3), .string tx2, .int .i64 mn2, .int .i64 mx2, .slice p2 n2 c2, .string lb, .slice pua nua cua] : List Value)[t]? = some u) => hg.cell (hc t u h))
           have hbr := Nat.lt_of_lt_of_le hbl hg.size
           have HST := Lib.hid (show ((s.rules.take (k + 1)).flatMap fun r => lost (modesN s) (useR r)).foldl note1 B4 = (lost (modesN s) ((r.acts.filter fun a => decide (a.doo ≠ 3)).map fun a => usN a.mode)).foldl note1 ((lost (modesN s) (r.modes.map usN)).foldl note1 (((s.rules.take k).flatMap fun r => lost (modesN s) (useR r)).foldl note1 B4)) by
            rw [flat_step hsd, show lost (modesN s) (useR r) = _ from by unfold useR; rw [lost_append], List.foldl_append])
           have HSM := Lib.hid hsm
           have HSA := Lib.hid hsa
           have HMM := Lib.hid hmm
           have HMA := Lib.hid hma
           have hmmI : (num : Int) ≤ 5864062014805 := by omega
           have hmaI : (nua : Int) ≤ 4398046511104 := by omega
           obtain ⟨b0, hb0⟩ : ∃ b, ((s.rules.take k).flatMap fun r => lost (modesN s) (useR r)).foldl note1 B4 = b := ⟨_, rfl⟩
           rw [hb0] at HFO HST
           clear hx hk hkn hc hbl hg hmm hma hsm hsa hmo hao hmb hab hsd hb0 hok
           go_upto_block 12 with (first | ((with_reducible refine wpList_plain ?_ (fun _ hK => ?_)); (focus rfl); refine wp_load_at 71 (.tmp 132) rfl b2 (off + k * 26) rfl [.int .i64 po, .bool al, .slice pum num cum, .int .i64 op, .int .i64 ps, .int .u64 (wd s1 0), .int .u64 (wd s1 1), .int .u64 (wd s1 2), .int .u64 (wd s1 3), .string tx, .int .i64 mn, .int .i64 mx, .slice p1 n1 c1, .bool ht, .int .i64 op2, .int .i64 ps2, .int .u64 (wd s2 0), .int .u64 (wd s2 1), .int .u64 (wd s2 2), .int .u64 (wd s2 3), .string tx2, .int .i64 mn2, .int .i64 mx2, .slice p2 n2 c2, .string lb, .slice pua nua cua] _ HCELL.out Tryz.underlying71 rfl (by kernel_rfl) (hK _ _ ?_)) | ((with_reducible refine wpList_plain ?_ (fun _ hK => ?_)); (focus rfl); refine wp_store_row 71 (.tmp 11) (.tmp 133) rfl wr.heap.size #[.int .i64 po, .bool al, .slice pum num cum, .int .i64 op, .int .i64 ps, .int .u64 (wd s1 0), .int .u64 (wd s1 1), .int .u64 (wd s1 2), .int .u64 (wd s1 3), .string tx, .int .i64 mn, .int .i64 mx, .slice p1 n1 c1, .bool ht, .int .i64 op2, .int .i64 ps2, .int .u64 (wd s2 0), .int .u64 (wd s2 1), .int .u64 (wd s2 2), .int .u64 (wd s2 3), .string tx2, .int .i64 mn2, .int .i64 mx2, .slice p2 n2 c2, .string lb, .slice pua nua cua] rfl rfl 71 _ (heap_alloc_new wr _) (by kernel_rfl) rfl (all_ones _ rfl) (hK _ _ ?_); clear hK; refine name_wpList (fun xc_w hxc => ?_); obtain ⟨xc, xc_g, xc_s⟩ := new_row (cs := [.int .i64 po, .bool al, .slice pum num cum, .int .i64 op, .int .i64 ps, .int .u64 (wd s1 0), .int .u64 (wd s1 1), .int .u64 (wd s1 2), .int .u64 (wd s1 3), .string tx, .int .i64 mn, .int .i64 mx, .slice p1 n1 c1, .bool ht, .int .i64 op2, .int .i64 ps2, .int .u64 (wd s2 0), .int .u64 (wd s2 1), .int .u64 (wd s2 2), .int .u64 (wd s2 3), .string tx2, .int .i64 mn2, .int .i64 mx2, .slice p2 n2 c2, .string lb, .slice pua nua cua]) hxc; clear hxc; have xc_h := boxAt.row xc))
           clear c_s0 c_s1 c_s2 m_s0 m_s1 m_s2 l_s
           have HRB := Lib.hid (show wr.heap.size ≠ fb by have h1 := HFL2.out; have h2 := HK.out.size; omega)
           obtain ⟨rb, hrb⟩ : ∃ b, wr.heap.size = b := ⟨_, rfl⟩
           simp only [hrb] at xc HRB
           simp only [hrb]
           have XC := Lib.hid (fun W3 (hk : KpR [fb] xc_w W3) => hk.box xc (fun hm => HRB.out (List.mem_singleton.1 hm)) (by simp))
           have HKC := Lib.hid (HK.out.trans (KpR.gr (R := [fb]) xc_g) (fun x hx => .inl hx))
           have HKX := Lib.hid (fun W2 (hk : KpR [fb] xc_w W2) => (show KpR [fb] w2 W2 from HKC.out.trans hk (fun x hx => .inl hx)))
           have HFC := Lib.hid (HFO.out.later xc_g)
           have HK9 := Lib.hid (KpR.refl [fb] xc_w)
           clear xs xc_h xc_s xc_g xc hbr HFO HK hrb
           go_wp2_with fail
           go_loopw [12] (fun i wz => ∃ j : Nat, j ≤ num ∧ i = .int .i64 (j : Int) ∧ Hid (FoundIn wz fb ((lost (modesN s) ((r.modes.take j).map usN)).foldl note1 b0)) ∧ Hid (KpR [fb] xc_w wz)) (fun i _ => num - (intOf i).toNat)
           case atStart => exact ⟨0, Nat.zero_le _, rfl, HFC, HK9⟩
           case round =>
            clear HFC HK9
            obtain ⟨j, hj, rfl, HFO, HK⟩ := hrel
            have xc := XC.out wr HK.out
            have y2 := xc.cell 2 _ rfl
            have y25 := xc.cell 25 _ rfl
            have yl := xc.lt (Nat.succ_pos _)
            rcases Nat.lt_or_ge j num with hjn | hjn
            ·
             have hjI : (j : Int) < (num : Int) := by omega
             have HJN := Lib.hid hjn
             obtain ⟨u, hx⟩ : ∃ x, r.modes[j]? = some x := ⟨_, List.getElem?_eq_getElem (by rw [HMM.out]; exact hjn)⟩
             obtain ⟨b3, off3, hpm, hbl, hc⟩ := use_at (show Sl w (.slice pum r.modes.length cum) 2 r.modes.length (r.modes.flatMap usC) from HSM.out) hx
             subst hpm
             have hg := HGR.out wr (HKW.out wr (HKX.out wr HK.out))
             have k0 : wr.cell? ⟨b3, off3 + j * 2, none⟩ = some (.string u.name) := hg.cell (hc 0 _ rfl)
             have k1 : wr.cell? ⟨b3, off3 + j * 2 + 1, none⟩ = some (.int .i64 u.pos) := hg.cell (hc 1 _ rfl)
             have hbr := Nat.lt_of_lt_of_le hbl hg.size
             have HXI := Lib.hid (HIX.out wr (HKX.out wr HK.out) wr (Gr.refl _) u.name)
             have HTK := Lib.hid (show (lost (modesN s) ((r.modes.take (j + 1)).map usN)).foldl note1 b0 = (if memN (modesN s) u.name = true then [] else [usN u]).foldl note1 ((lost (modesN s) ((r.modes.take j).map usN)).foldl note1 b0) by
              rw [take_snoc hx, List.map_append, lost_append, List.foldl_append, List.map_cons, List.map_nil, lost_one]; rfl)
             obtain ⟨un, hun⟩ : ∃ y, u.name = y := ⟨_, rfl⟩
             obtain ⟨up, hup⟩ : ∃ y, u.pos = y := ⟨_, rfl⟩
             have HUU := Lib.hid (show usN u = (un, up) by unfold usN; rw [hun, hup])
             rw [hun] at k0 HXI HTK
             rw [hup] at k1
             rw [HUU.out] at HTK
             obtain ⟨b9, hb9⟩ : ∃ b, (lost (modesN s) ((r.modes.take j).map usN)).foldl note1 b0 = b := ⟨_, rfl⟩
             rw [hb9] at HFO HTK
             clear hj hjn hx hc hbl hun hup hb9 hg
             cases hq : memN (modesN s) un with
             |
              true =>
              rw [hq, if_pos rfl] at HTK
              have HAI := Lib.hid (atI_some hq)
              obtain ⟨c, hcc⟩ : ∃ c, noOf (modesN s) un = c := ⟨_, rfl⟩
              rw [hcc] at HAI
              rw [HAI.out] at HXI
              have hc0 : ¬ (c : Int) < 0 := by omega
              clear hq hcc
              go_wp2_with fail
              go_at_call 40
              (with_reducible refine HXI.out.mono ?_); rintro e w3 ⟨rfl, hw3⟩; subst w3
              go_wp2_with fail
              clear xc y2 y25 yl k0 k1 hbr hc0
              go_roundw
              case rel => exact ⟨j + 1, HJN.out, by go_num, by rw [HTK.out]; exact HFO, HK⟩
              case measure => have := HJN.out; simp [intOf]; omega
             |
              false =>
              rw [hq, if_neg (by simp)] at HTK
              rw [atI_none hq] at HXI
              have HC := Lib.hid (HAT.out _ (un, up) wr HFO.out)
              try dsimp only at HC
              clear hq
              go_wp2_with fail
              go_at_call 40
              (with_reducible refine HXI.out.mono ?_); rintro e w3 ⟨rfl, hw3⟩; subst w3
              go_wp2_with fail
              refine wp_region_T (fun _ _ => False) (fun w' => Gr wr w') (.take 0 (.take 1 (.take 2 (.take 3 (.take 4 (.take 5 (.take 6 (.take 7 (.take 8 (.take 9 (.take 10 (.take 11 (.run 12 true .nil))))))))))))) (fun _ _ _ _ h => h.elim) (Gr.drew _) (by kernel_rfl) (by kernel_rfl) ?_
              simp only [pickOps, nthOp]
              intro wq hG hSq
              clear hSq
              repeat (first | (refine wpP_skip_take ?_ ?_; (focus rfl); try simp only [Act.put, List.setIfInBounds_toArray, List.set_cons_zero, List.set_cons_succ]) | (refine wpP_skip_run ?_ ?_; (focus rfl); try simp only [Act.put, List.setIfInBounds_toArray, List.set_cons_zero, List.set_cons_succ]) | (refine wpP_take ?_ ?_; (focus rfl); apply Exists.intro; refine ⟨fun w' hw' => ?_, ?_⟩; (focus (have hc := Gr.cells hw'; go_simp; (try rfl); done)); try simp only [Act.put, List.setIfInBounds_toArray, List.set_cons_zero, List.set_cons_succ]))
              refine wpP_last ?_ (fun K hK => ?_); (focus rfl)
              go_simp
              go_at_call 66
              refine (HC.out wq hG).mono ?_; rintro e' w5 ⟨rfl, hf5, hk5⟩
              (try dsimp only)
              refine hK.out _ _ ?_
              try simp only [Act.put, List.setIfInBounds_toArray, List.set_cons_zero, List.set_cons_succ]
              clear hK K
              refine wpP_done ?_
              have HF5 := Lib.hid hf5
              have HK5 := Lib.hid ((HK.out.trans (KpR.gr (R := [fb]) hG) (fun x hx => .inl hx)).trans hk5 (fun x hx => .inl hx))
              clear hf5 hk5 hG k0 k1 hbr xc y2 y25 yl HC
              go_wp2_with fail
              go_roundw
              case rel => exact ⟨j + 1, HJN.out, by go_num, by rw [HTK.out]; exact HF5, HK5⟩
              case measure => have := HJN.out; simp [intOf]; omega
            ·
             have hjI : ¬ (j : Int) < (num : Int) := by omega
             have HFM := Lib.hid (show FoundIn wr fb ((lost (modesN s) (r.modes.map usN)).foldl note1 b0) by
              have := HFO.out
              rw [List.take_of_length_le (by rw [HMM.out]; exact hjn)] at this
              exact this)
             obtain ⟨b1, hb1⟩ : ∃ b, (lost (modesN s) (r.modes.map usN)).foldl note1 b0 = b := ⟨_, rfl⟩
             rw [hb1] at HFM HST
             clear hj hjn HFO hb1
             go_wp2_with fail
             clear xc y2 y25 yl
             go_loopw [13] (fun i wz => ∃ j : Nat, j ≤ nua ∧ i = .int .i64 (j : Int) ∧ Hid (FoundIn wz fb ((lost (modesN s) (((r.acts.take j).filter fun a => decide (a.doo ≠ 3)).map fun a => usN a.mode)).foldl note1 b1)) ∧ Hid (KpR [fb] xc_w wz)) (fun i _ => nua - (intOf i).toNat)
             case atStart => exact ⟨0, Nat.zero_le _, rfl, HFM, HK⟩
             case round =>
              clear HFM HK
              obtain ⟨j, hj, rfl, HFO, HK⟩ := hrel
              have xc := XC.out wr HK.out
              have y2 := xc.cell 2 _ rfl
              have y25 := xc.cell 25 _ rfl
              have yl := xc.lt (Nat.succ_pos _)
              rcases Nat.lt_or_ge j nua with hjn | hjn
              ·
               have hjI : (j : Int) < (nua : Int) := by omega
               have HJN := Lib.hid hjn
               obtain ⟨ac, hx⟩ : ∃ x, r.acts[j]? = some x := ⟨_, List.getElem?_eq_getElem (by rw [HMA.out]; exact hjn)⟩
               obtain ⟨b3, off3, hpm, hbl, hc⟩ := act_at (show Sl w (.slice pua r.acts.length cua) 3 r.acts.length (r.acts.flatMap acC) from HSA.out) hx
               subst hpm
               have hg := HGR.out wr (HKW.out wr (HKX.out wr HK.out))
               have k0 : wr.cell? ⟨b3, off3 + j * 3, none⟩ = some (.int .i64 ac.doo) := hg.cell (hc 0 _ rfl)
               have k1 : wr.cell? ⟨b3, off3 + j * 3 + 1, none⟩ = some (.string ac.mode.name) := hg.cell (hc 1 _ rfl)
               have k2 : wr.cell? ⟨b3, off3 + j * 3 + 2, none⟩ = some (.int .i64 ac.mode.pos) := hg.cell (hc 2 _ rfl)
               have hbr := Nat.lt_of_lt_of_le hbl hg.size
               have HXI := Lib.hid (HIX.out wr (HKX.out wr HK.out) wr (Gr.refl _) ac.mode.name)
               have HTK := Lib.hid (show (lost (modesN s) (((r.acts.take (j + 1)).filter fun a => decide (a.doo ≠ 3)).map fun a => usN a.mode)).foldl note1 b1 = (if ac.doo = 3 then [] else if memN (modesN s) ac.mode.name = true then [] else [usN ac.mode]).foldl note1 ((lost (modesN s) (((r.acts.take j).filter fun a => decide (a.doo ≠ 3)).map fun a => usN a.mode)).foldl note1 b1) by
                rw [take_snoc hx, List.filter_append, List.map_append, lost_append, List.foldl_append]
                by_cases h3 : ac.doo = 3
                · rw [if_pos h3, List.filter_cons, if_neg (by simpa using h3)]; rfl
                · rw [if_neg h3, List.filter_cons, if_pos (by simpa using h3), List.filter_nil, List.map_cons, List.map_nil, lost_one]; rfl)
               obtain ⟨un, hun⟩ : ∃ y, ac.mode.name = y := ⟨_, rfl⟩
               obtain ⟨up, hup⟩ : ∃ y, ac.mode.pos = y := ⟨_, rfl⟩
               obtain ⟨dn, hdn⟩ : ∃ y, ac.doo = y := ⟨_, rfl⟩
               have HUU := Lib.hid (show usN ac.mode = (un, up) by unfold usN; rw [hun, hup])
               rw [hun] at k1 HXI HTK
               rw [hup] at k2
               rw [hdn] at k0 HTK
               rw [HUU.out] at HTK
               obtain ⟨b9, hb9⟩ : ∃ b, (lost (modesN s) (((r.acts.take j).filter fun a => decide (a.doo ≠ 3)).map fun a => usN a.mode)).foldl note1 b1 = b := ⟨_, rfl⟩
               rw [hb9] at HFO HTK
               clear hj hjn hx hc hbl hun hup hdn hb9 hg
               by_cases h3 : dn = 3
               ·
                rw [if_pos h3] at HTK
                have h3b : (dn != 3) = false := by rw [h3]; rfl
                clear h3
                go_wp2_with fail
                clear xc y2 y25 yl k0 k1 k2 hbr
                go_roundw
                case rel => exact ⟨j + 1, HJN.out, by go_num, by rw [HTK.out]; exact HFO, HK⟩
                case measure => have := HJN.out; simp [intOf]; omega
               ·
                rw [if_neg h3] at HTK
                have h3b : (dn != 3) = true := by rw [bne_iff_ne]; exact h3
                clear h3
                cases hq : memN (modesN s) un with
                |
                 true =>
                 rw [hq, if_pos rfl] at HTK
                 have HAI := Lib.hid (atI_some hq)
                 obtain ⟨c, hcc⟩ : ∃ c, noOf (modesN s) un = c := ⟨_, rfl⟩
                 rw [hcc] at HAI
                 rw [HAI.out] at HXI
                 have hc0 : ¬ (c : Int) < 0 := by omega
                 clear hq hcc
                 go_wp2_with fail
                 go_at_call 40
                 (with_reducible refine HXI.out.mono ?_); rintro e w3 ⟨rfl, hw3⟩; subst w3
                 go_wp2_with fail
                 clear xc y2 y25 yl k0 k1 k2 hbr hc0
                 go_roundw
                 case rel => exact ⟨j + 1, HJN.out, by go_num, by rw [HTK.out]; exact HFO, HK⟩
                 case measure => have := HJN.out; simp [intOf]; omega
                |
                 false =>
                 rw [hq, if_neg (by simp)] at HTK
                 rw [atI_none hq] at HXI
                 have HC := Lib.hid (HAT.out _ (un, up) wr HFO.out)
                 try dsimp only at HC
                 clear hq
                 go_wp2_with fail
                 go_at_call 40
                 (with_reducible refine HXI.out.mono ?_); rintro e w3 ⟨rfl, hw3⟩; subst w3
                 go_wp2_with fail
                 refine wp_region_T (fun _ _ => False) (fun w' => Gr wr w') (.take 0 (.take 1 (.take 2 (.take 3 (.take 4 (.take 5 (.take 6 (.take 7 (.take 8 (.take 9 (.take 10 (.take 11 (.take 12 (.take 13 (.run 14 true .nil))))))))))))))) (fun _ _ _ _ h => h.elim) (Gr.drew _) (by kernel_rfl) (by kernel_rfl) ?_
                 simp only [pickOps, nthOp]
                 intro wq hG hSq
                 clear hSq
                 repeat (first | (refine wpP_skip_take ?_ ?_; (focus rfl); try simp only [Act.put, List.setIfInBounds_toArray, List.set_cons_zero, List.set_cons_succ]) | (refine wpP_skip_run ?_ ?_; (focus rfl); try simp only [Act.put, List.setIfInBounds_toArray, List.set_cons_zero, List.set_cons_succ]) | (refine wpP_take ?_ ?_; (focus rfl); apply Exists.intro; refine ⟨fun w' hw' => ?_, ?_⟩; (focus (have hc := Gr.cells hw'; go_simp; (try rfl); done)); try simp only [Act.put, List.setIfInBounds_toArray, List.set_cons_zero, List.set_cons_succ]))
                 refine wpP_last ?_ (fun K hK => ?_); (focus rfl)
                 go_simp
                 go_at_call 66
                 refine (HC.out wq hG).mono ?_; rintro e' w5 ⟨rfl, hf5, hk5⟩
                 (try dsimp only)
                 refine hK.out _ _ ?_
                 try simp only [Act.put, List.setIfInBounds_toArray, List.set_cons_zero, List.set_cons_succ]
                 clear hK K
                 refine wpP_done ?_
                 have HF5 := Lib.hid hf5
                 have HK5 := Lib.hid ((HK.out.trans (KpR.gr (R := [fb]) hG) (fun x hx => .inl hx)).trans hk5 (fun x hx => .inl hx))
                 clear hf5 hk5 hG k0 k1 k2 hbr xc y2 y25 yl HC
                 go_wp2_with fail
                 go_roundw
                 case rel => exact ⟨j + 1, HJN.out, by go_num, by rw [HTK.out]; exact HF5, HK5⟩
                 case measure => have := HJN.out; simp [intOf]; omega
              ·
               have hjI : ¬ (j : Int) < (nua : Int) := by omega
               have HFA := Lib.hid (show FoundIn wr fb (((s.rules.take (k + 1)).flatMap fun r => lost (modesN s) (useR r)).foldl note1 B4) by
                have := HFO.out
                rw [List.take_of_length_le (by rw [HMA.out]; exact hjn)] at this
                rw [HST.out]
                exact this)
               have HKQ := Lib.hid (HKX.out wr HK.out)
               clear hj hjn HFO
               go_wp2_with fail
               clear xc y2 y25 yl
               go_roundw
               case rel => exact ⟨k + 1, HKN.out, by go_num, HFA, HKQ⟩
               case measure => have := HKN.out; simp [intOf]; omega
          ·
           have hkI : ¬ (k : Int) < (nr : Int) := by omega
           have HFE := Lib.hid (show FoundIn wr fb (worst (notes s)) by
            have := HFO.out
            rw [List.take_of_length_le (by rw [HSR.out]; exact hkn), ← HB4E.out, ← HB3E.out, ← HB2E.out, ← HB1E.out] at this
            unfold worst notes
            simp only [List.foldl_append]
            exact this)
           have HGE := Lib.hid (HGR.out wr (HKW.out wr HK.out))
           have xq := XR.out wr (HKW.out wr HK.out)
           clear hk hkn HFO
           rw [HBZ.out] at HFE
           clear HBZ
           cases BZ with
           |
            none =>
            have xf : boxAt wr fb [.int .i64 0, .int .i64 0, .int .i64 0, .int .i64 0, .slice none 0 0, .bool false] := HFE.out
            obtain ⟨c_f0, c_f1, c_f2, c_f3, c_f4, c_f5, m_f0, m_f1, m_f2, m_f3, m_f4, m_f5, l_f⟩ := unb6 xf
            obtain ⟨c_q0, c_q1, c_q2, c_q3, c_q4, c_q5, m_q0, m_q1, m_q2, m_q3, m_q4, m_q5, l_q⟩ := unb6 xq
            go_wp2_with fail
            refine name_body (fun W3 hW3 => ?_)
            have yb : boxAt W3 qb [.int .i64 0, .int .i64 0, .int .i64 0, .int .i64 0, .slice none 0 0, .bool false] := by subst hW3; exact (((((xq.put 0 _ (by simp)).put 1 _ (by simp)).put 2 _ (by simp)).put 3 _ (by simp)).put 4 _ (by simp)).put 5 _ (by simp)
            obtain ⟨c_y0, c_y1, c_y2, c_y3, c_y4, c_y5, m_y0, m_y1, m_y2, m_y3, m_y4, m_y5, l_y⟩ := unb6 yb
            refine bodyPost_ret (v := .agg #[.int .i64 0, .int .i64 0, .int .i64 0, .int .i64 0, .slice none 0 0, .bool false]) (by simp [results, Tryz.results35, go_sem, c_y0, c_y1, c_y2, c_y3, c_y4, c_y5]) rfl ?_
            exact ⟨_, rfl, rfl, by subst hW3; exact Below.setCell (Below.setCell (Below.setCell (Below.setCell (Below.setCell (Below.setCell HGE.out HQL.out _) HQL.out _) HQL.out _) HQL.out _) HQL.out _) HQL.out _⟩
           |
            some y =>
            obtain ⟨p, c, xf, hsl, g, rfl, _⟩ := HFE.out
            have HSL := Lib.hid hsl
            have HXQ := Lib.hid xq
            clear hsl
            obtain ⟨c_f0, c_f1, c_f2, c_f3, c_f4, c_f5, m_f0, m_f1, m_f2, m_f3, m_f4, m_f5, l_f⟩ := unb6 xf
            obtain ⟨c_q0, c_q1, c_q2, c_q3, c_q4, c_q5, m_q0, m_q1, m_q2, m_q3, m_q4, m_q5, l_q⟩ := unb6 xq
            go_wp2_with fail
            refine name_body (fun W3 hW3 => ?_)
            have yb : boxAt W3 qb [.int .i64 6, .int .i64 0, .int .i64 0, .int .i64 y.2, .slice (some ⟨g, 0, none⟩) 1 c, .bool true] := by subst hW3; exact (((((xq.put 0 _ (by simp)).put 1 _ (by simp)).put 2 _ (by simp)).put 3 _ (by simp)).put 4 _ (by simp)).put 5 _ (by simp)
            obtain ⟨c_y0, c_y1, c_y2, c_y3, c_y4, c_y5, m_y0, m_y1, m_y2, m_y3, m_y4, m_y5, l_y⟩ := unb6 yb
            refine bodyPost_ret (v := .agg #[.int .i64 6, .int .i64 0, .int .i64 0, .int .i64 y.2, .slice (some ⟨g, 0, none⟩) 1 c, .bool true]) (by simp [results, Tryz.results35, go_sem, c_y0, c_y1, c_y2, c_y3, c_y4, c_y5]) rfl ?_
            refine ⟨_, rfl, ⟨_, c, rfl, ?_⟩, by subst hW3; exact Below.setCell (Below.setCell (Below.setCell (Below.setCell (Below.setCell (Below.setCell HGE.out HQL.out _) HQL.out _) HQL.out _) HQL.out _) HQL.out _) HQL.out _⟩
            have hgq : g ≠ qb := fun e => by
             have h1 := c_q0
             obtain ⟨_, _, ⟨_, h0⟩ | ⟨b, off, cap, hv, hb, hc⟩⟩ := HSL.out
             · omega
             ·
              injection hv with hp _ _
              injection hp with hp
              injection hp with hp1 hp2
              have h2 := hc 0 _ rfl
              rw [← hp1, ← hp2, e] at h2
              rw [Nat.add_zero] at h2
              rw [h2] at h1
              cases h1
            refine Sl.keep HSL.out (fun a n cc ha => ?_)
            injection ha with ha _ _
            injection ha with ha
            subst ha hW3
            have hx : qb ≠ g := Ne.symm hgq
            repeat rw [setCell_far _ _ _ _ hx]
end Go.Proofs.YtkkopdmemjncdaaGreatDoor
