/- Texts of mine, put together: NmC. No condition but what each says. -/
import Derived.Test.YtkkopdmemjncdaaGreatDoorPNmK
import Derived.Test.YtkkopdmemjncdaaGreatDoorPNmD
namespace Go.Proofs.YtkkopdmemjncdaaGreatDoor
open Go Go.RowKit Go.Maps
theorem
    fold_withN : ∀ (l : List Nt) (a : List ByteArray) (x : ByteArray), x ∈ l.foldl (fun l x => withN l x.1) a → x ∈ a ∨ ∃ y ∈ l, y.1 = x
 | [], a, x, h => .inl h
 |
  y
   :: l, a, x, h => by
  rw [List.foldl_cons] at h
  rcases fold_withN l _ x h with h | ⟨z, hz, e⟩
  ·
   unfold withN at h
   split at h
   · exact .inl h
   ·
    rcases List.mem_append.1 h with h | h
    · exact .inl h
    · exact .inr ⟨y, by simp, (List.mem_singleton.1 h).symm⟩
  · exact .inr ⟨z, List.mem_cons_of_mem _ hz, e⟩
theorem usesN_mem {e : Ex} {x : ByteArray} (h : x ∈ usesN e) : ∃ y ∈ refsE e, y.1 = x := by
 rcases fold_withN (refsE e) [] x h with h | h
 · cases h
 · exact h
theorem linksS_get {s : Sc} {k : Nat} {d : Df} (h : s.defs[k]? = some d) : (linksS s)[k]? = some (srtN ((usesN d.ex).map (noOf (defsN s)))) := by
 unfold linksS linksN
 rw [List.getElem?_map, List.getElem?_map, h]; rfl
theorem linksS_len (s : Sc) : (linksS s).length = s.defs.length := by unfold linksS linksN; simp
theorem linksS_in {s : Sc} (h : Right s) {i : Nat} {r : List Nat} (hr : (linksS s)[i]? = some r) : ∀ x ∈ r, x < (linksS s).length := by
 intro x hx
 unfold linksS linksN at hr
 rw [List.getElem?_map, List.getElem?_map] at hr
 cases hd : s.defs[i]? with
 | none => rw [hd] at hr; cases hr
 |
  some d =>
  rw [hd] at hr
  injection hr with hr
  subst hr
  rw [srtN_mem] at hx
  obtain ⟨y, hy, rfl⟩ := List.mem_map.1 hx
  obtain ⟨z, hz, rfl⟩ := usesN_mem hy
  have := (noOf_some (h.drefs d (List.mem_of_getElem? hd) z hz)).1
  rw [linksS_len]
  unfold defsN at this
  rw [List.length_map] at this
  exact this
theorem set_last {α : Type} (A : List α) (x y : α) : (A ++ [x]).set A.length y = A ++ [y] := by
 rw [List.set_append_right _ _ (Nat.le_refl _), Nat.sub_self]; rfl
theorem get_last {α : Type} (A : List α) (x : α) : (A ++ [x])[A.length]? = some x := by
 rw [List.getElem?_append_right (Nat.le_refl _), Nat.sub_self]; rfl
set_option maxRecDepth 100000 in
theorem info_rowN : (Tryz.prog.info? 32).map (fun i => (i.zero, i.size, i.bytes)) = some (some (.slice none 0 0), 1, 24) := by kernel_rfl
structure CyI (w : World) (fb mm md : Nat) (vm vd vr : Value) (U : List (List Nat)) (k : Nat) (v : Value) (vs : List Value) (E : List RwE) (wr : World) : Prop where
 box : boxAt wr fb [vm, vd, vr, .map (some mm), .map (some md), v, .nilIface, .int .i64 0]
 len : vs.length = k
 le : k ≤ U.length
 rws : Rws wr w.heap.size [fb] ((⟨v, 32, 1, k, vs⟩ :: rowsE (U.take k) vs) ++ E)
 kp : KpR [fb] w wr
 lt : fb < w.heap.size
theorem CyI.later {w wr w' : World} {fb mm md : Nat} {vm vd vr : Value} {U : List (List Nat)} {k : Nat} {v : Value} {vs : List Value} {E : List RwE} (h : CyI w fb mm md vm vd vr U k v vs E wr) (hG : Gr wr w') : CyI w fb mm md vm vd vr U k v vs E w' :=
 ⟨h.box.later hG, h.len, h.le, h.rws.keep (fun g hg _ _ => Below.block hG g hg), kpr1 h.kp (KpR.gr hG), h.lt⟩
theorem CyI.fresh {w wr w' : World} {fb mm md : Nat} {vm vd vr : Value} {U : List (List Nat)} {k : Nat} {v : Value} {vs : List Value} {E : List RwE} (h : CyI w fb mm md vm vd vr U k v vs E wr) (hG : Gr wr w') {e z n : Nat} {u : Value} {xs : List Value} (ho : w'.ownsRow wr.heap.size e z u n xs) : CyI w fb mm md vm vd vr U k v vs (E ++ [⟨u, e, z, n, xs⟩]) w' := by
 have h1 := h.later hG
 refine ⟨h1.box, h1.len, h1.le, ?_, h1.kp, h.lt⟩
 rw [← List.append_assoc]
 exact Rws.fresh h.rws (fun g hg => Below.block hG g hg) ho h.kp.size (fun x hx => by rw [List.mem_singleton.1 hx]; exact h.box.lt (by simp))
theorem CyI.push {w wr : World} {fb mm md : Nat} {vm vd vr : Value} {U : List (List Nat)} {k : Nat} {v : Value} {vs : List Value} {E : List RwE} (h : CyI w fb mm md vm vd vr U k v vs E wr) (e z : Nat) : CyI w fb mm md vm vd vr U k v vs (E ++ [⟨.slice none 0 0, e, z, 0, []⟩]) wr := by
 refine ⟨h.box, h.len, h.le, ?_, h.kp, h.lt⟩
 rw [← List.append_assoc]
 exact h.rws.push e z
theorem CyI.sub {w wr : World} {fb mm md : Nat} {vm vd vr : Value} {U : List (List Nat)} {k : Nat} {v : Value} {vs : List Value} {E F : List RwE} (h : CyI w fb mm md vm vd vr U k v vs E wr) (hs : F.Sublist E) : CyI w fb mm md vm vd vr U k v vs F wr :=
 ⟨h.box, h.len, h.le, h.rws.sub (hs.append_left _), h.kp, h.lt⟩
theorem CyI.row {w wr : World} {fb mm md : Nat} {vm vd vr : Value} {U : List (List Nat)} {k : Nat} {v : Value} {vs : List Value} {E : List RwE} (h : CyI w fb mm md vm vd vr U k v vs E wr) {r : RwE} (hr : r ∈ E) : wr.ownsRow w.heap.size r.e r.k r.v r.n r.xs := h.rws.own r (List.mem_append_right _ hr)
theorem CyI.grow {w wr w' : World} {fb mm md : Nat} {vm vd vr : Value} {U : List (List Nat)} {k : Nat} {v : Value} {vs : List Value} {E : List RwE} {r : RwE} (h : CyI w fb mm md vm vd vr U k v vs (E ++ [r]) wr) {v' : Value} {n' : Nat} {xs' : List Value}
  (hg : wr.grownBy w' r.v.ownBlock) (ho : w'.ownsRow w.heap.size r.e r.k v' n' xs') (hat : v'.ownBlock = r.v.ownBlock ∨ v'.ownBlock = some wr.heap.size) : CyI w fb mm md vm vd vr U k v vs (E ++ [⟨v', r.e, r.k, n', xs'⟩]) w' := by
 have hfb := h.box.lt (by simp)
 have hr := h.row (r := r) (by simp)
 have hne : r.v.ownBlock ≠ some fb := fun e => h.rws.out r (by simp) fb e (by simp)
 have hrw := h.rws
 rw [← List.append_assoc] at hrw
 refine ⟨h.box.grown hg (by simp) hne, h.len, h.le, ?_, h.kp.grown hg (fun g hg' => .inl (World.ownsRow.lt hr g hg').1), h.lt⟩
 rw [← List.append_assoc, ← set_last _ r]
 exact hrw.grow (get_last _ r) hg ho hat (fun x hx => by rw [List.mem_singleton.1 hx]; exact hfb)
theorem CyI.outer {w wr w' : World} {fb mm md : Nat} {vm vd vr : Value} {U : List (List Nat)} {k : Nat} {v : Value} {vs : List Value} {u : Value} {r : List Nat} {m : Nat} (h : CyI w fb mm md vm vd vr U k v vs [⟨u, 3, 1, m, r.map natV⟩] wr) (hm : r.length = m) (hr : U[k]? = some r) {v' : Value}
  (hg : wr.grownBy w' v.ownBlock) (ho : w'.ownsRow w.heap.size 32 1 v' (k + 1) (vs ++ [u])) (hat : v'.ownBlock = v.ownBlock ∨ v'.ownBlock = some wr.heap.size) : CyI w fb mm md vm vd vr U (k + 1) v' (vs ++ [u]) [] (w'.setCell ⟨fb, 5, none⟩ v') := by
 subst hm
 have hfb := h.box.lt (by simp)
 have hown : wr.ownsRow w.heap.size 32 1 v k vs := h.rws.own ⟨v, 32, 1, k, vs⟩ (by simp)
 have hne : v.ownBlock ≠ some fb := fun e => h.rws.out ⟨v, 32, 1, k, vs⟩ (by simp) fb e (by simp)
 have hkl := (List.getElem?_eq_some_iff.1 hr).1
 have htk : U.take (k + 1) = U.take k ++ [r] := by rw [List.take_add_one, hr]; rfl
 have hl : vs.length = (U.take k).length := by rw [List.length_take, h.len]; omega
 have hrw := h.rws.grow (i := 0) (r := ⟨v, 32, 1, k, vs⟩) rfl hg ho hat (fun x hx => by rw [List.mem_singleton.1 hx]; exact hfb)
 refine ⟨((h.box.grown hg (by simp) hne).put 5 v' (by simp)), by rw [List.length_append, h.len]; rfl, hkl, ?_, (h.kp.grown hg (fun g hg' => .inl (World.ownsRow.lt hown g hg').1)).put (.inr (by simp)) _, h.lt⟩
 rw [htk, rowsE_snoc _ _ _ _ hl, List.append_nil]
 exact hrw.keep (fun g _ _ hg' => Below.heap_setCell w' _ v' g (fun e => hg' (by rw [e]; simp)))
theorem CyI.rows {w wr : World} {fb mm md : Nat} {vm vd vr : Value} {U : List (List Nat)} {v : Value} {vs : List Value} {E : List RwE} {k : Nat} (h : CyI w fb mm md vm vd vr U k v vs E wr) (hk : k = U.length) : RowsN wr v U := by
 subst hk
 have e : U.take U.length = U := List.take_length
 refine RowsN.of_rws h.len h.rws (by simp) (fun r hr => ?_)
 rw [e]
 exact List.mem_append_left _ (List.mem_cons_of_mem _ hr)
theorem order_le (U : List (List Nat)) : (orderN U U.length []).length ≤ U.length := by
 have ho := orderN_ordered U U.length [] (ordered_nil U)
 refine nodup_le _ _ (ordered_nodup ho) (fun x hx => ?_)
 obtain ⟨j, hj, rfl⟩ := List.mem_iff_getElem.1 hx
 exact (ho j _ (List.getElem?_eq_getElem hj)).1
theorem path_nil {U : List (List Nat)} {fr n : Nat} {far : List Int} (h : FarOk U fr far) (hU : ∀ (i k : Nat), k ∈ U[i]?.getD [] → k < U.length) : pathP U far fr (n + 1) fr = [] ↔ ¬ Cyc U fr := by
 rw [h.cyc hU, pathP]
 cases nearP far (U[fr]?.getD []) with
 | none => simp
 | some k => simp
theorem path_len (U : List (List Nat)) (far : List Int) (fr : Nat) : ∀ (n i : Nat), (pathP U far fr n i).length ≤ n
 | 0, i => by rw [pathP]; simp
 |
  n
   + 1, i => by
  rw [pathP]
  split
  · simp
  ·
   rename_i k _
   by_cases h : k = fr
   · rw [if_pos h]; simp
   · rw [if_neg h, List.length_cons]; have := path_len U far fr n k; omega
theorem in_getD {U : List (List Nat)} {n : Nat} (h : ∀ (i : Nat) (r : List Nat), U[i]? = some r → ∀ x ∈ r, x < n) : ∀ (i k : Nat), k ∈ U[i]?.getD [] → k < n := fun i k hk => by
 cases hr : U[i]? with
 | none => rw [hr] at hk; cases hk
 | some r => rw [hr] at hk; exact h i r hr k hk
def nmD (s : Sc) (i : Nat) : ByteArray := ((defsN s)[i]?).getD ⟨#[]⟩
def
  CycE (s : Sc) (fb mm md : Nat) (vm vd vr ev : Value) (w : World) (e : Ending) (w' : World) : Prop :=
 ((orderN (linksS s) s.defs.length []).length = s.defs.length ∧ e = .returned .nilIface ∧ ∃ v, boxAt w' fb [vm, vd, vr, .map (some mm), .map (some md), v, .nilIface, .int .i64 0] ∧ RowsN w' v (linksS s)) ∨
 ∃
  (i : Nat) (far : List Int) (b : Nat) (nv : Value), i < s.defs.length ∧ (∀ y, y < i → ¬ Cyc (linksS s) y) ∧ FarOk (linksS s) i far ∧ pathP (linksS s) far i (s.defs.length + 1) i ≠ [] ∧ e = .returned (.iface 119 (.pointer (some ⟨b, 0, none⟩))) ∧ boxAt w' b [ev, nv] ∧ w.heap.size ≤ b ∧
  w'.ownsRow w.heap.size 9 1 nv (pathP (linksS s) far i (s.defs.length + 1) i).length ((pathP (linksS s) far i (s.defs.length + 1) i).map fun j => .string (nmD s j))
set_option maxRecDepth 100000 in
set_option maxHeartbeats 8000000 in
theorem
    cycle_any
         (s : Sc) (w0 w : World) (fb mm md nD : Nat) (ev vm vd vr : Value) (hs : ScIn w0 s vm vd vr) (hG0 : Gr w0 w) (hlow : w0.heap.size ≤ fb) (hb : boxAt w fb [vm, vd, vr, .map (some mm), .map (some md), .slice none 0 0, .nilIface, .int .i64 0]) (hm : MapF w md nD (numF (defsN s))) (hmd : md ≠ fb) (hR : Right s)
  (hdl : s.defs.length ≤ 1048576) (hru : ∀ d ∈ s.defs, (refsE d.ex).length ≤ 1048576) (hev : w0.cell? ⟨1, 0, none⟩ = some ev) (hface : ∃ t x, ev = .iface t x) :
  Calls Tryz.prog 43 #[.pointer (some ⟨fb, 0, none⟩)] w fun e w' => CycE s fb mm md vm vd vr ev w e w' ∧ KpR [fb] w w' := by
 obtain ⟨i1, ki, ky0, ky1, ky2⟩ := info_parts info_intN
 obtain ⟨i2, ri, ry0, ry1, ry2⟩ := info_parts info_rowN
 have HSD := Lib.hid (show ∀ x ∈ defsN s, x.size ≤ maxLen from fun x hx => by
  obtain ⟨d, hd, rfl⟩ := List.mem_map.1 hx
  rw [← hs.hd] at hd
  obtain ⟨p, hp, rfl⟩ := List.mem_map.1 hd
  exact (hs.defsI p hp).name)
 obtain ⟨dl, rl, hd, hr, hm', hmo, hmn, hmb, hds, hdi, hdn, hdb, hrs, hri, hrn, hrb⟩ := hs
 obtain ⟨pd, cd, evd⟩ := hds.len
 have hdl2 : dl.length ≤ 1048576 := by rw [← hd, List.length_map] at hdl; exact hdl
 obtain ⟨n, hn⟩ : ∃ n, dl.length = n := ⟨_, rfl⟩
 have HLS := Lib.hid (show s.defs.length = n by rw [← hd, List.length_map]; exact hn)
 have HLU := Lib.hid (show (linksS s).length = n from (linksS_len s).trans HLS.out)
 rw [hn] at evd hdl2 hds
 have HD := Lib.hid hds
 have HDI := Lib.hid hdi
 have HHD := Lib.hid hd
 have HN := Lib.hid hn
 have HM := Lib.hid hm
 have HMD := Lib.hid hmd
 have HRT := Lib.hid hR
 have HRU := Lib.hid hru
 have HLO := Lib.hid hlow
 have HG := Lib.hid hG0
 obtain ⟨t, x, rfl⟩ := hface
 have HEV := Lib.hid hev
 have HNB := Lib.hid hdl2
 have hnI : (n : Int) ≤ 1048576 := by omega
 subst evd
 have HC0 := Lib.hid (show CyI w fb mm md vm (.slice pd n cd) vr (linksS s) 0 (.slice none 0 0) [] [] w from
  ⟨hb, rfl, Nat.zero_le _, by
   have := (Rws.nilX w w.heap.size [fb]).push 32 1
   simpa [rowsE] using this, KpR.refl _ _, hb.lt (by simp)⟩)
 have xf := hb
 clear hd hr hm' hmo hmn hmb hds hdi hdn hdb hrs hri hrn hrb hdl hdl2 hn hm hmd hR hru hlow hG0 hev hb
 unfold CycE
 rw [HLS.out]
 go_enter Tryz.func43, Tryz.ntmps43
 obtain ⟨c_f0, c_f1, c_f2, c_f3, c_f4, c_f5, c_f6, c_f7, m_f0, m_f1, m_f2, m_f3, m_f4, m_f5, m_f6, m_f7, l_f⟩ := unb8 xf
 go_wp2_with fail
 clear c_f0 c_f1 c_f2 c_f3 c_f4 c_f5 c_f6 c_f7 m_f0 m_f1 m_f2 m_f3 m_f4 m_f5 m_f6 m_f7 l_f
 clear xf
 go_loopw [16] (fun i wr => ∃ k : Nat, k ≤ n ∧ i = .int .i64 (k : Int) ∧ ∃ v vs, Hid (CyI w fb mm md vm (.slice pd n cd) vr (linksS s) k v vs [] wr)) (fun i _ => n - (intOf i).toNat)
 case atStart => exact ⟨0, Nat.zero_le _, rfl, _, _, HC0⟩
 case round =>
  clear HC0
  obtain ⟨k, hk, rfl, v, vs, HCY⟩ := hrel
  rcases Nat.lt_or_ge k n with hkn | hkn
  ·
   have hkI : (k : Int) < (n : Int) := by omega
   have HKN := Lib.hid hkn
   obtain ⟨⟨d, cs⟩, hx⟩ : ∃ x, dl[k]? = some x := ⟨_, List.getElem?_eq_getElem (by rw [HN.out]; exact hkn)⟩
   have hg : Gr w0 wr := KpR.toGr HG.out HCY.out.kp (fun x hx => by rw [List.mem_singleton.1 hx]; exact HLO.out)
   obtain ⟨b2, off, hpm, hbl, hc⟩ := elem_at HD.out (fun x hx => (HDI.out x hx).len) HN.out hx
   have hok := HDI.out _ (List.mem_of_getElem? hx)
   have hsd : s.defs[k]? = some d := by rw [← HHD.out, List.getElem?_map, hx]; rfl
   dsimp only at hok hc
   cases hok with
   | mk ec hee hnn hpp =>
   have hT := HRU.out d (List.mem_of_getElem? hsd)
   have HUK := Lib.hid (linksS_get hsd)
   have HUM := Lib.hid (show ∀ x ∈ usesN d.ex, x ∈ defsN s from fun x hx => by
    obtain ⟨y, hy, rfl⟩ := usesN_mem hx
    exact HRT.out.drefs d (List.mem_of_getElem? hsd) y hy)
   have HUL := Lib.hid (show (usesN d.ex).length ≤ 1048576 from Nat.le_trans (by rw [usesN_eq]; exact usesL_len _) hT)
   obtain ⟨nmd, po, ex⟩ := d
   dsimp only at hee hnn hpp hc hT HUK HUM HUL
   obtain ⟨op, ps, s1, tx, mn, mx, p1, n1, c1, rfl⟩ := hee.formN
   subst hpm
   have k0 : wr.cell? ⟨b2, off + k * 12, none⟩ = some (.string nmd) := hg.cell (hc 0 _ rfl)
   have k1 : wr.cell? ⟨b2, off + k * 12 + 1, none⟩ = some (.int .i64 po) := hg.cell (hc 1 _ rfl)
   have k2 : wr.cell? ⟨b2, off + k * 12 + 2, none⟩ = some (.int .i64 op) := hg.cell (hc 2 _ rfl)
   have k3 : wr.cell? ⟨b2, off + k * 12 + 3, none⟩ = some (.int .i64 ps) := hg.cell (hc 3 _ rfl)
   have k4 : wr.cell? ⟨b2, off + k * 12 + 4, none⟩ = some (.int .u64 (wd s1 0)) := hg.cell (hc 4 _ rfl)
   have k5 : wr.cell? ⟨b2, off + k * 12 + 5, none⟩ = some (.int .u64 (wd s1 1)) := hg.cell (hc 5 _ rfl)
   have k6 : wr.cell? ⟨b2, off + k * 12 + 6, none⟩ = some (.int .u64 (wd s1 2)) := hg.cell (hc 6 _ rfl)
   have k7 : wr.cell? ⟨b2, off + k * 12 + 7, none⟩ = some (.int .u64 (wd s1 3)) := hg.cell (hc 7 _ rfl)
   have k8 : wr.cell? ⟨b2, off + k * 12 + 8, none⟩ = some (.string tx) := hg.cell (hc 8 _ rfl)
   have k9 : wr.cell? ⟨b2, off + k * 12 + 9, none⟩ = some (.int .i64 mn) := hg.cell (hc 9 _ rfl)
   have k10 : wr.cell? ⟨b2, off + k * 12 + 10, none⟩ = some (.int .i64 mx) := hg.cell (hc 10 _ rfl)
   have k11 : wr.cell? ⟨b2, off + k * 12 + 11, none⟩ = some (.slice p1 n1 c1) := hg.cell (hc 11 _ rfl)
   have hbr := Nat.lt_of_lt_of_le hbl hg.size
   have HCU := Lib.hid (fun W (hG : Gr wr W) => uses_any ex _ W (hee.later (hg.trans hG)) hT)
   unfold exCells at HCU
   try dsimp only at HCU
   clear hx hk hkn hc hee hnn hpp hsd hT hbl hg
   go_wp2_with fail
   go_at_call 18
   refine name_calls (fun W1 hW1 => ?_)
   have hb1 : Gr wr W1 := by rw [hW1]; exact Gr.alloc _ _
   clear hW1
   (with_reducible refine (HCU.out W1 hb1).mono ?_); rintro e w2 ⟨nv, rfl, hnv, hg2⟩
   obtain ⟨pn, cn, rfl⟩ := (Sl.of_owns hnv).len
   obtain ⟨NM, hNM⟩ : ∃ N, usesN ex = N := ⟨_, rfl⟩
   rw [hNM] at hnv HUK HUM HUL ⊢
   obtain ⟨mN, hmN⟩ : ∃ m, NM.length = m := ⟨_, rfl⟩
   rw [hmN] at hnv HUL ⊢
   have HMN := Lib.hid hmN
   have hmI : (mN : Int) ≤ 1048576 := by have := HUL.out; omega
   have HCY2 := Lib.hid ((HCY.out.later hb1).fresh hg2 hnv)
   have HCY3 := Lib.hid (HCY2.out.push 3 1)
   clear hb1 hg2 hnv hNM hmN HCY HCY2
   go_wp2_with fail
   go_loopw [5, 24] (fun lv i wr => ∃ j : Nat, j ≤ mN ∧ i = .int .i64 (j : Int) ∧ Hid (CyI w fb mm md vm (.slice (some ⟨b2, off, none⟩) n cd) vr (linksS s) k v vs [⟨.slice pn mN cn, 9, 1, mN, NM.map .string⟩, ⟨lv, 3, 1, j, ((NM.map (noOf (defsN s))).take j).map natV⟩] wr)) (fun _ i _ => mN - (intOf i).toNat)
   case atStart => exact ⟨0, Nat.zero_le _, rfl, by simpa using HCY3⟩
   case round =>
    clear HCY3
    obtain ⟨j, hj, rfl, HCJ⟩ := hrel
    have hlast := HCJ.out.row (List.mem_cons_of_mem _ (List.mem_singleton.2 rfl))
    dsimp only at hlast
    obtain ⟨pl, cl, rfl⟩ := (Sl.of_owns hlast).len
    clear hlast
    rcases Nat.lt_or_ge j mN with hjn | hjn
    ·
     have hjI : (j : Int) < (mN : Int) := by omega
     have HJN := Lib.hid hjn
     obtain ⟨nmx, hx⟩ : ∃ x, NM[j]? = some x := ⟨_, List.getElem?_eq_getElem (by rw [HMN.out]; exact hjn)⟩
     have hon := HCJ.out.row (r := ⟨.slice pn mN cn, 9, 1, mN, NM.map .string⟩) (by simp)
     dsimp only at hon
     obtain ⟨gn, capn, hvn, _, hgn, _⟩ := owns_block hon (by omega)
     injection hvn with e1 _ e3
     subst e1 e3
     have kn := owns_cell hon j (.string nmx) (by rw [List.getElem?_map, hx]; rfl)
     have hmem := HUM.out nmx (List.mem_of_getElem? hx)
     have HCc := Lib.hid (show (numF (defsN s) nmx).getD 0 = (noOf (defsN s) nmx : Int) by unfold numF; rw [if_pos (memN_iff.2 hmem)]; rfl)
     have HSZ := Lib.hid (HSD.out nmx hmem)
     have HMJ := Lib.hid (HM.out.heap (HCJ.out.kp.block _ HM.out.lt (fun h => HMD.out (List.mem_singleton.1 h))))
     obtain ⟨c, hcc⟩ : ∃ c, noOf (defsN s) nmx = c := ⟨_, rfl⟩
     rw [hcc] at HCc
     have HTK := Lib.hid (show (NM.map (noOf (defsN s))).take (j + 1) = (NM.map (noOf (defsN s))).take j ++ [c] by rw [List.take_add_one, List.getElem?_map, hx, ← hcc]; rfl)
     have hrun := HMJ.out.look1 HSZ.out HCc.out
     have xf := HCJ.out.box
     obtain ⟨c_f0, c_f1, c_f2, c_f3, c_f4, c_f5, c_f6, c_f7, m_f0, m_f1, m_f2, m_f3, m_f4, m_f5, m_f6, m_f7, l_f⟩ := unb8 xf
     have HROW := Lib.hid (HCJ.out.row (r := ⟨.slice pl j cl, 3, 1, j, ((NM.map (noOf (defsN s))).take j).map natV⟩) (by simp))
     try dsimp only at HROW
     obtain ⟨XS, hXS⟩ : ∃ X : List Value, ((NM.map (noOf (defsN s))).take j).map natV = X := ⟨_, rfl⟩
     rw [hXS] at HROW
     have HXS := Lib.hid hXS
     clear hx hj hjn hon hmem hcc hXS
     go_wp2_with (at_builtin; refine wpList_append_own_at _ rfl (.tmp 28) (.tmp 35) 32 rfl w.heap.size 3 i1 (.int .i64 0) 1 8 Tryz.underlying32 ki ky0 ky1 ky2 rfl (by decide) _ j XS rfl (HROW.out.alloc _) ⟨wr.heap.size, 0, none⟩ 1 1 [.int .i64 (c : Int)] rfl rfl (new_cells _ _ _) (by intro u hu; simp at hu; subst hu; rfl) (by have := HJN.out; have := HUL.out; unfold maxLen; omega) (by have := HJN.out; have := HUL.out; omega) (Nat.le_trans HCJ.out.kp.size (Gr.alloc _ _).size) ?_; intro v' w4 hown4 hg4 _ hloc; obtain ⟨p4, c4', rfl⟩ := (Sl.of_owns hown4).len; have HOW4 := Lib.hid hown4; have HG4 := Lib.hid hg4; have HLOC := Lib.hid hloc; clear hown4 hg4 hloc)
     clear c_f0 c_f1 c_f2 c_f3 c_f4 c_f5 c_f6 c_f7 m_f0 m_f1 m_f2 m_f3 m_f4 m_f5 m_f6 m_f7 l_f
     go_roundw
     case rel => exact ⟨j + 1, HJN.out, by go_num, Lib.hid (by
      have h5 := CyI.grow (E := [⟨.slice (some ⟨gn, 0, none⟩) mN cn, 9, 1, mN, NM.map .string⟩]) (HCJ.out.later (Gr.alloc wr _)) HG4.out HOW4.out HLOC.out
      rw [HTK.out, List.map_append, HXS.out]
      exact h5)⟩
     case measure => have := HJN.out; simp [intOf]; omega
    ·
     have hjI : ¬ (j : Int) < (mN : Int) := by omega
     have hje : j = mN := by omega
     subst hje
     have HTA := Lib.hid (show (NM.map (noOf (defsN s))).take j = NM.map (noOf (defsN s)) by rw [List.take_of_length_le (by rw [List.length_map, HMN.out]; exact Nat.le_refl _)])
     have HSO := Lib.hid (show (srtN (NM.map (noOf (defsN s)))).length = j by rw [srtN_len, List.length_map]; exact HMN.out)
     have HCJ2 := Lib.hid (HCJ.out.sub (F := [⟨.slice pl j cl, 3, 1, j, ((NM.map (noOf (defsN s))).take j).map natV⟩]) (by simp))
     have hrow := HCJ2.out.row (r := ⟨.slice pl j cl, 3, 1, j, ((NM.map (noOf (defsN s))).take j).map natV⟩) (by simp)
     dsimp only at hrow
     rw [HTA.out] at hrow HCJ2
     have HCS := Lib.hid (sortN_any (NM.map (noOf (defsN s))) (.slice pl j cl) w.heap.size 3 wr (by rw [List.length_map, HMN.out]; exact hrow) (by rw [List.length_map, HMN.out]; exact HUL.out))
     clear hj hjn hrow HCJ HTA
     go_wp2_with fail
     go_at_call 82
     (with_reducible refine HCS.out.mono ?_); rintro e w3 ⟨rfl, ho3, hg3⟩
     rw [List.length_map, HMN.out] at ho3
     have HCJ3 := Lib.hid (CyI.grow (E := []) HCJ2.out hg3 ho3 (.inl rfl))
     clear ho3 hg3 HCJ2
     have howo := HCJ3.out.rws.own ⟨v, 32, 1, k, vs⟩ (by simp)
     dsimp only at howo
     obtain ⟨pv, cv, rfl⟩ := (Sl.of_owns howo).len
     have HOWO := Lib.hid howo
     have xf := HCJ3.out.box
     obtain ⟨c_f0, c_f1, c_f2, c_f3, c_f4, c_f5, c_f6, c_f7, m_f0, m_f1, m_f2, m_f3, m_f4, m_f5, m_f6, m_f7, l_f⟩ := unb8 xf
     clear howo
     go_wp2_with (at_builtin; refine wpList_append_own_at _ rfl (.tmp 44) (.tmp 46) 31 rfl w.heap.size 32 i2 (.slice none 0 0) 1 24 Tryz.underlying31 ri ry0 ry1 ry2 rfl (by decide) _ k vs rfl (HOWO.out.alloc _) ⟨w3.heap.size, 0, none⟩ 1 1 [.slice pl j cl] rfl rfl (new_cells _ _ _) (by intro u hu; simp at hu; subst hu; rfl) (by have := HKN.out; have := HNB.out; unfold maxLen; omega) (by have := HKN.out; have := HNB.out; omega) (Nat.le_trans HCJ3.out.kp.size (Gr.alloc _ _).size) ?_; intro v' w4 hown4 hg4 _ hloc; obtain ⟨p4, c4', rfl⟩ := (Sl.of_owns hown4).len; have HOW4 := Lib.hid hown4; have HG4 := Lib.hid hg4; have HLOC := Lib.hid hloc; have xf4 := HCJ3.out.rws.out ⟨.slice pv k cv, 32, 1, k, vs⟩ (by simp); have yf4 := ((xf.later (Gr.alloc w3 (.cells #[.slice pl j cl] 32))).grown hg4 (by simp) (fun e => xf4 fb e (by simp))); have q5 := yf4.cell 5 _ rfl; have r5 := yf4.mark 5 _ rfl; have ql := yf4.lt (Nat.succ_pos _); clear hown4 hg4 hloc xf4 yf4)
     clear c_f0 c_f1 c_f2 c_f3 c_f4 c_f5 c_f6 c_f7 m_f0 m_f1 m_f2 m_f3 m_f4 m_f5 m_f6 m_f7 l_f
     clear q5 r5 ql xf
     go_roundw
     case rel => exact ⟨k + 1, HKN.out, by go_num, _, _, Lib.hid (by
      have h5 := HCJ3.out.later (Gr.alloc w3 (.cells #[.slice pl j cl] 32))
      rw [List.nil_append] at h5
      exact CyI.outer h5 HSO.out HUK.out HG4.out HOW4.out HLOC.out)⟩
     case measure => have := HKN.out; simp [intOf]; omega
  ·
   have hkI : ¬ (k : Int) < (n : Int) := by omega
   have hke : n = k := by omega
   subst hke
   have hrw := HCY.out.rows HLU.out.symm
   obtain ⟨pv, cv, rfl⟩ : ∃ p c, v = .slice p n c := by
    obtain ⟨vs', h1, h2, _⟩ := hrw.sl
    rw [HLU.out] at h2
    exact h2.len
   have HRW := Lib.hid hrw
   have HIN := Lib.hid (fun (i : Nat) (r : List Nat) (h : (linksS s)[i]? = some r) => linksS_in HRT.out h)
   obtain ⟨nL, hnL⟩ : ∃ m, (orderN (linksS s) n []).length = m := ⟨_, rfl⟩
   have HNL := Lib.hid hnL
   have HOC := Lib.hid (fun W (hG : Gr wr W) => order_any W fb _ _ _ _ _ _ _ _ (linksS s) (HCY.out.box.later hG) (HRW.out.later hG) (by rw [HLU.out]; exact HNB.out) HIN.out)
   have hle := order_le (linksS s)
   rw [HLU.out, hnL] at HOC hle
   have HLE := Lib.hid hle
   have xf := HCY.out.box
   obtain ⟨c_f0, c_f1, c_f2, c_f3, c_f4, c_f5, c_f6, c_f7, m_f0, m_f1, m_f2, m_f3, m_f4, m_f5, m_f6, m_f7, l_f⟩ := unb8 xf
   clear hk hkn hnL hle hrw
   by_cases hd : nL = n
   ·
    have hdb : ((nL : Int) == (n : Int)) = true := by rw [hd]; simp
    have HDD := Lib.hid hd
    clear hd
    go_upto_region 13 with fail
    refine wp_region_G (.take 0 (.take 3 (.take 4 (.take 5 (.take 6 (.take 7 (.run 1 false (.take 2 (.take 8 .nil))))))))) (by kernel_rfl) (by kernel_rfl) ?_
    simp only [pickOps, nthOp]
    intro wq hG
    repeat (first | (refine wpG_skip_take ?_ ?_; (focus rfl); try simp only [Act.put, List.setIfInBounds_toArray, List.set_cons_zero, List.set_cons_succ]) | (refine wpG_skip_run ?_ ?_; (focus rfl); try simp only [Act.put, List.setIfInBounds_toArray, List.set_cons_zero, List.set_cons_succ]) | (refine wpG_take ?_ ?_; (focus rfl); apply Exists.intro; refine ⟨fun w' hw' => ?_, ?_⟩; (focus (have hc := Gr.cells hw'; go_simp; (try rfl); done)); try simp only [Act.put, List.setIfInBounds_toArray, List.set_cons_zero, List.set_cons_succ]) | (refine wpG_run ?_ (fun K hK => ?_); (focus rfl); go_simp; (first | (go_at_call 44; (with_reducible refine (HOC.out _ hG).mono ?_); rintro e w2 ⟨v2, rfl, ho2, hb⟩; obtain ⟨p2, c2', rfl⟩ := (Sl.of_owns ho2).len; clear ho2)); (try dsimp only); replace hG := hG.trans hb; refine hK.out _ _ hG ?_; clear hK K hb; try simp only [Act.put, List.setIfInBounds_toArray, List.set_cons_zero, List.set_cons_succ]))
    refine wpG_done ?_
    have HG2 := Lib.hid hG
    clear c_f0 c_f1 c_f2 c_f3 c_f4 c_f5 c_f6 c_f7 m_f0 m_f1 m_f2 m_f3 m_f4 m_f5 m_f6 m_f7 l_f
    clear hG
    go_step
    go_wp2_with fail
    go_ret
    exact ⟨.inl ⟨HNL.out.trans HDD.out, rfl, _, HCY.out.box.later HG2.out, HRW.out.later HG2.out⟩, kpr1 HCY.out.kp (KpR.gr HG2.out)⟩
   ·
    have hdb : ((nL : Int) == (n : Int)) = false := by rw [beq_eq_false_iff_ne]; omega
    have HLT := Lib.hid (show nL < n by have := HLE.out; omega)
    clear hd
    go_upto_region 13 with fail
    refine wp_region_G (.take 0 (.take 3 (.take 4 (.take 5 (.take 6 (.take 7 (.run 1 false (.take 2 (.take 8 .nil))))))))) (by kernel_rfl) (by kernel_rfl) ?_
    simp only [pickOps, nthOp]
    intro wq hG
    repeat (first | (refine wpG_skip_take ?_ ?_; (focus rfl); try simp only [Act.put, List.setIfInBounds_toArray, List.set_cons_zero, List.set_cons_succ]) | (refine wpG_skip_run ?_ ?_; (focus rfl); try simp only [Act.put, List.setIfInBounds_toArray, List.set_cons_zero, List.set_cons_succ]) | (refine wpG_take ?_ ?_; (focus rfl); apply Exists.intro; refine ⟨fun w' hw' => ?_, ?_⟩; (focus (have hc := Gr.cells hw'; go_simp; (try rfl); done)); try simp only [Act.put, List.setIfInBounds_toArray, List.set_cons_zero, List.set_cons_succ]) | (refine wpG_run ?_ (fun K hK => ?_); (focus rfl); go_simp; (first | (go_at_call 44; (with_reducible refine (HOC.out _ hG).mono ?_); rintro e w2 ⟨v2, rfl, ho2, hb⟩; obtain ⟨p2, c2', rfl⟩ := (Sl.of_owns ho2).len; clear ho2)); (try dsimp only); replace hG := hG.trans hb; refine hK.out _ _ hG ?_; clear hK K hb; try simp only [Act.put, List.setIfInBounds_toArray, List.set_cons_zero, List.set_cons_succ]))
    refine wpG_done ?_
    have HG2 := Lib.hid hG
    have xf2 := xf.later hG
    clear c_f0 c_f1 c_f2 c_f3 c_f4 c_f5 c_f6 c_f7 m_f0 m_f1 m_f2 m_f3 m_f4 m_f5 m_f6 m_f7 l_f
    obtain ⟨c_f0, c_f1, c_f2, c_f3, c_f4, c_f5, c_f6, c_f7, m_f0, m_f1, m_f2, m_f3, m_f4, m_f5, m_f6, m_f7, l_f⟩ := unb8 xf2
    clear hG
    go_step
    go_wp2_with fail
    clear c_f0 c_f1 c_f2 c_f3 c_f4 c_f5 c_f6 c_f7 m_f0 m_f1 m_f2 m_f3 m_f4 m_f5 m_f6 m_f7 l_f
    clear xf xf2 hdb
    go_loopw [66] (fun i wz => ∃ k : Nat, k ≤ n ∧ i = .int .i64 (k : Int) ∧ Hid (Gr wr wz) ∧ Hid (∀ y, y < k → ¬ Cyc (linksS s) y)) (fun i _ => n - (intOf i).toNat)
    case atStart => exact ⟨0, Nat.zero_le _, rfl, HG2, Lib.hid (fun y hy => by omega)⟩
    case round =>
     clear HG2
     obtain ⟨k, hk, rfl, HG2, HNC⟩ := hrel
     rcases Nat.lt_or_ge k n with hkn | hkn
     ·
      have hkI : (k : Int) < (n : Int) := by omega
      have HKN := Lib.hid hkn
      have HBK := Lib.hid (back_any _ fb _ _ _ _ _ _ _ _ (linksS s) (HCY.out.box.later HG2.out) (HRW.out.later HG2.out) (by rw [HLU.out]; exact HNB.out) HIN.out (nmD s) pd cd (by rw [HLU.out]) (fun i hi => by
       rw [HLU.out] at hi
       obtain ⟨⟨d, cs⟩, hx⟩ : ∃ x, dl[i]? = some x := ⟨_, List.getElem?_eq_getElem (by rw [HN.out]; exact hi)⟩
       have hg : Gr w0 _ := Gr.trans (KpR.toGr HG.out HCY.out.kp (fun x hx => by rw [List.mem_singleton.1 hx]; exact HLO.out)) HG2.out
       obtain ⟨b2, off, hpm, hbl, hc⟩ := elem_at HD.out (fun x hx => (HDI.out x hx).len) HN.out hx
       have hok := HDI.out _ (List.mem_of_getElem? hx)
       have hsd : s.defs[i]? = some d := by rw [← HHD.out, List.getElem?_map, hx]; rfl
       dsimp only at hok hc
       cases hok with
       | mk ec hee hnn hpp =>
       refine ⟨b2, off, hpm, Nat.lt_of_lt_of_le hbl hg.size, ?_⟩
       have := hg.cell (hc 0 _ rfl)
       rw [show nmD s i = d.name by unfold nmD defsN; rw [List.getElem?_map, hsd]; rfl]
       exact this) k (by rw [HLU.out]; exact hkn))
      unfold BackE at HBK
      rw [HLU.out] at HBK
      clear hk hkn
      go_wp2_with fail
      go_at_call 83
      (with_reducible refine HBK.out.mono ?_); rintro e w3 ⟨⟨far, v3, rfl, hok, hnil, hown⟩, hg3⟩
      have HOK := Lib.hid hok
      have HG3 := Lib.hid (HG2.out.trans hg3)
      have HPN := Lib.hid (path_nil (n := n) hok (in_getD HIN.out))
      obtain ⟨P, hP⟩ : ∃ P, pathP (linksS s) far k (n + 1) k = P := ⟨_, rfl⟩
      rw [hP] at hnil hown HPN
      have HP := Lib.hid hP
      by_cases hpe : P = []
      ·
       rw [hnil hpe]
       have HNC2 := Lib.hid (show ∀ y, y < k + 1 → ¬ Cyc (linksS s) y from fun y hy => (Nat.lt_or_ge y k).elim (HNC.out y) (fun h1 => by
        have : y = k := by omega
        subst this; exact HPN.out.1 hpe))
       clear hnil hown hpe hP hok hg3
       go_wp2_with fail
       go_roundw
       case rel => exact ⟨k + 1, HKN.out, by go_num, HG3, HNC2⟩
       case measure => have := HKN.out; simp [intOf]; omega
      ·
       obtain ⟨m, hm⟩ : ∃ m, P.length = m := ⟨_, rfl⟩
       have HMm := Lib.hid hm
       have hmp : 0 < m := by rw [← hm]; exact List.length_pos_iff.2 hpe
       rw [hm] at hown
       obtain ⟨gv, cv3, rfl, _, hgl, hml⟩ := owns_block hown hmp
       have HPE := Lib.hid hpe
       have hmn : m ≤ n + 1 := by
        rw [← hm, ← hP]
        exact path_len _ _ _ _ _
       have hsl : Sl w3 (.slice (some ⟨gv, 0, none⟩) m cv3) 1 (P.map fun j => (nmD s j).data.toList).length ((P.map fun j => (nmD s j).data.toList).map vS) := by
        have := Sl.of_owns hown
        rw [List.length_map, hm, List.map_map]
        have e : (vS ∘ fun j => (nmD s j).data.toList) = fun j => Value.string (nmD s j) := funext fun j => by
         show vS _ = _
         unfold vS; rw [← st_of]
        rw [e]
        exact this
       have HNA := Lib.hid (named_any t x _ _ w3 hsl (by rw [List.length_map, hm]; have := HNB.out; omega))
       have kev := (Gr.trans (Gr.trans (KpR.toGr HG.out HCY.out.kp (fun x hx => by rw [List.mem_singleton.1 hx]; exact HLO.out)) HG2.out) hg3).cell HEV.out
       have hge := World.block_lt_of_cell? w3 _ kev
       clear hnil hown hpe hP hok hg3 hsl hm hmp hgl hml hmn
       go_wp2_with fail
       go_at_call 84
       (with_reducible refine HNA.out.mono ?_); rintro e w4 ⟨b4, nv4, rfl, hl4, hb4, ho4, hg4⟩
       have HB4 := Lib.hid hb4
       have HO4 := Lib.hid ho4
       have HG4 := Lib.hid hg4
       have HL4 := Lib.hid (show w.heap.size ≤ w3.heap.size from Nat.le_trans HCY.out.kp.size HG3.out.size)
       have HL5 := Lib.hid hl4
       clear hl4 hb4 ho4 hg4 kev hge
       go_wp2_with fail
       go_ret
       refine ⟨.inr ⟨k, far, b4, nv4, HKN.out, HNC.out, HOK.out, by rw [HP.out]; exact HPE.out, rfl, HB4.out, Nat.le_trans HL4.out HL5.out, own_mono (B := w3.heap.size) ?_ HL4.out⟩, kpr1 HCY.out.kp (KpR.gr (HG3.out.trans HG4.out))⟩
       have := HO4.out
       rw [HP.out]
       rw [List.length_map, List.map_map] at this
       have e : (vS ∘ fun j => (nmD s j).data.toList) = fun j => Value.string (nmD s j) := funext fun j => by
        show vS _ = _
        unfold vS; rw [← st_of]
       rw [e] at this
       exact this
     ·
      have hke : n = k := by omega
      exfalso
      obtain ⟨i, hi, hc⟩ := order_cyc (U := linksS s) (in_getD HIN.out) (by rw [HLU.out, HNL.out]; exact HLT.out)
      rw [HLU.out] at hi
      exact HNC.out i (by omega) hc
end Go.Proofs.YtkkopdmemjncdaaGreatDoor
