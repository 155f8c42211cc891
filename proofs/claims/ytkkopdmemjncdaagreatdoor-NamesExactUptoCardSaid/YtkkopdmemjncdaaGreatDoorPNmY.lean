/- Texts of mine, put together: NmY. No condition but what each says. -/
import Derived.Test.YtkkopdmemjncdaaGreatDoorPNmS
namespace Go.Proofs.YtkkopdmemjncdaaGreatDoor
open Go Go.RowKit Go.Maps
theorem spec_lens {s : Sc} (h : specC s = true) : s.modes.length ≤ 16 ∧ s.defs.length ≤ 200 ∧ s.rules.length ≤ 200 := by
 unfold specC at h
 simp only [Bool.and_eq_true, decide_eq_true_eq] at h
 exact h.1
theorem BadV.noX {w : World} {X : List Nat} {ev v : Value} {x : Nt} (h : BadV w X ev v x) : BadV w [] ev v x := by
 obtain ⟨b1, b2, nv, h1, h2, h3, h4, _, _, _⟩ := h
 exact ⟨b1, b2, nv, h1, h2, h3, h4, by simp, by simp, fun _ _ => by simp⟩
def nmsZ : Value := .agg #[.slice none 0 0, .slice none 0 0, .slice none 0 0, .slice none 0 0]
def modesM (s : Sc) : List Md := if s.modes = [] then [⟨⟨#[115, 116, 97, 114, 116]⟩, false, 0⟩] else s.modes
theorem modesM_names (s : Sc) : (modesM s).map (·.name) = modesN s := by
 unfold modesM modesN
 by_cases h : s.modes = []
 · rw [if_pos h, if_pos h]; rfl
 · rw [if_neg h, if_neg h]
theorem modesM_own {s : Sc} {k : Nat} {m : Md} (h : (modesM s)[k]? = some m) : ownM s k = m.own := by
 unfold modesM at h
 unfold ownM
 by_cases he : s.modes = []
 ·
  rw [if_pos he] at h
  rw [he]
  cases k with
  | zero => simp at h; subst h; rfl
  | succ k => simp at h
 ·
  rw [if_neg he] at h
  rw [h]
def actsR (s : Sc) : List (List (Int × Int)) := s.rules.map fun r => r.acts.map (stepA s)
inductive ResE (s : Sc) (er en ec : Value) (w : World) (e : Ending) (w' : World) : Prop
 | arg (h : specC s = false) (he : e = .returned (.tuple #[nmsZ, er]))
 | name (x : Nt) (v : Value) (h : specC s = true) (hx : worst (notes s) = some x) (hv : BadV w' [] en v x) (he : e = .returned (.tuple #[nmsZ, v]))
 | cyc (i : Nat) (far : List Int) (b : Nat) (nv : Value) (h : specC s = true) (hn : notes s = []) (hi : i < s.defs.length) (hc : ∀ y, y < i → ¬ Cyc (linksS s) y) (hf : FarOk (linksS s) i far) (hp : pathP (linksS s) far i (s.defs.length + 1) i ≠ [])
   (hb : boxAt w' b [ec, nv]) (hlb : w.heap.size ≤ b) (ho : w'.ownsRow w.heap.size 9 1 nv (pathP (linksS s) far i (s.defs.length + 1) i).length ((pathP (linksS s) far i (s.defs.length + 1) i).map fun j => .string (nmD s j)))
   (he : e = .returned (.tuple #[nmsZ, .iface 119 (.pointer (some ⟨b, 0, none⟩))]))
 | fine (B : Nat) (v0 v1 v2 v3 : Value) (vs1 vs3 : List Value) (h : specC s = true) (hn : notes s = []) (hl : (orderN (linksS s) s.defs.length []).length = s.defs.length) (hB : w.heap.size ≤ B)
   (h1 : vs1.length = (namesN s).active.length) (h3 : vs3.length = (namesN s).acts.length) (hr : Rws w' B [] (nmsRows (namesN s).modes (namesN s).active (namesN s).acts v0 v1 v3 vs1 vs3))
   (h2 : w'.ownsRow w.heap.size 3 1 v2 (namesN s).order.length ((namesN s).order.map natV)) (ha : ∀ g, v2.ownBlock = some g → g < B) (he : e = .returned (.tuple #[.agg #[v0, v1, v2, v3], .nilIface]))
def actM (s : Sc) (k : Nat) : List (List Nat) := (List.range k).map fun m => activeN s m (ownM s m)
theorem actM_snoc (s : Sc) (k : Nat) : actM s (k + 1) = actM s k ++ [activeN s k (ownM s k)] := by
 unfold actM
 rw [List.range_succ, List.map_append]; rfl
theorem modes_snoc {s : Sc} {k : Nat} {m : Md} (h : (modesM s)[k]? = some m) : (modesN s).take (k + 1) = (modesN s).take k ++ [m.name] := by
 rw [List.take_add_one, ← modesM_names, List.getElem?_map, h]; rfl
theorem new_cells2 (w : World) (o : Obj) (vs : List Value) (e : TypeId) : ∀ (j : Nat) (u : Value), vs[j]? = some u → ((w.alloc o).alloc (.cells vs.toArray e)).cell? ((⟨w.heap.size + 1, 0, none⟩ : Addr).add j) = some u := by
 have := new_cells (w.alloc o) vs e
 rwa [show (w.alloc o).heap.size = w.heap.size + 1 by simp] at this
theorem ReI.toGr {w wB wr : World} {nb : Nat} {N : List ByteArray} {A : List (List Nat)} {C : List (List (Int × Int))} {v0 v1 v2 v3 : Value} {vs1 vs3 : List Value} {E : List RwE} (h : ReI wB nb N A C v0 v1 v2 v3 vs1 vs3 E wr) (hG : Gr w wB) (hn : w.heap.size ≤ nb) : Gr w wr :=
 KpR.toGr hG h.kp (fun x hx => by rw [List.mem_singleton.1 hx]; exact hn)
set_option maxRecDepth 100000 in
set_option maxHeartbeats 16000000 in
theorem
    resolve_any
          (s : Sc) (w : World) (vm vd vr er en ec : Value) (hs : ScIn w s vm vd vr) (hA : w.cell? ⟨0, 0, none⟩ = some er) (hN : w.cell? ⟨3, 0, none⟩ = some en) (hC : w.cell? ⟨1, 0, none⟩ = some ec)
  (fA : ∃ t x, er = .iface t x) (fN : ∃ t x, en = .iface t x) (fC : ∃ t x, ec = .iface t x) (hru : ∀ d ∈ s.defs, (refsE d.ex).length ≤ 1048576) :
  Calls Tryz.prog 12 #[scV vm vd vr] w fun e w' => ResE s er en ec w e w' ∧ Gr w w' := by
 obtain ⟨iS, sI, sy0, sy1, sy2⟩ := info_parts info_strN
 obtain ⟨iR, rI, ry0, ry1, ry2⟩ := info_parts info_rowN
 obtain ⟨iT, tI, ty0, ty1, ty2⟩ := info_parts info_stepN
 obtain ⟨iU, uI, uy0, uy1, uy2⟩ := info_parts info_stepsN
 have HCK := Lib.hid (fun W (hG : Gr w W) => checkN_any s vm vd vr er W (hs.later hG) (hG.cell hA))
 have HRD := Lib.hid (fun W X fb c3 c4 c5 (h : FS w W X fb en vm vd vr c3 c4 c5 none) (hsp : specC s = true) => read_any s w W X fb en vm vd vr c3 c4 c5 h hs (by have := spec_lens hsp; omega) (by have := spec_lens hsp; omega) (by have := spec_lens hsp; omega))
 have HCY := Lib.hid (fun W fb mm md nD hG hlow hb hm hmd hR (hsp : specC s = true) => cycle_any s w W fb mm md nD ec vm vd vr hs hG hlow hb hm hmd hR (by have := spec_lens hsp; omega) hru hC fC)
 have HAC := Lib.hid (fun W fb mm nM c4 c5 bv kk hG hb hm hR (hsp : specC s = true) m own => active_any s w W fb mm nM vm vd vr c4 c5 bv kk hs hG hb hm hR (by have := spec_lens hsp; omega) m own)
 have hms := hs.modes
 have HMO := Lib.hid hs.modesO
 obtain ⟨dl, rl, hd, hr, hm, hmo, hmn, hmb, hds, hdi, hdn, hdb, hrs, hri, hrn, hrb⟩ := hs
 obtain ⟨pm, cm, evm⟩ := hm.len
 obtain ⟨pr, cr, evr⟩ := hrs.len
 obtain ⟨nm', hnm⟩ : ∃ n, s.modes.length = n := ⟨_, rfl⟩
 obtain ⟨nr, hnr⟩ : ∃ n, rl.length = n := ⟨_, rfl⟩
 have HNM := Lib.hid hnm
 have HNR := Lib.hid hnr
 rw [hnm] at evm hm
 rw [hnr] at evr hrs
 have HMS := Lib.hid hm
 have HR := Lib.hid hrs
 subst evm evr
 have HRI := Lib.hid hri
 have HHR := Lib.hid hr
 have HFN := Lib.hid (show w.cell? ⟨3, 0, none⟩ = some en ∧ ∃ t x, en = .iface t x from ⟨hN, fN⟩)
 obtain ⟨tA, xA, rfl⟩ := fA
 obtain ⟨sp, hsp⟩ : ∃ b, specC s = b := ⟨_, rfl⟩
 have HSP := Lib.hid hsp
 rw [hsp] at HCK
 unfold scV at HCK ⊢
 clear hnm hnr hms hd hr hm hmo hmn hmb hds hdi hdn hdb hrs hri hrn hrb hA hN hC fN fC hru hsp
 go_enter Tryz.func12, Tryz.ntmps12
 go_wp2_with fail
 go_at_call 41
 refine name_calls (fun W1 hW1 => ?_)
 have xs : boxAt W1 w.heap.size [.slice pm nm' cm, vd, .slice pr nr cr] := by rw [hW1]; exact (boxAt.new_atN _ _ _ rfl rfl).later (Gr.alloc _ _)
 have xn : boxAt W1 (w.heap.size + 1) [.slice none 0 0, .slice none 0 0, .slice none 0 0, .slice none 0 0] := by rw [hW1]; exact boxAt.new_atN _ _ _ rfl (by simp)
 have hg1 : Gr w W1 := by rw [hW1]; exact (Gr.alloc _ _).trans (Gr.alloc _ _)
 clear hW1
 (with_reducible refine (HCK.out W1 hg1).mono ?_); rintro e w2 ⟨rfl, hg2⟩
 have XS := Lib.hid (xs.later hg2)
 have XN := Lib.hid (xn.later hg2)
 have HG2 := Lib.hid (hg1.trans hg2)
 have HSZ := Lib.hid (show w.heap.size + 1 < w2.heap.size from by have := xn.lt (by simp); have := hg2.size; omega)
 clear xs xn hg1 hg2
 cases sp with
 |
  false =>
  rw [show chkRes false (.iface tA xA) = .iface tA xA from rfl]
  have xn := XN.out
  obtain ⟨c_n0, c_n1, c_n2, c_n3, m_n0, m_n1, m_n2, m_n3, l_n⟩ := unb4 xn
  go_wp2_with fail
  refine name_body (fun W hW => ?_)
  have hgW : Gr w W := by
   rw [hW]
   exact (show Gr w ((((w2.setCell ⟨w.heap.size + 1, 0, none⟩ _).setCell ⟨w.heap.size + 1, 1, none⟩ _).setCell ⟨w.heap.size + 1, 2, none⟩ _).setCell ⟨w.heap.size + 1, 3, none⟩ _) from Below.setCell (Below.setCell (Below.setCell (Below.setCell HG2.out (Nat.le_succ _) _) (Nat.le_succ _) _) (Nat.le_succ _) _) (Nat.le_succ _) _)
  have xz : boxAt W (w.heap.size + 1) [.slice none 0 0, .slice none 0 0, .slice none 0 0, .slice none 0 0] := by
   rw [hW]; exact (((xn.put 0 _ (by simp)).put 1 _ (by simp)).put 2 _ (by simp)).put 3 _ (by simp)
  have HGW := Lib.hid hgW
  clear c_n0 c_n1 c_n2 c_n3 m_n0 m_n1 m_n2 m_n3 l_n
  clear hW hgW xn
  obtain ⟨c_z0, c_z1, c_z2, c_z3, m_z0, m_z1, m_z2, m_z3, l_z⟩ := unb4 xz
  refine bodyPost_ret (v := .tuple #[nmsZ, .iface tA xA]) (by simp [results, Tryz.results12, nmsZ, go_sem, c_z0, c_z1, c_z2, c_z3]) rfl ⟨.arg HSP.out rfl, HGW.out⟩
 |
  true =>
  rw [show chkRes true (.iface tA xA) = .nilIface from rfl]
  have xs := XS.out
  obtain ⟨c_s0, c_s1, c_s2, m_s0, m_s1, m_s2, l_s⟩ := unb3 xs
  go_wp2_with fail
  go_at_call 42
  refine name_calls (fun W3 hW3 => ?_)
  have xf : boxAt W3 w2.heap.size [.slice pm nm' cm, vd, .slice pr nr cr, .map none, .map none, .slice none 0 0, .nilIface, .int .i64 0] := by rw [hW3]; exact boxAt.new_atN _ _ _ rfl rfl
  have hg3 : Gr w2 W3 := by rw [hW3]; exact Gr.alloc _ _
  obtain ⟨fb, hfb⟩ : ∃ b, w2.heap.size = b := ⟨_, rfl⟩
  have hfw : w.heap.size + 1 < fb := by have := HSZ.out; omega
  rw [hfb] at xf
  simp only [hfb]
  have HFW := Lib.hid hfw
  have XS3 := Lib.hid (XS.out.later hg3)
  have XN3 := Lib.hid (XN.out.later hg3)
  have HG3 := Lib.hid (HG2.out.trans hg3)
  have hF0 : FS w W3 [fb, w.heap.size + 1] fb en (.slice pm nm' cm) vd (.slice pr nr cr) (.map none) (.map none) (.slice none 0 0) none := ⟨HG3.out, fun x hx => by
   rcases List.mem_cons.1 hx with rfl | hx
   · exact ⟨by omega, xf.lt (by simp)⟩
   · rw [List.mem_singleton.1 hx]; exact ⟨by omega, XN3.out.lt (by simp)⟩, by simp, HFN.out.1, HFN.out.2, .nilIface, 0, xf, rfl, rfl⟩
  have HRD3 := Lib.hid (HRD.out W3 [fb, w.heap.size + 1] fb _ _ _ hF0 HSP.out)
  clear c_s0 c_s1 c_s2 m_s0 m_s1 m_s2 l_s
  clear hW3 xf hg3 hF0 hfb hfw xs HRD HCK
  (with_reducible refine HRD3.out.mono ?_); rintro e w4 ⟨rfl, ⟨mm, md, tb, qa, hrd, hk4⟩⟩
  have HR4 := Lib.hid hrd
  have HK4 := Lib.hid hk4
  have HG4 := Lib.hid (show Gr w w4 from KpR.toGr HG3.out hk4 (fun x hx => by rw [List.mem_singleton.1 hx]; have := HFW.out; omega))
  have XS4 := Lib.hid (hk4.box XS3.out (fun hm => by have := List.mem_singleton.1 hm; have := HFW.out; omega) (by simp))
  have XN4 := Lib.hid (hk4.box XN3.out (fun hm => by have := List.mem_singleton.1 hm; have := HFW.out; omega) (by simp))
  obtain ⟨bv, kk, xf4, hbad⟩ := hrd.fs.box
  cases hws : worst (notes s) with
  |
   some x =>
   rw [hws] at hbad
   have HBAD := Lib.hid (show BadV w4 [fb, w.heap.size + 1] en bv x from hbad.1)
   obtain ⟨b2, rfl⟩ : ∃ b2, bv = .iface 119 (.pointer (some ⟨b2, 0, none⟩)) := by
    obtain ⟨b1, b2, nv, h, _⟩ := hbad.1
    exact ⟨b2, h⟩
   have HX := Lib.hid hws
   have NFB := Lib.hid (show fb ∉ [w.heap.size + 1] from fun hm => by have := List.mem_singleton.1 hm; have := HFW.out; omega)
   have hgf := xf4
   clear hbad hws hrd hk4 HRD3
   obtain ⟨c_f0, c_f1, c_f2, c_f3, c_f4, c_f5, c_f6, c_f7, m_f0, m_f1, m_f2, m_f3, m_f4, m_f5, m_f6, m_f7, l_f⟩ := unb8 xf4
   go_upto_region 7 with fail
   refine wp_region_S (KpR [w.heap.size + 1] w4) (.take 0 (.take 1 (.take 2 (.take 3 (.take 4 (.run 5 false (.run 6 true .nil))))))) (KpR.gr (Gr.drew w4)) (by kernel_rfl) (by kernel_rfl) ?_
   simp only [pickOps, nthOp]
   intro wq hN hG
   repeat (first | (refine wpG_skip_take ?_ ?_; (focus rfl); try simp only [Act.put, List.setIfInBounds_toArray, List.set_cons_zero, List.set_cons_succ]) | (refine wpG_skip_run ?_ ?_; (focus rfl); try simp only [Act.put, List.setIfInBounds_toArray, List.set_cons_zero, List.set_cons_succ]) | (refine wpG_take ?_ ?_; (focus rfl); apply Exists.intro; refine ⟨fun w' hw' => ?_, ?_⟩; (focus (have zf := (hw'.box hgf NFB.out (by simp)).cell 6 _ rfl; go_simp; (try rfl); done)); try simp only [Act.put, List.setIfInBounds_toArray, List.set_cons_zero, List.set_cons_succ]))
   have xn := XN4.out.later hN
   obtain ⟨c_n0, c_n1, c_n2, c_n3, m_n0, m_n1, m_n2, m_n3, l_n⟩ := unb4 xn
   refine wpG_run ?_ (fun K hK => ?_)
   focus rfl
   go_simp
   refine hK.out _ _ ((((hG.put (.inr (by simp)) _).put (.inr (by simp)) _).put (.inr (by simp)) _).put (.inr (by simp)) _) ?_
   clear hK K
   (try simp only [Act.put, List.setIfInBounds_toArray, List.set_cons_zero, List.set_cons_succ])
   refine wpG_last ?_ (fun K hK => ?_)
   focus rfl
   go_simp
   refine hK.out _ _ ?_
   clear hK K
   (try simp only [Act.put, List.setIfInBounds_toArray, List.set_cons_zero, List.set_cons_succ])
   refine wpG_done ?_
   refine name_Q (fun V hV => ?_)
   have hkv : KpR [w.heap.size + 1] w4 V := by rw [hV]; exact (((((KpR.gr hN).put (.inr (by simp)) _).put (.inr (by simp)) _).put (.inr (by simp)) _).put (.inr (by simp)) _)
   have xz : boxAt V (w.heap.size + 1) [.slice none 0 0, .slice none 0 0, .slice none 0 0, .slice none 0 0] := by
    rw [hV]; exact (((xn.put 0 _ (by simp)).put 1 _ (by simp)).put 2 _ (by simp)).put 3 _ (by simp)
   have HGV := Lib.hid (KpR.toGr HG4.out hkv (fun x hx => by rw [List.mem_singleton.1 hx]; exact Nat.le_succ _))
   have HBV := Lib.hid (show BadV V [] en (.iface 119 (.pointer (some ⟨b2, 0, none⟩))) x from (HBAD.out.keep (fun k hk hn => hkv.block k hk (fun hm => hn (List.mem_cons_of_mem _ hm)))).noX)
   clear c_f0 c_f1 c_f2 c_f3 c_f4 c_f5 c_f6 c_f7 m_f0 m_f1 m_f2 m_f3 m_f4 m_f5 m_f6 m_f7 l_f
   clear c_n0 c_n1 c_n2 c_n3 m_n0 m_n1 m_n2 m_n3 l_n
   clear hV hkv hG hN xn hgf xf4
   obtain ⟨c_z0, c_z1, c_z2, c_z3, m_z0, m_z1, m_z2, m_z3, l_z⟩ := unb4 xz
   go_step
   go_wp2_with fail
   refine bodyPost_ret (v := .tuple #[nmsZ, .iface 119 (.pointer (some ⟨b2, 0, none⟩))]) (by simp [results, Tryz.results12, nmsZ, go_sem, c_z0, c_z1, c_z2, c_z3]) rfl ⟨.name x _ HSP.out HX.out HBV.out rfl, HGV.out⟩
  |
   none =>
   rw [hws] at hbad
   obtain ⟨rfl, rfl⟩ := hbad
   have HNO := Lib.hid (worst_none.1 hws)
   have HRT := Lib.hid (right_of HNO.out)
   obtain ⟨nD, hdm⟩ := hrd.dmap
   have HCY4 := Lib.hid (HCY.out w4 fb mm md nD HG4.out (by have := HFW.out; omega) xf4 hdm hrd.n2 HRT.out HSP.out)
   obtain ⟨c_f0, c_f1, c_f2, c_f3, c_f4, c_f5, c_f6, c_f7, m_f0, m_f1, m_f2, m_f3, m_f4, m_f5, m_f6, m_f7, l_f⟩ := unb8 xf4
   clear hws hdm hk4 hrd HRD3
   go_wp2_with fail
   go_at_call 43
   (with_reducible refine HCY4.out.mono ?_); rintro e w5 ⟨hcy, hk5⟩
   clear c_f0 c_f1 c_f2 c_f3 c_f4 c_f5 c_f6 c_f7 m_f0 m_f1 m_f2 m_f3 m_f4 m_f5 m_f6 m_f7 l_f
   clear xf4 HCY4
   have XN5 := Lib.hid (hk5.box XN4.out (fun hm => by have := List.mem_singleton.1 hm; have := HFW.out; omega) (by simp))
   have XS5 := Lib.hid (hk5.box XS4.out (fun hm => by have := List.mem_singleton.1 hm; have := HFW.out; omega) (by simp))
   have HG5 := Lib.hid (KpR.toGr HG4.out hk5 (fun x hx => by rw [List.mem_singleton.1 hx]; have := HFW.out; omega))
   have L4 := Lib.hid (show w.heap.size + 1 < w4.heap.size from XN4.out.lt (by simp))
   rcases hcy with ⟨hl, rfl, v, hbx, hrows⟩ | ⟨i, far, b, nv, hi, hnc, hfok, hp, rfl, hbb, hlb, hro⟩
   rotate_left
   ·
    have HI := Lib.hid hi
    have HNC := Lib.hid hnc
    have HFO := Lib.hid hfok
    have HP := Lib.hid hp
    have HBB := Lib.hid hbb
    have HLB := Lib.hid hlb
    have HRO := Lib.hid hro
    have xn := XN5.out
    obtain ⟨c_n0, c_n1, c_n2, c_n3, m_n0, m_n1, m_n2, m_n3, l_n⟩ := unb4 xn
    clear hi hnc hfok hp hbb hlb hro hk5
    go_wp2_with fail
    refine name_body (fun W hW => ?_)
    have hgW : Gr w W := by
     rw [hW]
     exact (show Gr w ((((w5.setCell ⟨w.heap.size + 1, 0, none⟩ _).setCell ⟨w.heap.size + 1, 1, none⟩ _).setCell ⟨w.heap.size + 1, 2, none⟩ _).setCell ⟨w.heap.size + 1, 3, none⟩ _) from Below.setCell (Below.setCell (Below.setCell (Below.setCell HG5.out (Nat.le_succ _) _) (Nat.le_succ _) _) (Nat.le_succ _) _) (Nat.le_succ _) _)
    have xz : boxAt W (w.heap.size + 1) [.slice none 0 0, .slice none 0 0, .slice none 0 0, .slice none 0 0] := by
     rw [hW]; exact (((xn.put 0 _ (by simp)).put 1 _ (by simp)).put 2 _ (by simp)).put 3 _ (by simp)
    have hkw : KpR [w.heap.size + 1] w5 W := by rw [hW]; exact ((((KpR.refl _ _).put (.inr (by simp)) _).put (.inr (by simp)) _).put (.inr (by simp)) _).put (.inr (by simp)) _
    have HBW := Lib.hid (hkw.box HBB.out (fun hm => by have := List.mem_singleton.1 hm; have := HLB.out; have := L4.out; omega) (by simp))
    have HOW := Lib.hid (owns_heap HRO.out (fun g hg => hkw.block g (World.ownsRow.lt HRO.out g hg).2 (fun hm => by have := List.mem_singleton.1 hm; have := (World.ownsRow.lt HRO.out g hg).1; have := L4.out; omega)))
    have HGW := Lib.hid hgW
    clear c_n0 c_n1 c_n2 c_n3 m_n0 m_n1 m_n2 m_n3 l_n
    clear hW hgW xn hkw
    obtain ⟨c_z0, c_z1, c_z2, c_z3, m_z0, m_z1, m_z2, m_z3, l_z⟩ := unb4 xz
    refine bodyPost_ret (v := .tuple #[nmsZ, .iface 119 (.pointer (some ⟨b, 0, none⟩))]) (by simp [results, Tryz.results12, nmsZ, go_sem, c_z0, c_z1, c_z2, c_z3]) rfl ⟨.cyc i far b nv HSP.out HNO.out HI.out HNC.out HFO.out HP.out HBW.out (Nat.le_trans (by have := L4.out; omega) HLB.out) (own_mono HOW.out (by have := L4.out; omega)) rfl, HGW.out⟩
   obtain ⟨nM, hmm4⟩ := HR4.out.mmap
   have HMM5 := Lib.hid (hmm4.heap (hk5.block _ hmm4.lt (fun hm => HR4.out.n1 (List.mem_singleton.1 hm))))
   have HOL := Lib.hid hl
   have HBX := Lib.hid hbx
   have hlu : (linksS s).length = s.defs.length := linksS_len s
   have HOC := Lib.hid (order_any w5 fb _ _ _ _ _ _ _ _ (linksS s) hbx hrows (by rw [hlu]; have := spec_lens HSP.out; omega) (fun i r h => linksS_in HRT.out h))
   rw [hlu, hl] at HOC
   obtain ⟨dn, hdn⟩ : ∃ d, s.defs.length = d := ⟨_, rfl⟩
   rw [hdn] at HOC
   have HDN := Lib.hid hdn
   clear hmm4 hl hbx hrows hk5 hlu hdn
   go_wp2_with fail
   go_at_call 44
   (with_reducible refine HOC.out.mono ?_); rintro e w6 ⟨v2, rfl, ho2, hg6⟩
   obtain ⟨p2, c2, rfl⟩ := (Sl.of_owns ho2).len
   have HO2 := Lib.hid ho2
   have HG6 := Lib.hid hg6
   have xs := XS5.out.later hg6
   obtain ⟨c_s0, c_s1, c_s2, m_s0, m_s1, m_s2, l_s⟩ := unb3 xs
   clear ho2 hg6 HOC
   go_upto_if 50 with fail
   refine name_world (fun w7 hW7 => ?_)
   have xnb : boxAt w7 w6.heap.size [.slice none 0 0, .slice none 0 0, .slice p2 dn c2, .slice none 0 0] := by rw [hW7]; exact boxAt.new_atN _ _ _ rfl rfl
   have hg7 : Gr w6 w7 := by rw [hW7]; exact Gr.alloc _ _
   have XNB := Lib.hid xnb
   have HG7 := Lib.hid hg7
   have HW7 := Lib.hid (show w7.heap.size = w6.heap.size + 1 by rw [hW7]; simp)
   obtain ⟨nb, hnb⟩ : ∃ b, w6.heap.size = b := ⟨_, rfl⟩
   have HNB := Lib.hid hnb
   rw [hnb] at XNB HW7
   simp only [hnb]
   have HMN := Lib.hid (show (modesM s).length = (modesN s).length by rw [← modesM_names, List.length_map])
   obtain ⟨n8, hn8⟩ : ∃ n, (modesM s).length = n := ⟨_, rfl⟩
   have HN8 := Lib.hid hn8
   clear c_s0 c_s1 c_s2 m_s0 m_s1 m_s2 l_s
   clear hW7 xnb hg7 hnb hn8 xs
   go_cut [8] from 51 to 52 (fun v8 wx => ∃ (p8 : Option Addr) (c8 : Nat), v8 = .slice p8 n8 c8 ∧ Hid (Gr w7 wx) ∧ Hid (Sl wx (.slice p8 n8 c8) 3 n8 ((modesM s).flatMap mdC)) ∧ Hid (∀ b off, p8 = some ⟨b, off, none⟩ → b ≠ nb))
   case first =>
    by_cases hz : nm' = 0
    ·
     have hzI : ((nm' : Int) == 0) = true := by rw [hz]; rfl
     have hnil : s.modes = [] := List.eq_nil_of_length_eq_zero (HNM.out.trans hz)
     have HMD := Lib.hid (show modesM s = [⟨⟨#[115, 116, 97, 114, 116]⟩, false, 0⟩] by unfold modesM; rw [if_pos hnil])
     have h81 : n8 = 1 := by rw [← HN8.out, HMD.out]; rfl
     subst h81
     clear hz hnil
     go_wp2_with fail
     go_meet
     case rel => exact ⟨_, _, rfl, Lib.hid (Gr.alloc _ _), Lib.hid (by
      rw [HMD.out]
      refine ⟨rfl, (show (1 : Nat) ≤ maxLen by decide), .inr ⟨w7.heap.size, 0, 1, rfl, fun _ => by simp, fun j u hj => ?_⟩⟩
      rw [Nat.zero_add]
      exact (boxAt.new_atN [.string ⟨#[115, 116, 97, 114, 116]⟩, .bool false, .int .i64 0] _ _ rfl rfl).cell j u hj), Lib.hid (fun b off e => by
       injection e with e; injection e with e _; have := HW7.out; omega)⟩
    ·
     have hzI : ((nm' : Int) == 0) = false := by rw [beq_eq_false_iff_ne]; omega
     have HMD := Lib.hid (show modesM s = s.modes by unfold modesM; rw [if_neg (fun h => by have := HNM.out; rw [h] at this; simp at this; omega)])
     have h81 : n8 = nm' := by rw [← HN8.out, HMD.out]; exact HNM.out
     subst h81
     have HZ := Lib.hid hz
     clear hz
     go_wp2_with fail
     go_meet
     case rel => exact ⟨_, _, rfl, Lib.hid (Gr.refl _), Lib.hid (by rw [HMD.out]; exact HMS.out.later ((HG5.out.trans HG6.out).trans HG7.out)), Lib.hid (fun b off e => by
       have := HNB.out
       have h5 := HG5.out.size
       have h6 := HG6.out.size
       obtain ⟨_, _, ⟨_, h0⟩ | ⟨b', off', cap, hv, hb, hc⟩⟩ := HMS.out
       · exact absurd h0 HZ.out
       ·
        injection hv with hv
        rw [e] at hv
        injection hv with hv
        injection hv with hv
        have := hb HZ.out
        omega)⟩
   case rest =>
   obtain ⟨p8, c8, rfl, HGB, HMS8, HNE8⟩ := hcut
   have HGW := Lib.hid (((HG5.out.trans HG6.out).trans HG7.out).trans HGB.out)
   have HKB := Lib.hid (Gr.trans (HG6.out.trans HG7.out) HGB.out)
   have XNC := Lib.hid (XNB.out.later HGB.out)
   have XF := Lib.hid (HBX.out.later HKB.out)
   have MMB := Lib.hid (HMM5.out.later HKB.out)
   have XSB := Lib.hid (XS5.out.later HKB.out)
   have XRB := Lib.hid (XN5.out.later HKB.out)
   have HO2B := Lib.hid (owns_later HO2.out (HG7.out.trans HGB.out))
   have HMM8 := Lib.hid (show mm ≠ nb from fun e => by have := HMM5.out.lt; have := HG6.out.size; have := HNB.out; omega)
   have HFN := Lib.hid (show fb ≠ nb from fun e => by have := HBX.out.lt (by simp); have := HG6.out.size; have := HNB.out; omega)
   have HLN := Lib.hid (show w.heap.size + 1 < nb by have := XN5.out.lt (by simp); have := HG6.out.size; have := HNB.out; omega)
   have HB0 := Lib.hid (show ReI wc nb [] [] [] (.slice none 0 0) (.slice none 0 0) (.slice p2 dn c2) (.slice none 0 0) [] [] [] wc from
    ⟨XNC.out, rfl, rfl, by
     have := ((((Rws.nilX wc wc.heap.size [nb]).push 9 1).push 32 1).push 81 1)
     simpa [nmsRows, rowsE, stepsE] using this, KpR.refl _ _, XNC.out.lt (by simp)⟩)
   have HN16 := Lib.hid (show n8 ≤ 16 from by
    rw [← HN8.out]
    unfold modesM
    by_cases h : s.modes = []
    · rw [if_pos h]; simp
    · rw [if_neg h]; exact (spec_lens HSP.out).1)
   have hn16 : (n8 : Int) ≤ 16 := by have := HN16.out; omega
   have HG5S := Lib.hid (show w.heap.size + 1 < w5.heap.size from XN5.out.lt (by simp))
   clear XNB HBX HMM5 XS5 XN5 XNC HG5 HG6 HG7 HGB HMS XS4 XN4 XS3 XN3 XS XN HG3 HG4 HK4 HR4 HG2
   go_wp2_with fail
   go_loopw [55] (fun i wr => ∃ k : Nat, k ≤ n8 ∧ i = .int .i64 (k : Int) ∧ ∃ v0 v1 vs1, Hid (ReI wc nb ((modesN s).take k) (actM s k) [] v0 v1 (.slice p2 dn c2) (.slice none 0 0) vs1 [] [] wr)) (fun i _ => n8 - (intOf i).toNat)
   case atStart => exact ⟨0, Nat.zero_le _, rfl, _, _, _, by simpa [actM] using HB0⟩
   case round =>
    clear HB0
    obtain ⟨k, hk, rfl, v0, v1, vs1, HRE⟩ := hrel
    rcases Nat.lt_or_ge k n8 with hkn | hkn
    ·
     have hkI : (k : Int) < (n8 : Int) := by omega
     have HKN := Lib.hid hkn
     obtain ⟨m, hx⟩ : ∃ x, (modesM s)[k]? = some x := ⟨_, List.getElem?_eq_getElem (by rw [HN8.out]; exact hkn)⟩
     have hS := HMS8.out
     rw [← HN8.out] at hS
     obtain ⟨b8, o8, hp8, hb8, hc8⟩ := mode_at hS hx
     have hne8 := HNE8.out b8 o8 hp8
     have HSN := Lib.hid (modes_snoc hx)
     have HOWN := Lib.hid (modesM_own hx)
     obtain ⟨nmx, ow, po⟩ := m
     subst hp8
     have k0 := HRE.out.kp.cell (hc8 0 _ rfl) (fun hm => hne8 (List.mem_singleton.1 hm))
     have k1 := HRE.out.kp.cell (hc8 1 _ rfl) (fun hm => hne8 (List.mem_singleton.1 hm))
     have k2 := HRE.out.kp.cell (hc8 2 _ rfl) (fun hm => hne8 (List.mem_singleton.1 hm))
     simp only [Nat.add_zero] at k0
     have hbr := Nat.lt_of_lt_of_le hb8 HRE.out.kp.size
     obtain ⟨N, hN⟩ : ∃ N, (modesN s).take k = N := ⟨_, rfl⟩
     rw [hN] at HRE HSN
     dsimp only at HSN HOWN
     have hNk : N.length ≤ k := by rw [← hN, List.length_take]; exact Nat.min_le_left _ _
     obtain ⟨A, hA⟩ : ∃ A, actM s k = A := ⟨_, rfl⟩
     have hAk : A.length = k := by rw [← hA]; unfold actM; simp
     rw [hA] at HRE
     have HAS := Lib.hid (show actM s (k + 1) = A ++ [activeN s k (ownM s k)] by rw [actM_snoc, hA])
     obtain ⟨nl, hnl⟩ : ∃ l, N.length = l := ⟨_, rfl⟩
     have HNLN := Lib.hid hnl
     have HNLB := Lib.hid (show nl ≤ k from hnl ▸ hNk)
     have HAK := Lib.hid hAk
     have hrow0 := HRE.out.row (r := ⟨v0, 9, 1, N.length, N.map .string⟩) (by simp [nmsRows])
     dsimp only at hrow0
     rw [hnl] at hrow0
     obtain ⟨p0, c0, rfl⟩ := (Sl.of_owns hrow0).len
     have HROW0 := Lib.hid hrow0
     have hne0 := HRE.out.ne (r := ⟨.slice p0 nl c0, 9, 1, N.length, N.map .string⟩) (by simp [nmsRows])
     have HNE0 := Lib.hid hne0
     have HLT0 := Lib.hid (fun g (hg : (Value.slice p0 nl c0).ownBlock = some g) => (World.ownsRow.lt hrow0 g hg).2)
     have xb := HRE.out.box
     obtain ⟨c_b0, c_b1, c_b2, c_b3, m_b0, m_b1, m_b2, m_b3, l_b⟩ := unb4 xb
     clear hx hS hc8 hne8 hb8 hk hkn hN hNk hA hAk hnl hrow0 hne0
     go_wp2_with (at_builtin; refine wpList_append_own_at _ rfl (.tmp 61) (.tmp 64) 30 rfl wc.heap.size 9 iS (.string ⟨#[]⟩) 1 16 Tryz.underlying30 sI sy0 sy1 sy2 rfl (by decide) _ nl (N.map .string) rfl ((HROW0.out.alloc _).alloc _) ⟨wr.heap.size + 1, 0, none⟩ 1 1 [.string nmx] rfl rfl (new_cells2 _ _ _ _) (by intro u hu; simp at hu; subst hu; rfl) (by have := HNLB.out; have := HKN.out; have := HN16.out; unfold maxLen; omega) (by have := HNLB.out; have := HKN.out; have := HN16.out; omega) (Nat.le_trans HRE.out.kp.size (Nat.le_trans (Gr.alloc _ _).size (Gr.alloc _ _).size)) ?_; intro v' w4 hown4 hg4 _ hloc; obtain ⟨p4, c4', rfl⟩ := (Sl.of_owns hown4).len; have HOW4 := Lib.hid hown4; have HG4 := Lib.hid hg4; have HLOC := Lib.hid hloc; have yb := ((xb.later (Gr.alloc _ _)).later (Gr.alloc _ _)).grown hg4 (by simp) (HNE0.out); have q0 := yb.cell 0 _ rfl; have r0 := yb.mark 0 _ rfl; have ql := yb.lt (Nat.succ_pos _); clear hown4 hg4 hloc)
     refine name_world (fun Wn hWn => ?_)
     have HRE1 := Lib.hid (show ReI wc nb (N ++ [nmx]) A [] (.slice p4 (nl + 1) c4') v1 (.slice p2 dn c2) (.slice none 0 0) vs1 [] [] Wn by
      have h5 := (HRE.out.later (Gr.alloc wr (.cells #[.string nmx, .bool ow, .int .i64 po] 75))).later (Gr.alloc _ (.cells #[.string nmx] 9))
      rw [hWn]
      exact ReI.name h5 nmx HG4.out (by rw [HNLN.out]; exact HOW4.out) HLOC.out)
     have xe : boxAt Wn wr.heap.size [.string nmx, .bool ow, .int .i64 po] := by
      rw [hWn]
      exact (((boxAt.new_atN _ _ _ rfl rfl).later (Gr.alloc _ _)).grown HG4.out (by simp) (fun e => by have := HLT0.out _ e; omega)).far ⟨nb, 0, none⟩ _ (show nb ≠ wr.heap.size by omega)
     have hrow1 := HRE.out.row (r := ⟨v1, 32, 1, A.length, vs1⟩) (by simp [nmsRows])
     dsimp only at hrow1
     rw [HAK.out] at hrow1
     obtain ⟨p1, c1, rfl⟩ := (Sl.of_owns hrow1).len
     have N2 := Lib.hid (show wr.heap.size ∉ (Value.slice p1 k c1).ownBlock.toList from fun hm => by
      have := (World.ownsRow.lt hrow1 wr.heap.size (by simpa using hm)).2
      omega)
     have N1 := Lib.hid (show nb ∉ (Value.slice p1 k c1).ownBlock.toList from fun hm => HRE1.out.ne (r := ⟨.slice p1 k c1, 32, 1, A.length, vs1⟩) (by simp [nmsRows]) (by simpa using hm))
     have HROW1 := Lib.hid (show Wn.ownsRow wc.heap.size 32 1 (.slice p1 k c1) k vs1 from by
      have := HRE1.out.row (r := ⟨.slice p1 k c1, 32, 1, A.length, vs1⟩) (by simp [nmsRows])
      dsimp only at this
      rw [HAK.out] at this
      exact this)
     have xn1 := HRE1.out.box
     have HGN := Lib.hid (HRE1.out.toGr HGW.out (by have := HLN.out; omega))
     have HAC1 := Lib.hid (fun (wq : World) (hN : Gr Wn wq) => HAC.out wq fb mm nM _ _ _ _ (HGN.out.trans hN) ((HRE1.out.kp.box XF.out (fun hm => HFN.out (List.mem_singleton.1 hm)) (by simp)).later hN) ((MMB.out.heap (HRE1.out.kp.block _ MMB.out.lt (fun hm => HMM8.out (List.mem_singleton.1 hm)))).later hN) HRT.out HSP.out k ow)
     obtain ⟨R, hR⟩ : ∃ R, activeN s k ow = R := ⟨_, rfl⟩
     rw [hR] at HAC1
     have HRR := Lib.hid hR
     clear c_b0 c_b1 c_b2 c_b3 m_b0 m_b1 m_b2 m_b3 l_b
     clear hWn hrow1 xb q0 r0 ql k0 k1 k2 hbr yb hR HG4 HOW4 HLOC HROW0 HNE0 HLT0
     refine wp_region_S (KpR (Value.slice p1 k c1).ownBlock.toList Wn) (.take 0 (.take 1 (.take 2 (.take 3 (.take 4 (.take 5 (.run 6 false (.run 7 false (.run 8 false (.take 9 (.run 10 true .nil))))))))))) (KpR.gr (Gr.drew Wn)) (by kernel_rfl) (by kernel_rfl) ?_
     simp only [pickOps, nthOp]
     intro wq hN hG
     repeat (first | (refine wpG_skip_take ?_ ?_; (focus rfl); try simp only [Act.put, List.setIfInBounds_toArray, List.set_cons_zero, List.set_cons_succ]) | (refine wpG_skip_run ?_ ?_; (focus rfl); try simp only [Act.put, List.setIfInBounds_toArray, List.set_cons_zero, List.set_cons_succ]) | (refine wpG_take ?_ ?_; (focus rfl); apply Exists.intro; refine ⟨fun w' hw' => ?_, ?_⟩; (focus (have zn := (hw'.box xn1 N1.out (by simp)).cell 1 _ rfl; have ze := (hw'.box xe N2.out (by simp)).cell 1 _ rfl; go_simp; (try rfl); done)); try simp only [Act.put, List.setIfInBounds_toArray, List.set_cons_zero, List.set_cons_succ]))
     refine wpG_run ?_ (fun K hK => ?_)
     focus rfl
     go_simp
     go_at_call 45
     (with_reducible refine (HAC1.out wq hN).mono ?_); rintro e wu ⟨vu, rfl, hou, hgu⟩
     obtain ⟨pu, cu, rfl⟩ := (Sl.of_owns hou).len
     (try dsimp only)
     replace hG := hG.trans (KpR.gr (R := []) hgu) (fun x hx => by cases hx)
     refine hK.out _ _ hG ?_
     clear hK K
     (try simp only [Act.put, List.setIfInBounds_toArray, List.set_cons_zero, List.set_cons_succ])
     refine wpG_run ?_ (fun K hK => ?_)
     focus rfl
     go_simp
     refine hK.out _ _ (hG.trans (KpR.gr (R := []) (Gr.alloc _ _)) (fun x hx => by cases hx)) ?_
     clear hK K
     (try simp only [Act.put, List.setIfInBounds_toArray, List.set_cons_zero, List.set_cons_succ])
     refine wpG_run ?_ (fun K hK => ?_)
     focus rfl
     refine wp_append_at _ (.tmp 68) (.tmp 74) 31 rfl wc.heap.size 32 iR (.slice none 0 0) 1 24 Tryz.underlying31 rI ry0 ry1 ry2 rfl (by decide) _ k vs1 rfl (owns_later HROW1.out (hN.trans (hgu.trans (Gr.alloc _ _)))) ⟨wu.heap.size, 0, none⟩ 1 1 [.slice pu R.length cu] rfl rfl (new_cells _ _ _) (by intro u hu; simp at hu; subst hu; rfl) (by have := HKN.out; have := HN16.out; unfold maxLen; omega) (by have := HKN.out; have := HN16.out; omega) (Nat.le_trans HRE1.out.kp.size (hN.trans (hgu.trans (Gr.alloc _ _))).size) ?_
     intro v6 w6' ho6 hg6 hloc6
     obtain ⟨p6, c6, rfl⟩ := (Sl.of_owns ho6).len
     have xn6 := (((xn1.later hN).later hgu).later (Gr.alloc _ (.cells #[.slice pu R.length cu] 32))).grown hg6 (by simp) (fun e => N1.out (by rw [show (Value.slice p1 k c1).ownBlock = some nb from e]; simp))
     have HRE6 := Lib.hid (ReI.act (row := R) (((HRE1.out.later hN).fresh hgu hou).later (Gr.alloc wu (.cells #[.slice pu R.length cu] 32))) hg6 (by rw [HAK.out]; exact ho6) hloc6)
     refine hK.out _ _ ((hG.trans (KpR.gr (R := []) (Gr.alloc _ _)) (fun x hx => by cases hx)).grown hg6 (fun g hg => .inr (by rw [show (Value.slice p1 k c1).ownBlock = some g from hg]; simp))) ?_
     clear hK K
     (try simp only [Act.put, List.setIfInBounds_toArray, List.set_cons_zero, List.set_cons_succ])
     repeat (first | (refine wpG_skip_take ?_ ?_; (focus rfl); try simp only [Act.put, List.setIfInBounds_toArray, List.set_cons_zero, List.set_cons_succ]) | (refine wpG_skip_run ?_ ?_; (focus rfl); try simp only [Act.put, List.setIfInBounds_toArray, List.set_cons_zero, List.set_cons_succ]) | (refine wpG_take ?_ ?_; (focus rfl); apply Exists.intro; refine ⟨fun w' hw' => ?_, ?_⟩; (focus (skip; go_simp; (try rfl); done)); try simp only [Act.put, List.setIfInBounds_toArray, List.set_cons_zero, List.set_cons_succ]))
     have z0 := xn6.cell 1 _ rfl
     have m0 := xn6.mark 1 _ rfl
     have l0 := xn6.lt (Nat.succ_pos _)
     refine wpG_last ?_ (fun K hK => ?_)
     focus rfl
     go_simp
     refine hK.out _ _ ?_
     clear hK K z0 m0 l0
     (try simp only [Act.put, List.setIfInBounds_toArray, List.set_cons_zero, List.set_cons_succ])
     refine wpG_done ?_
     refine name_Q (fun V hV => ?_)
     have HREV := Lib.hid (show ReI wc nb ((modesN s).take (k + 1)) (actM s (k + 1)) [] (.slice p4 (nl + 1) c4') (.slice p6 (k + 1) c6) (.slice p2 dn c2) (.slice none 0 0) (vs1 ++ [.slice pu R.length cu]) [] [] V by
      rw [hV, HSN.out, HAS.out, HOWN.out, HRR.out]
      exact HRE6.out)
     clear hV hN hG hou hgu ho6 hg6 hloc6 xn6 HRE6 xe xn1 HAC1
     go_step
     go_wp2_with fail
     go_roundw
     case rel => exact ⟨k + 1, HKN.out, by go_num, _, _, _, HREV⟩
     case measure => have := HKN.out; simp [intOf]; omega
    ·
     have hkI : ¬ (k : Int) < (n8 : Int) := by omega
     have hke : k = n8 := by omega
     have HR1 := Lib.hid (show ReI wc nb (modesN s) (actM s n8) [] v0 v1 (.slice p2 dn c2) (.slice none 0 0) vs1 [] [] wr by
      have := HRE.out
      rw [hke, List.take_of_length_le (by rw [← HMN.out, HN8.out]; exact Nat.le_refl _)] at this
      exact this)
     have xs := HR1.out.kp.box XSB.out (fun hm => by have := List.mem_singleton.1 hm; have := HLN.out; omega) (by simp)
     obtain ⟨c_s0, c_s1, c_s2, m_s0, m_s1, m_s2, l_s⟩ := unb3 xs
     clear hk hkn HRE hke
     go_wp2_with fail
     clear c_s0 c_s1 c_s2 m_s0 m_s1 m_s2 l_s
     clear xs
     go_loopw [81] (fun i wr => ∃ k : Nat, k ≤ nr ∧ i = .int .i64 (k : Int) ∧ ∃ v3 vs3, Hid (ReI wc nb (modesN s) (actM s n8) ((actsR s).take k) v0 v1 (.slice p2 dn c2) v3 vs1 vs3 [] wr)) (fun i _ => nr - (intOf i).toNat)
     case atStart => exact ⟨0, Nat.zero_le _, rfl, _, _, HR1⟩
     case round =>
      clear HR1
      obtain ⟨k, hk, rfl, v3, vs3, HRE⟩ := hrel
      have HGR := Lib.hid (HRE.out.toGr HGW.out (by have := HLN.out; omega))
      rcases Nat.lt_or_ge k nr with hkn | hkn
      ·
       have hkI : (k : Int) < (nr : Int) := by omega
       have HKN := Lib.hid hkn
       obtain ⟨⟨r, cs⟩, hx⟩ : ∃ x, rl[k]? = some x := ⟨_, List.getElem?_eq_getElem (by rw [HNR.out]; exact hkn)⟩
       have hg := HGR.out
       have hD := HR.out
       obtain ⟨b2, off, hpm, hbl, hc⟩ := elem_at hD (fun x hx => (HRI.out x hx).len) HNR.out hx
       have hok := HRI.out _ (List.mem_of_getElem? hx)
       have hsr : s.rules[k]? = some r := by rw [← HHR.out, List.getElem?_map, hx]; rfl
       dsimp only at hok hc
       obtain ⟨po, al, pum, num, cum, op, ps, s1, tx, mn, mx, p1, n1, c1, ht, op2, ps2, s2, tx2, mn2, mx2, p2x, n2, c2x, lb, pua, nua, cua, rfl, hmm, hma, hsm, hsa, hmo, hao, hmb, hab⟩ := hok.formX
       subst hpm
       have HCELL := Lib.hid (fun t u (h : ([.int .i64 po, .bool al, .slice pum num cum, .int .i64 op, .int .i64 ps, .int .u64 (wd s1 0), .int .u64 (wd s1 1), .int .u64 (wd s1 2), .int .u64 (wd s1 3), .string tx, .int .i64 mn, .int .i64 mx, .slice p1 n1 c1, .bool ht, .int .i64 op2, .int .i64 ps2, .int .u64 (wd s2 0), .int .u64 (wd s2 1), .int .u64 (wd s2 2), .int .u64 (wd s2 3), .string tx2, .int .i64 mn2, .int .i64 mx2, .slice p2x n2 c2x, .string lb, .slice pua nua cua] : List Value)[t]? = some u) => hg.cell (hc t u h))
       have hbr := Nat.lt_of_lt_of_le hbl hg.size
       have HMA := Lib.hid hma
       have HSA := Lib.hid hsa
       have HAO := Lib.hid hao
       have HUS := Lib.hid (show ∀ a ∈ r.acts, a.doo ≠ 3 → a.mode.name ∈ modesN s from fun a ha hd => HRT.out.uses r (List.mem_of_getElem? hsr) (usN a.mode) (by
        unfold useR
        exact List.mem_append_right _ (List.mem_map.2 ⟨a, List.mem_filter.2 ⟨ha, decide_eq_true hd⟩, rfl⟩)))
       have hab2 : (nua : Int) ≤ 4398046511104 := by omega
       have HAB := Lib.hid (show nua ≤ 4398046511104 by omega)
       obtain ⟨C, hC⟩ : ∃ C, (actsR s).take k = C := ⟨_, rfl⟩
       have HCS := Lib.hid (show (actsR s).take (k + 1) = C ++ [r.acts.map (stepA s)] by
        rw [List.take_add_one, hC]
        unfold actsR
        rw [List.getElem?_map, hsr]; rfl)
       have HCK2 := Lib.hid (show C.length = k by
        rw [← hC, List.length_take]
        unfold actsR
        rw [List.length_map]
        have := (List.getElem?_eq_some_iff.1 hsr).1
        omega)
       have HNR2 := Lib.hid (show nr ≤ 200 by
        have := (spec_lens HSP.out).2.2
        rw [← HHR.out, List.length_map, HNR.out] at this
        exact this)
       have hnr2 : (nr : Int) ≤ 200 := by have := HNR2.out; omega
       rw [hC] at HRE
       clear hx hok hk hkn hc hD hbl hg hmm hma hsm hsa hmo hao hmb hab hsr hC
       go_wp2_with (first | ((with_reducible refine wpList_plain ?_ (fun _ hK => ?_)); (focus rfl); refine wp_load_at 71 (.tmp 83) rfl b2 (off + k * 26) rfl [.int .i64 po, .bool al, .slice pum num cum, .int .i64 op, .int .i64 ps, .int .u64 (wd s1 0), .int .u64 (wd s1 1), .int .u64 (wd s1 2), .int .u64 (wd s1 3), .string tx, .int .i64 mn, .int .i64 mx, .slice p1 n1 c1, .bool ht, .int .i64 op2, .int .i64 ps2, .int .u64 (wd s2 0), .int .u64 (wd s2 1), .int .u64 (wd s2 2), .int .u64 (wd s2 3), .string tx2, .int .i64 mn2, .int .i64 mx2, .slice p2x n2 c2x, .string lb, .slice pua nua cua] _ HCELL.out Tryz.underlying71 rfl (by kernel_rfl) (hK _ _ ?_)) | ((with_reducible refine wpList_plain ?_ (fun _ hK => ?_)); (focus rfl); refine wp_store_row 71 (.tmp 12) (.tmp 84) rfl wr.heap.size #[.int .i64 po, .bool al, .slice pum num cum, .int .i64 op, .int .i64 ps, .int .u64 (wd s1 0), .int .u64 (wd s1 1), .int .u64 (wd s1 2), .int .u64 (wd s1 3), .string tx, .int .i64 mn, .int .i64 mx, .slice p1 n1 c1, .bool ht, .int .i64 op2, .int .i64 ps2, .int .u64 (wd s2 0), .int .u64 (wd s2 1), .int .u64 (wd s2 2), .int .u64 (wd s2 3), .string tx2, .int .i64 mn2, .int .i64 mx2, .slice p2x n2 c2x, .string lb, .slice pua nua cua] rfl rfl 71 _ (heap_alloc_new wr _) (by kernel_rfl) rfl (all_ones _ rfl) (hK _ _ ?_); clear hK; refine name_wpList (fun xc_w hxc => ?_); obtain ⟨xc, xc_g, xc_s⟩ := new_row (cs := [.int .i64 po, .bool al, .slice pum num cum, .int .i64 op, .int .i64 ps, .int .u64 (wd s1 0), .int .u64 (wd s1 1), .int .u64 (wd s1 2), .int .u64 (wd s1 3), .string tx, .int .i64 mn, .int .i64 mx, .slice p1 n1 c1, .bool ht, .int .i64 op2, .int .i64 ps2, .int .u64 (wd s2 0), .int .u64 (wd s2 1), .int .u64 (wd s2 2), .int .u64 (wd s2 3), .string tx2, .int .i64 mn2, .int .i64 mx2, .slice p2x n2 c2x, .string lb, .slice pua nua cua]) hxc; clear hxc; have xc_h := boxAt.row xc; have y25 := xc.cell 25 _ rfl; have yl := xc.lt (Nat.succ_pos _)))
       have HB0 := Lib.hid ((HRE.out.later xc_g).push 83 2)
       clear xc_h y25 yl xc_g xc_s xc HCELL hbr HRE HGR
       go_loopw [13, 88] (fun lv i wr => ∃ j : Nat, j ≤ nua ∧ i = .int .i64 (j : Int) ∧ Hid (ReI wc nb (modesN s) (actM s n8) C v0 v1 (.slice p2 dn c2) v3 vs1 vs3 [⟨lv, 83, 2, j, ((r.acts.take j).map (stepA s)).flatMap prC⟩] wr)) (fun _ i _ => nua - (intOf i).toNat)
       case atStart => exact ⟨0, Nat.zero_le _, rfl, by simpa using HB0⟩
       case round =>
        clear HB0
        obtain ⟨j, hj, rfl, HRJ⟩ := hrel
        have hlast := HRJ.out.row (List.mem_append_right _ (List.mem_singleton.2 rfl))
        dsimp only at hlast
        obtain ⟨pl, cl, rfl⟩ := (Sl.of_owns hlast).len
        clear hlast
        have HGJ := Lib.hid (HRJ.out.toGr HGW.out (by have := HLN.out; omega))
        rcases Nat.lt_or_ge j nua with hjn | hjn
        ·
         have hjI : (j : Int) < (nua : Int) := by omega
         have HJN := Lib.hid hjn
         obtain ⟨⟨doo, nmx, pox⟩, hx⟩ : ∃ x, r.acts[j]? = some x := ⟨_, List.getElem?_eq_getElem (by rw [HMA.out]; exact hjn)⟩
         obtain ⟨b4, o4, hp4, hb4, hc4⟩ := act_at HSA.out hx
         have hou := HAO.out _ (List.mem_of_getElem? hx)
         have HUX := Lib.hid (HUS.out _ (List.mem_of_getElem? hx))
         subst hp4
         have k0 := HGJ.out.cell (hc4 0 _ rfl)
         have k1 := HGJ.out.cell (hc4 1 _ rfl)
         have k2 := HGJ.out.cell (hc4 2 _ rfl)
         simp only [Nat.add_zero] at k0
         have hbr := Nat.lt_of_lt_of_le hb4 HGJ.out.size
         have HTS := Lib.hid (show (r.acts.take (j + 1)).map (stepA s) = (r.acts.take j).map (stepA s) ++ [stepA s ⟨doo, nmx, pox⟩] by
          rw [List.take_add_one, hx]; simp)
         obtain ⟨L, hL⟩ : ∃ L, (r.acts.take j).map (stepA s) = L := ⟨_, rfl⟩
         have HLJ := Lib.hid (show L.length = j by
          rw [← hL, List.length_map, List.length_take]
          have := (List.getElem?_eq_some_iff.1 hx).1
          omega)
         rw [hL] at HRJ HTS
         have hlast := HRJ.out.row (List.mem_append_right _ (List.mem_singleton.2 rfl))
         dsimp only at hlast
         have HLAST := Lib.hid hlast
         have hne := HRJ.out.ne (List.mem_append_right _ (List.mem_singleton.2 rfl))
         dsimp only at hne
         have N1 := Lib.hid (show fb ∉ (Value.slice pl j cl).ownBlock.toList from fun hm => by
          have := (World.ownsRow.lt hlast fb (by simpa using hm)).1
          have := XF.out.lt (by simp)
          omega)
         have N2 := Lib.hid (show wr.heap.size ∉ (Value.slice pl j cl).ownBlock.toList from fun hm => by
          have := (World.ownsRow.lt hlast wr.heap.size (by simpa using hm)).2
          omega)
         obtain ⟨c, hcc⟩ : ∃ c, (numF (modesN s) nmx).getD 0 = c := ⟨_, rfl⟩
         have HCc := Lib.hid hcc
         have HSZN := Lib.hid (show nmx.size ≤ maxLen from hou.2.1)
         clear hx hj hjn hc4 hou hb4 hL hlast hne hcc
         go_upto_region 28 with fail
         refine name_world (fun Wa hWa => ?_)
         have xe : boxAt Wa wr.heap.size [.int .i64 doo, .string nmx, .int .i64 pox] := by rw [hWa]; exact boxAt.new_atN _ _ _ rfl rfl
         have hga : Gr wr Wa := by rw [hWa]; exact Gr.alloc _ _
         have HRA := Lib.hid (HRJ.out.later hga)
         have HLA := Lib.hid (owns_later HLAST.out hga)
         have xf := (HRJ.out.kp.box XF.out (fun hm => HFN.out (List.mem_singleton.1 hm)) (by simp)).later hga
         have HMA2 := Lib.hid ((MMB.out.heap (HRJ.out.kp.block _ MMB.out.lt (fun hm => HMM8.out (List.mem_singleton.1 hm)))).later hga)
         clear hWa hga k0 k1 k2 hbr HRJ HLAST HGJ
         refine wp_region_S (KpR (Value.slice pl j cl).ownBlock.toList Wa) (.take 0 (.take 1 (.take 2 (.take 3 (.take 4 (.take 5 (.take 6 (.take 7 (.take 8 (.take 9 (.run 10 false (.take 11 (.run 12 false (.run 13 false (.run 14 true .nil))))))))))))))) (KpR.gr (Gr.drew Wa)) (by kernel_rfl) (by kernel_rfl) ?_
         simp only [pickOps, nthOp]
         intro wq hN hG
         repeat (first | (refine wpG_skip_take ?_ ?_; (focus rfl); try simp only [Act.put, List.setIfInBounds_toArray, List.set_cons_zero, List.set_cons_succ]) | (refine wpG_skip_run ?_ ?_; (focus rfl); try simp only [Act.put, List.setIfInBounds_toArray, List.set_cons_zero, List.set_cons_succ]) | (refine wpG_take ?_ ?_; (focus rfl); apply Exists.intro; refine ⟨fun w' hw' => ?_, ?_⟩; (focus (have zf := (hw'.box xf N1.out (by simp)).cell 3 _ rfl; have ze0 := (hw'.box xe N2.out (by simp)).cell 0 _ rfl; have ze1 := (hw'.box xe N2.out (by simp)).cell 1 _ rfl; go_simp; (try rfl); done)); try simp only [Act.put, List.setIfInBounds_toArray, List.set_cons_zero, List.set_cons_succ]))
         refine wpG_run ?_ (fun K hK => ?_)
         focus rfl
         have hrun := (HMA2.out.later hN).look1 HSZN.out HCc.out
         go_simp
         clear hrun
         refine hK.out _ _ hG ?_
         clear hK K
         (try simp only [Act.put, List.setIfInBounds_toArray, List.set_cons_zero, List.set_cons_succ])
         repeat (first | (refine wpG_skip_take ?_ ?_; (focus rfl); try simp only [Act.put, List.setIfInBounds_toArray, List.set_cons_zero, List.set_cons_succ]) | (refine wpG_skip_run ?_ ?_; (focus rfl); try simp only [Act.put, List.setIfInBounds_toArray, List.set_cons_zero, List.set_cons_succ]) | (refine wpG_take ?_ ?_; (focus rfl); apply Exists.intro; refine ⟨fun w' hw' => ?_, ?_⟩; (focus (skip; go_simp; (try rfl); done)); try simp only [Act.put, List.setIfInBounds_toArray, List.set_cons_zero, List.set_cons_succ]))
         refine wpG_run ?_ (fun K hK => ?_)
         focus rfl
         go_simp
         refine hK.out _ _ (hG.trans (KpR.gr (R := []) (Gr.alloc _ _)) (fun x hx => by cases hx)) ?_
         clear hK K
         (try simp only [Act.put, List.setIfInBounds_toArray, List.set_cons_zero, List.set_cons_succ])
         refine wpG_run ?_ (fun K hK => ?_)
         focus rfl
         refine wp_append_at _ (.tmp 92) (.tmp 104) 81 rfl wc.heap.size 83 iT (.agg #[.int .i64 0, .int .i64 0]) 2 16 Tryz.underlying81 tI ty0 ty1 ty2 rfl (by decide) _ j (L.flatMap prC) rfl (owns_later HLA.out (hN.trans (Gr.alloc _ _))) ⟨wq.heap.size, 0, none⟩ 1 1 [.int .i64 doo, .int .i64 c] rfl rfl (new_cells _ _ _) (by intro u hu; simp at hu; rcases hu with rfl | rfl <;> rfl) (by have := HJN.out; have := HAB.out; unfold maxLen; omega) (by have := HJN.out; have := HAB.out; omega) (Nat.le_trans HRA.out.kp.size (hN.trans (Gr.alloc _ _)).size) ?_
         intro v6 w6' ho6 hg6 hloc6
         obtain ⟨p6, c6, rfl⟩ := (Sl.of_owns ho6).len
         have xe6 := (((xe.later hN)).later (Gr.alloc _ (.cells #[.int .i64 doo, .int .i64 c] 83))).grown hg6 (by simp) (fun e => N2.out (by rw [show (Value.slice pl j cl).ownBlock = some wr.heap.size from e]; simp))
         have HRE6 := Lib.hid (ReI.grow (E := []) ((HRA.out.later hN).later (Gr.alloc wq (.cells #[.int .i64 doo, .int .i64 c] 83))) hg6 ho6 hloc6)
         refine hK.out _ _ ((hG.trans (KpR.gr (R := []) (Gr.alloc _ _)) (fun x hx => by cases hx)).grown hg6 (fun g hg => .inr (by rw [show (Value.slice pl j cl).ownBlock = some g from hg]; simp))) ?_
         clear hK K
         (try simp only [Act.put, List.setIfInBounds_toArray, List.set_cons_zero, List.set_cons_succ])
         refine wpG_last ?_ (fun K hK => ?_)
         focus rfl
         go_simp
         refine hK.out _ _ ?_
         clear hK K
         (try simp only [Act.put, List.setIfInBounds_toArray, List.set_cons_zero, List.set_cons_succ])
         refine wpG_done ?_
         have HO6 := Lib.hid (show w6'.ownsRow wc.heap.size 83 2 (.slice p6 (j + 1) c6) (j + 1) ((L ++ [(doo, c)]).flatMap prC) by
          have := ho6
          rw [List.flatMap_append]
          exact this)
         have HREV := Lib.hid (show ReI wc nb (modesN s) (actM s n8) C v0 v1 (.slice p2 dn c2) v3 vs1 vs3 [⟨.slice p6 (j + 1) c6, 83, 2, j + 1, (L ++ [(doo, c)]).flatMap prC⟩] w6' by
          have := HRE6.out
          rw [List.flatMap_append]
          exact this)
         clear hN hG ho6 hg6 hloc6 HRE6 xe xf
         obtain ⟨c_e0, c_e1, c_e2, m_e0, m_e1, m_e2, l_e⟩ := unb3 xe6
         by_cases h3 : doo = 3
         ·
          have HST := Lib.hid (show stepA s ⟨doo, nmx, pox⟩ = (3, 0) by unfold stepA; dsimp only; rw [if_pos h3, h3])
          subst h3
          obtain ⟨g6, cap6, hv6, hB6, hg6, _⟩ := owns_block HO6.out (by omega)
          injection hv6 with e1 _ e3
          subst e1 e3
          have kc := owns_cell HO6.out (j * 2 + 1) (.int .i64 c) (by
           rw [← HLJ.out, List.flatMap_append, List.getElem?_append_right (by rw [flatMap_len prC 2 (fun _ => rfl)]; omega), flatMap_len prC 2 (fun _ => rfl), show L.length * 2 + 1 - L.length * 2 = 1 by omega]; rfl)
          have kn := owns_mark HO6.out (j * 2 + 1)
          go_step
          go_wp2_with fail
          clear c_e0 c_e1 c_e2 m_e0 m_e1 m_e2 l_e
          clear kc kn
          go_roundw
          case rel => exact ⟨j + 1, HJN.out, by go_num, Lib.hid (by
           have h7 := ReI.grow (E := []) HREV.out (grown_set w6' g6 (j * 2 + 1) (.int .i64 0)) (owns_set HO6.out (j * 2 + 1) (by rw [flatMap_len prC 2 (fun _ => rfl), List.length_append, HLJ.out]; simp; omega) (.int .i64 0)) (.inl rfl)
           rw [HTS.out, HST.out, ← steps_set L 3 c, HLJ.out]
           exact h7)⟩
          case measure => have := HJN.out; simp [intOf]; omega
         ·
          have h3b : (doo == 3) = false := by rw [beq_eq_false_iff_ne]; exact h3
          have HST := Lib.hid (show stepA s ⟨doo, nmx, pox⟩ = (doo, c) by
           unfold stepA
           dsimp only
           rw [if_neg h3, ← HCc.out]
           unfold numF
           rw [if_pos (memN_iff.2 (HUX.out h3))]; rfl)
          clear h3
          go_step
          go_wp2_with fail
          clear c_e0 c_e1 c_e2 m_e0 m_e1 m_e2 l_e
          go_roundw
          case rel => exact ⟨j + 1, HJN.out, by go_num, Lib.hid (by rw [HTS.out, HST.out]; exact HREV.out)⟩
          case measure => have := HJN.out; simp [intOf]; omega
        ·
         have hjI : ¬ (j : Int) < (nua : Int) := by omega
         have hje : j = nua := by omega
         have HRZ := Lib.hid (show ReI wc nb (modesN s) (actM s n8) C v0 v1 (.slice p2 dn c2) v3 vs1 vs3 [⟨.slice pl j cl, 83, 2, j, (r.acts.map (stepA s)).flatMap prC⟩] wr by
          have := HRJ.out
          rw [List.take_of_length_le (by rw [HMA.out]; omega)] at this
          exact this)
         have HRL := Lib.hid (show (r.acts.map (stepA s)).length = j by rw [List.length_map, HMA.out]; exact hje.symm)
         have hrow3 := HRZ.out.row (r := ⟨v3, 81, 1, C.length, vs3⟩) (by simp [nmsRows])
         dsimp only at hrow3
         rw [HCK2.out] at hrow3
         obtain ⟨p3, c3, rfl⟩ := (Sl.of_owns hrow3).len
         have HROW3 := Lib.hid hrow3
         have HNE3 := Lib.hid (HRZ.out.ne (r := ⟨.slice p3 k c3, 81, 1, C.length, vs3⟩) (by simp [nmsRows]))
         have xb := HRZ.out.box
         obtain ⟨c_b0, c_b1, c_b2, c_b3, m_b0, m_b1, m_b2, m_b3, l_b⟩ := unb4 xb
         clear hj hjn hje HRJ hrow3
         go_wp2_with (at_builtin; refine wpList_append_own_at _ rfl (.tmp 117) (.tmp 119) 33 rfl wc.heap.size 81 iU (.slice none 0 0) 1 24 Tryz.underlying33 uI uy0 uy1 uy2 rfl (by decide) _ k vs3 rfl (HROW3.out.alloc _) ⟨wr.heap.size, 0, none⟩ 1 1 [.slice pl j cl] rfl rfl (new_cells _ _ _) (by intro u hu; simp at hu; subst hu; rfl) (by have := HKN.out; have := HNR2.out; unfold maxLen; omega) (by have := HKN.out; have := HNR2.out; omega) (Nat.le_trans HRZ.out.kp.size (Gr.alloc _ _).size) ?_; intro v' w4' hown4 hg4 _ hloc; obtain ⟨p4, c4', rfl⟩ := (Sl.of_owns hown4).len; have HOW4 := Lib.hid hown4; have HG4 := Lib.hid hg4; have HLOC := Lib.hid hloc; have yb := (xb.later (Gr.alloc _ _)).grown hg4 (by simp) (HNE3.out); have q3 := yb.cell 3 _ rfl; have r3 := yb.mark 3 _ rfl; have ql := yb.lt (Nat.succ_pos _); clear hown4 hg4 hloc)
         clear c_b0 c_b1 c_b2 c_b3 m_b0 m_b1 m_b2 m_b3 l_b
         clear q3 r3 ql yb xb
         go_roundw
         case rel => exact ⟨k + 1, HKN.out, by go_num, _, _, Lib.hid (by
          have h5 := HRZ.out.later (Gr.alloc wr (.cells #[.slice pl j cl] 81))
          rw [HCS.out]
          exact ReI.acts h5 HRL.out HG4.out (by rw [HCK2.out]; exact HOW4.out) HLOC.out)⟩
         case measure => have := HKN.out; simp [intOf]; omega
      ·
       have hkI : ¬ (k : Int) < (nr : Int) := by omega
       have hke : k = nr := by omega
       have HRF := Lib.hid (show ReI wc nb (modesN s) (actM s n8) (actsR s) v0 v1 (.slice p2 dn c2) v3 vs1 vs3 [] wr by
        have := HRE.out
        rw [hke, List.take_of_length_le (by unfold actsR; rw [List.length_map, ← HHR.out, List.length_map, HNR.out]; exact Nat.le_refl _)] at this
        exact this)
       have z0 := HRF.out.row (r := ⟨v0, 9, 1, (modesN s).length, (modesN s).map .string⟩) (by simp [nmsRows])
       dsimp only at z0
       obtain ⟨p0, c0, rfl⟩ := (Sl.of_owns z0).len
       clear z0
       have z1 := HRF.out.row (r := ⟨v1, 32, 1, (actM s n8).length, vs1⟩) (by simp [nmsRows])
       dsimp only at z1
       obtain ⟨p1, c1, rfl⟩ := (Sl.of_owns z1).len
       clear z1
       have z3 := HRF.out.row (r := ⟨v3, 81, 1, (actsR s).length, vs3⟩) (by simp [nmsRows])
       dsimp only at z3
       obtain ⟨p3, c3, rfl⟩ := (Sl.of_owns z3).len
       clear z3
       try dsimp only at HRF ⊢
       have xb := HRF.out.box
       have xr := HRF.out.kp.box XRB.out (fun hm => by have := List.mem_singleton.1 hm; have := HLN.out; omega) (by simp)
       obtain ⟨c_b0, c_b1, c_b2, c_b3, m_b0, m_b1, m_b2, m_b3, l_b⟩ := unb4 xb
       obtain ⟨c_r0, c_r1, c_r2, c_r3, m_r0, m_r1, m_r2, m_r3, l_r⟩ := unb4 xr
       clear hk hkn hke HRE
       go_wp2_with fail
       refine name_body (fun W hW => ?_)
       have hkw : KpR [w.heap.size + 1] wr W := by rw [hW]; exact ((((KpR.refl _ _).put (.inr (by simp)) _).put (.inr (by simp)) _).put (.inr (by simp)) _).put (.inr (by simp)) _
       have xz : boxAt W (w.heap.size + 1) [.slice p0 (modesN s).length c0, .slice p1 (actM s n8).length c1, .slice p2 dn c2, .slice p3 (actsR s).length c3] := by
        rw [hW]; exact (((xr.put 0 _ (by simp)).put 1 _ (by simp)).put 2 _ (by simp)).put 3 _ (by simp)
       have hgr := HRF.out.toGr HGW.out (by have := HLN.out; omega)
       have HGZ := Lib.hid (KpR.toGr hgr hkw (fun x hx => by rw [List.mem_singleton.1 hx]; exact Nat.le_succ _))
       have hwcb : w.heap.size + 1 < wc.heap.size := by have := HLN.out; have := HRF.out.lt; omega
       have HRWS := Lib.hid (show Rws W wc.heap.size [] (nmsRows (modesN s) (actM s n8) (actsR s) (.slice p0 (modesN s).length c0) (.slice p1 (actM s n8).length c1) (.slice p3 (actsR s).length c3) vs1 vs3) from by
        have h := HRF.out.rws
        rw [List.append_nil] at h
        exact (h.keep (fun g hg hB _ => hkw.block g hg (fun hm => by have := List.mem_singleton.1 hm; omega))).dropX)
       have hlt2 : ∀ g, (Value.slice p2 dn c2).ownBlock = some g → w5.heap.size ≤ g ∧ g < nb := fun g hg => by
        have := World.ownsRow.lt HO2.out g hg
        have := HNB.out
        omega
       have HOW2 := Lib.hid (show W.ownsRow w.heap.size 3 1 (.slice p2 dn c2) dn ((orderN (linksS s) dn []).map natV) from by
        have h5 := HG5S.out
        refine owns_heap (own_mono HO2B.out (by omega)) (fun g hg => ?_)
        have h1 := hlt2 g hg
        have h2 := (World.ownsRow.lt HO2B.out g hg).2
        rw [hkw.block g (Nat.lt_of_lt_of_le h2 HRF.out.kp.size) (fun hm => by have := List.mem_singleton.1 hm; omega)]
        exact HRF.out.kp.block g h2 (fun hm => by have := List.mem_singleton.1 hm; omega))
       have HAB2 := Lib.hid (show ∀ g, (Value.slice p2 dn c2).ownBlock = some g → g < wc.heap.size from fun g hg => (World.ownsRow.lt HO2B.out g hg).2)
       have HACT := Lib.hid (show actM s n8 = (namesN s).active from by rw [← HN8.out, HMN.out]; rfl)
       have HORD := Lib.hid (show orderN (linksS s) dn [] = (namesN s).order from by
        rw [← HDN.out]
        exact orderN_srt (linksN s) s.defs.length [])
       have HL1 := Lib.hid HRF.out.l1
       have HL3 := Lib.hid HRF.out.l3
       have HWC := Lib.hid (show w.heap.size ≤ wc.heap.size by omega)
       clear c_b0 c_b1 c_b2 c_b3 m_b0 m_b1 m_b2 m_b3 l_b
       clear c_r0 c_r1 c_r2 c_r3 m_r0 m_r1 m_r2 m_r3 l_r
       clear hW hkw hgr hwcb hlt2 xb xr
       obtain ⟨c_z0, c_z1, c_z2, c_z3, m_z0, m_z1, m_z2, m_z3, l_z⟩ := unb4 xz
       rw [HORD.out] at HOW2
       refine bodyPost_ret (v := .tuple #[.agg #[.slice p0 (modesN s).length c0, .slice p1 (actM s n8).length c1, .slice p2 dn c2, .slice p3 (actsR s).length c3], .nilIface]) (by simp [results, Tryz.results12, go_sem, c_z0, c_z1, c_z2, c_z3]) rfl ⟨.fine wc.heap.size (.slice p0 (modesN s).length c0) (.slice p1 (actM s n8).length c1) (.slice p2 dn c2) (.slice p3 (actsR s).length c3) vs1 vs3 HSP.out HNO.out HOL.out HWC.out (by rw [← HACT.out]; exact HL1.out) HL3.out (by rw [← HACT.out]; exact HRWS.out) ?_ HAB2.out rfl, HGZ.out⟩
       have h2 := HOW2.out
       have hlen : (namesN s).order.length = dn := by
        rw [← HORD.out, ← HDN.out]; exact HOL.out
       rw [hlen]
       exact h2
end Go.Proofs.YtkkopdmemjncdaaGreatDoor
