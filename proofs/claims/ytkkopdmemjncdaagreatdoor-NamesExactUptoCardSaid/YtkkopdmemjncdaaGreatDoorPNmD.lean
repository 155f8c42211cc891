/- Texts of mine, put together: NmD. No condition but what each says. -/
import Derived.Test.YtkkopdmemjncdaaGreatDoorPHj
namespace Go.Proofs.YtkkopdmemjncdaaGreatDoor
open Go Go.RowKit Go.Maps
theorem lost_one (known : List ByteArray) (x : Nt) : lost known [x] = if memN known x.1 = true then [] else [x] := by
 have := lost_snoc known [] x
 simpa [lost] using this
set_option maxRecDepth 100000 in
set_option maxHeartbeats 8000000 in
theorem read3_any (w0 w : World) (X : List Nat) (fb qa dm nd : Nat) (fd : ByteArray → Option Int) (known : List ByteArray) (ev c0 c1 c2 c4 c5 : Value) (b : Option Nt) (h : FS w0 w X fb ev c0 c1 c2 (.map (some dm)) c4 c5 b) (hq : boxAt w qa [.pointer (some ⟨fb, 0, none⟩)]) (hm : MapF w dm nd fd)
  (hkn : ∀ s, (fd s).isSome = memN known s) (u : Us) (hsz : u.name.size ≤ maxLen) :
  Calls Tryz.prog 81 #[.agg #[.string u.name, .int .i64 u.pos], .pointer (some ⟨qa, 0, none⟩)] w fun e' w' => e' = .returned (.tuple #[]) ∧ FS w0 w' X fb ev c0 c1 c2 (.map (some dm)) c4 c5 ((lost known [usN u]).foldl note1 b) ∧ KpR [fb] w w' := by
 obtain ⟨nm, po⟩ := u
 dsimp only at hsz ⊢
 have HSZ := Lib.hid hsz
 have HF := Lib.hid h
 have HM := Lib.hid hm
 obtain ⟨q, hqq⟩ : ∃ q, (fd nm).isSome = q := ⟨_, rfl⟩
 obtain ⟨c, hc⟩ : ∃ c, (fd nm).getD 0 = c := ⟨_, rfl⟩
 have HQ := Lib.hid hqq
 have HC := Lib.hid hc
 have HKN := Lib.hid ((hkn nm).symm.trans hqq)
 obtain ⟨bv, kk, xf, _⟩ := h.box
 have xq := hq
 clear h hm hq hqq hc hkn hsz
 go_enter Tryz.func81, Tryz.ntmps81
 go_wp2_with fail
 refine name_world (fun W hW => ?_)
 have xe : boxAt W w.heap.size [.string nm, .int .i64 po] := by rw [hW]; exact boxAt.new_atN _ _ _ rfl rfl
 have hgW : Gr w W := by rw [hW]; exact Gr.alloc _ _
 have HGW := Lib.hid hgW
 have HF1 := Lib.hid (HF.out.later hgW)
 have HM1 := Lib.hid (HM.out.later hgW)
 replace xq := xq.later hgW
 replace xf := xf.later hgW
 clear hW hgW
 obtain ⟨c_e0, c_e1, m_e0, m_e1, l_e⟩ := unb2 xe
 have c_q0 := xq.cell 0 _ rfl
 have m_q0 := xq.mark 0 _ rfl
 have l_q := xq.lt (Nat.succ_pos _)
 obtain ⟨c_f0, c_f1, c_f2, c_f3, c_f4, c_f5, c_f6, c_f7, m_f0, m_f1, m_f2, m_f3, m_f4, m_f5, m_f6, m_f7, l_f⟩ := unb8 xf
 refine wp_region_G (.take 0 (.take 1 (.take 2 (.take 3 (.take 4 (.take 5 (.run 6 false (.take 7 (.take 8 (.take 9 (.run 10 false (.run 11 true .nil)))))))))))) (by kernel_rfl) (by kernel_rfl) ?_
 simp only [pickOps, nthOp]
 intro wq hG
 repeat (first | (refine wpG_skip_take ?_ ?_; (focus rfl); try simp only [Act.put, List.setIfInBounds_toArray, List.set_cons_zero, List.set_cons_succ]) | (refine wpG_skip_run ?_ ?_; (focus rfl); try simp only [Act.put, List.setIfInBounds_toArray, List.set_cons_zero, List.set_cons_succ]) | (refine wpG_run ?_ (fun K hK => ?_); (focus rfl); have hrun := (HM1.out.later hG).look HSZ.out HC.out HQ.out; go_simp; clear hrun; (try dsimp only); refine hK.out _ _ hG ?_; clear hK K; try simp only [Act.put, List.setIfInBounds_toArray, List.set_cons_zero, List.set_cons_succ]) | (refine wpG_take ?_ ?_; (focus rfl); apply Exists.intro; refine ⟨fun w' hw' => ?_, ?_⟩; (focus (have hc := Gr.cells hw'; go_simp; (try rfl); done)); try simp only [Act.put, List.setIfInBounds_toArray, List.set_cons_zero, List.set_cons_succ]))
 all_goals
  refine wpG_last ?_ (fun K hK => ?_); (focus rfl)
  have hc := hG.cells
  have hm := hG.marks
  go_simp
  refine hK.out _ _ ?_
  try simp only [Act.put, List.setIfInBounds_toArray, List.set_cons_zero, List.set_cons_succ]
  clear hK K hc hm
  refine wpG_done ?_
  have HF2 := Lib.hid (HF1.out.later hG)
  have HG2 := Lib.hid (HGW.out.trans hG)
  replace xe := xe.later hG
  replace xq := xq.later hG
  have xf2 := xf.later hG
  clear c_e0 c_e1 m_e0 m_e1 l_e
  clear c_q0 m_q0 l_q
  clear c_f0 c_f1 c_f2 c_f3 c_f4 c_f5 c_f6 c_f7 m_f0 m_f1 m_f2 m_f3 m_f4 m_f5 m_f6 m_f7 l_f
  obtain ⟨c_e0, c_e1, m_e0, m_e1, l_e⟩ := unb2 xe
  have c_q0 := xq.cell 0 _ rfl
  have m_q0 := xq.mark 0 _ rfl
  have l_q := xq.lt (Nat.succ_pos _)
  obtain ⟨c_f0, c_f1, c_f2, c_f3, c_f4, c_f5, c_f6, c_f7, m_f0, m_f1, m_f2, m_f3, m_f4, m_f5, m_f6, m_f7, l_f⟩ := unb8 xf2
  clear hG
  cases q with
  |
   true =>
   go_wp2_with fail
   go_end0
   exact ⟨rfl, by rw [lost_one, if_pos (show memN known (usN ⟨nm, po⟩).1 = true from HKN.out)]; exact HF2.out, KpR.gr HG2.out⟩
  |
   false =>
   go_wp2_with fail
   go_at_call 77
   (with_reducible refine (wrong_any w0 wq X fb ev c0 c1 c2 _ c4 c5 _ HF2.out (nm, po)).mono ?_); rintro e w2 ⟨rfl, hf2, hk2⟩
   have HF3 := Lib.hid hf2
   have HK3 := Lib.hid hk2
   clear c_e0 c_e1 m_e0 m_e1 l_e
   clear c_q0 m_q0 l_q
   clear c_f0 c_f1 c_f2 c_f3 c_f4 c_f5 c_f6 c_f7 m_f0 m_f1 m_f2 m_f3 m_f4 m_f5 m_f6 m_f7 l_f
   clear hf2 hk2
   go_wp2_with fail
   go_end0
   exact ⟨rfl, by rw [lost_one, if_neg (by rw [show (usN ⟨nm, po⟩).1 = nm from rfl, HKN.out]; simp)]; exact HF3.out, (KpR.gr HG2.out).trans HK3.out (fun x hx => .inl hx)⟩
theorem DfIn.name {w : World} {d : Df} {cs : List Value} (h : DfIn w d cs) : d.name.size ≤ maxLen := by
 cases h with
 | mk ec he hn hp => exact hn
theorem worst_app (A l : List Nt) : l.foldl note1 (worst A) = worst (A ++ l) := by unfold worst; rw [List.foldl_append]
theorem KpR.cell {R : List Nat} {w w' : World} (hk : KpR R w w') {a : Addr} {v : Value} (h : w.cell? a = some v) (ha : a.block ∉ R) : w'.cell? a = some v := by
 rw [← h]
 exact World.cell?_of_block (w := w) (hk.block _ (World.block_lt_of_cell? w _ h) ha)
theorem lost_append (known : List ByteArray) (l r : List Nt) : lost known (l ++ r) = lost known l ++ lost known r := by unfold lost; rw [List.filter_append]
theorem lost_map {α : Type} (known : List ByteArray) (f : α → Nt) : ∀ l : List α, lost known (l.map f) = l.flatMap fun x => lost known [f x]
 | [] => rfl
 |
  x :: l => by
  rw [List.map_cons, List.flatMap_cons, ← lost_map known f l, ← lost_append]; rfl
theorem lost_acts (known : List ByteArray) : ∀ l : List Ac, lost known ((l.filter fun a => decide (a.doo ≠ 3)).map fun a => usN a.mode) = l.flatMap fun a => if a.doo = 3 then [] else lost known [usN a.mode]
 | [] => rfl
 |
  a :: l => by
  rw [List.flatMap_cons, ← lost_acts known l, List.filter_cons]
  by_cases h : a.doo = 3
  · rw [if_pos h, if_neg (by simp [h])]; rfl
  · rw [if_neg h, if_pos (by simp [h]), List.map_cons, ← lost_append]; rfl
theorem lost_useR (known : List ByteArray) (r : Rl) : lost known (useR r) = r.modes.flatMap (fun u => lost known [usN u]) ++ r.acts.flatMap (fun a => if a.doo = 3 then [] else lost known [usN a.mode]) := by
 unfold useR
 rw [lost_append, lost_map, lost_acts]
theorem flat_snoc {α β : Type} (f : α → List β) (l : List α) (k : Nat) (a : α) (h : l[k]? = some a) : (l.take (k + 1)).flatMap f = (l.take k).flatMap f ++ f a := by
 rw [List.take_add_one, h]; simp
theorem FS.keep0 {w0 w w' : World} {X Y : List Nat} {fb : Nat} {ev c0 c1 c2 c3 c4 c5 : Value} (h : FS w0 w X fb ev c0 c1 c2 c3 c4 c5 none) (hk : KpR Y w w') (hY : ∀ x ∈ Y, w0.heap.size ≤ x ∧ x ≠ fb) : FS w0 w' X fb ev c0 c1 c2 c3 c4 c5 none := by
 obtain ⟨bv, k, hb, hbad⟩ := h.box
 exact ⟨KpR.toGr h.gr hk (fun x hx => (hY x hx).1), fun x hx => ⟨(h.low x hx).1, Nat.lt_of_lt_of_le (h.low x hx).2 hk.size⟩, h.mem, h.err, h.face, bv, k, hk.box hb (fun hm => (hY fb hm).2 rfl) (by simp), hbad⟩
theorem RlIn.formX {w : World} {r : Rl} {cs : List Value} (h : RlIn w r cs) : ∃ (po : Int) (al : Bool) (pum : Option Addr) (num cum : Nat) (op ps : Int) (s1 : BitVec 256) (tx : ByteArray) (mn mx : Int) (p1 : Option Addr) (n1 c1 : Nat) (ht : Bool) (op2 ps2 : Int) (s2 : BitVec 256) (tx2 : ByteArray) (mn2 mx2 : Int) (p2 : Option Addr) (n2 c2 : Nat) (lb : ByteArray) (pua : Option Addr) (nua cua : Nat), cs = [.int .i64 po, .bool al, .slice pum num cum, .int .i64 op, .int .i64 ps, .int .u64 (wd s1 0), .int .u64 (wd s1 1), .int .u64 (wd s1 2), .int .u64 (wd s1 3), .string tx, .int .i64 mn, .int .i64 mx, .slice p1 n1 c1, .bool ht, .int .i64 op2, .int .i64 ps2, .int .u64 (wd s2 0), .int .u64 (wd s2 1), .int .u64 (wd s2 2), .int .u64 (wd s2 3), .string tx2, .int .i64 mn2, .int .i64 mx2, .slice p2 n2 c2, .string lb, .slice pua nua cua] ∧
  r.modes.length = num ∧ r.acts.length = nua ∧ Sl w (.slice pum r.modes.length cum) 2 r.modes.length (r.modes.flatMap usC) ∧ Sl w (.slice pua r.acts.length cua) 3 r.acts.length (r.acts.flatMap acC) ∧ (∀ u ∈ r.modes, UsOk u) ∧ (∀ a ∈ r.acts, AcOk a) ∧ num * 24 ≤ 140737488351232 ∧ nua * 32 ≤ 140737488351232 := by
 cases h with
 |
  mk vm va ec tc he ht hm hmn hmb hmo ha han hab hao hl hp =>
  obtain ⟨op, ps, s1, tx, mn, mx, p1, n1, c1, rfl⟩ := he.formN
  obtain ⟨op2, ps2, s2, tx2, mn2, mx2, p2, n2, c2, rfl⟩ := ht.formN
  obtain ⟨pum, cum, rfl⟩ := hm.len
  obtain ⟨pua, cua, rfl⟩ := ha.len
  exact ⟨_, _, pum, _, cum, op, ps, s1, tx, mn, mx, p1, n1, c1, _, op2, ps2, s2, tx2, mn2, mx2, p2, n2, c2, _, pua, _, cua, rfl, rfl, rfl, hm, ha, hmo, hao, hmb, hab⟩
structure RdN (w0 w : World) (X : List Nat) (fb mm md tb qa : Nat) (ev vm vd vr c5 : Value) (s : Sc) (b : Option Nt) : Prop where
 fs : FS w0 w X fb ev vm vd vr (.map (some mm)) (.map (some md)) c5 b
 mmap : ∃ n, MapF w mm n (numF (modesN s))
 dmap : ∃ n, MapF w md n (numF (defsN s))
 sbox : boxAt w tb [vm, vd, vr]
 qbox : boxAt w qa [.pointer (some ⟨fb, 0, none⟩)]
 n1 : mm ≠ fb
 n2 : md ≠ fb
 n3 : tb ≠ fb
 n4 : qa ≠ fb
theorem RdN.step {w0 w w' : World} {X : List Nat} {fb mm md tb qa : Nat} {ev vm vd vr c5 : Value} {s : Sc} {b b' : Option Nt} (h : RdN w0 w X fb mm md tb qa ev vm vd vr c5 s b) (hk : KpR [fb] w w') (hf : FS w0 w' X fb ev vm vd vr (.map (some mm)) (.map (some md)) c5 b') : RdN w0 w' X fb mm md tb qa ev vm vd vr c5 s b' := by
 obtain ⟨n1, h1⟩ := h.mmap
 obtain ⟨n2, h2⟩ := h.dmap
 have out : ∀ {k}, k ≠ fb → k ∉ [fb] := fun hk hm => hk (List.mem_singleton.1 hm)
 exact ⟨hf, ⟨n1, h1.heap (hk.block _ h1.lt (out h.n1))⟩, ⟨n2, h2.heap (hk.block _ h2.lt (out h.n2))⟩, hk.box h.sbox (out h.n3) (by simp), hk.box h.qbox (out h.n4) (by simp), h.n1, h.n2, h.n3, h.n4⟩
theorem RdN.later {w0 w w' : World} {X : List Nat} {fb mm md tb qa : Nat} {ev vm vd vr c5 : Value} {s : Sc} {b : Option Nt} (h : RdN w0 w X fb mm md tb qa ev vm vd vr c5 s b) (hG : Gr w w') : RdN w0 w' X fb mm md tb qa ev vm vd vr c5 s b := h.step (KpR.gr hG) (h.fs.later hG)
theorem kpr1 {fb : Nat} {a b c : World} (h : KpR [fb] a b) (k : KpR [fb] b c) : KpR [fb] a c := h.trans k (fun _ hx => .inl hx)
theorem modeN_names (s : Sc) : (modeN s).map (·.1) = s.modes.map (·.name) := by unfold modeN; rw [List.map_map]; rfl
theorem defN_names (s : Sc) : (defN s).map (·.1) = defsN s := by unfold defN defsN; rw [List.map_map]; rfl
theorem name_Q {Q : Exit → Act → World → Prop} {x : Exit} {a : Act} {w : World} (h : ∀ V, V = w → Q x a V) : Q x a w := h w rfl
set_option maxRecDepth 100000 in
set_option maxHeartbeats 8000000 in
theorem
    read_any (
         s
          :
           Sc)
             (w0 w : World) (X : List Nat) (fb : Nat) (ev vm vd vr c3 c4 c5 : Value) (h : FS w0 w X fb ev vm vd vr c3 c4 c5 none) (hs : ScIn w0 s vm vd vr) (hml : s.modes.length ≤ 1048576) (hdl : s.defs.length ≤ 1048576) (hrl : s.rules.length ≤ 1048576) :
  Calls Tryz.prog 42 #[.pointer (some ⟨fb, 0, none⟩)] w fun e w' => e = .returned (.tuple #[]) ∧ ∃ mm md tb qa, RdN w0 w' X fb mm md tb qa ev vm vd vr c5 s (worst (notes s)) ∧ KpR [fb] w w' := by
 have HR1 := Lib.hid (fun (k : Nat) (x : Nt) (hx : (modeN s)[k]? = some x) (w' : World) (hG : Gr w0 w') (tb : Nat) (hb : boxAt w' tb [vm, vd, vr]) => read1_any s vm vd vr w' (hs.later hG) tb hb k x hx)
 have HR2 := Lib.hid (fun (k : Nat) (x : Nt) (hx : (defN s)[k]? = some x) (w' : World) (hG : Gr w0 w') (tb : Nat) (hb : boxAt w' tb [vm, vd, vr]) => read2_any s vm vd vr w' (hs.later hG) tb hb k x hx)
 have HLM := Lib.hid (show (modeN s).length = s.modes.length from by unfold modeN; simp)
 have HLD := Lib.hid (show (defN s).length = s.defs.length from by unfold defN; simp)
 have HSM := Lib.hid (show ∀ x ∈ modeN s, x.1.size ≤ maxLen from fun x hx => by
  obtain ⟨m, hm, rfl⟩ := List.mem_map.1 hx
  exact (hs.modesO m hm).1)
 have HSD := Lib.hid (show ∀ x ∈ defN s, x.1.size ≤ maxLen from fun x hx => by
  obtain ⟨d, hd, rfl⟩ := List.mem_map.1 hx
  rw [← hs.hd] at hd
  obtain ⟨p, hp, rfl⟩ := List.mem_map.1 hd
  exact (hs.defsI p hp).name)
 obtain ⟨dl, rl, hd, hr, hm, hmo, hmn, hmb, hds, hdi, hdn, hdb, hrs, hri, hrn, hrb⟩ := hs
 have HD := Lib.hid hds
 have HDI := Lib.hid hdi
 have HR := Lib.hid hrs
 have HRI := Lib.hid hri
 have HHD := Lib.hid hd
 have HHR := Lib.hid hr
 obtain ⟨pm, cm, evm⟩ := hm.len
 obtain ⟨pd, cd, evd⟩ := hds.len
 obtain ⟨pr, cr, evr⟩ := hrs.len
 have hdl2 : dl.length ≤ 1048576 := by rw [← hd, List.length_map] at hdl; exact hdl
 have hrl2 : rl.length ≤ 1048576 := by rw [← hr, List.length_map] at hrl; exact hrl
 have HDL := Lib.hid (show s.defs.length = dl.length by rw [← hd, List.length_map])
 obtain ⟨nm', hnm⟩ : ∃ n, s.modes.length = n := ⟨_, rfl⟩
 obtain ⟨nd, hnd⟩ : ∃ n, dl.length = n := ⟨_, rfl⟩
 obtain ⟨nr, hnr⟩ : ∃ n, rl.length = n := ⟨_, rfl⟩
 rw [hnm] at evm hml
 rw [hnd] at evd hdl2
 rw [hnr] at evr hrl2
 obtain ⟨bv0, k0, xf, hbad⟩ := h.box
 obtain ⟨rfl, rfl⟩ := hbad
 have HF := Lib.hid h
 have HXF := Lib.hid xf
 have HNM := Lib.hid hnm
 have HND := Lib.hid hnd
 have HNR := Lib.hid hnr
 have HMLB := Lib.hid hml
 have HDLB := Lib.hid hdl2
 have HRLB := Lib.hid hrl2
 subst evm evd evr
 clear h hnm hnd hnr hdl hrl hd hr hm hmo hmn hmb hds hdi hdn hdb hrs hri hrn hrb hml hdl2 hrl2
 go_enter Tryz.func42, Tryz.ntmps42
 obtain ⟨c_f0, c_f1, c_f2, c_f3, c_f4, c_f5, c_f6, c_f7, m_f0, m_f1, m_f2, m_f3, m_f4, m_f5, m_f6, m_f7, l_f⟩ := unb8 xf
 go_upto_region 2 with fail
 refine name_world (fun W hW => ?_)
 have xq : boxAt W w.heap.size [.pointer (some ⟨fb, 0, none⟩)] := by rw [hW]; exact (boxAt.new_atN _ _ _ rfl rfl).later (Gr.alloc _ _)
 have xs : boxAt W (w.heap.size + 1) [.slice pm nm' cm, .slice pd nd cd, .slice pr nr cr] := by rw [hW]; exact boxAt.new_atN _ _ _ rfl (by simp)
 have hgW : Gr w W := by rw [hW]; exact (Gr.alloc _ _).trans (Gr.alloc _ _)
 have nX : ∀ x ∈ X, x < w.heap.size := fun x hx => (HF.out.low x hx).2
 have NQ := Lib.hid (show w.heap.size ∉ X from fun hm => by have := nX _ hm; omega)
 have NS := Lib.hid (show w.heap.size + 1 ∉ X from fun hm => by have := nX _ hm; omega)
 have hfbX := HF.out.mem
 have NQ1 := Lib.hid (show w.heap.size ∉ [fb] from fun hm => NQ.out (by rw [List.mem_singleton.1 hm]; exact hfbX))
 have NS1 := Lib.hid (show w.heap.size + 1 ∉ [fb] from fun hm => NS.out (by rw [List.mem_singleton.1 hm]; exact hfbX))
 obtain ⟨qa, hqa⟩ : ∃ q, w.heap.size = q := ⟨_, rfl⟩
 obtain ⟨tb, htb⟩ : ∃ q, w.heap.size + 1 = q := ⟨_, rfl⟩
 rw [hqa] at xq NQ NQ1
 rw [htb] at xs NS NS1
 have HQA := Lib.hid hqa
 have HTB := Lib.hid htb
 have hW2 : W.heap.size = tb + 1 := by rw [hW, ← htb]; simp
 have HWS := Lib.hid hW2
 rw [htb]
 simp only [hqa]
 have XQ := Lib.hid xq
 have XS := Lib.hid xs
 have HGW := Lib.hid hgW
 clear c_f0 c_f1 c_f2 c_f3 c_f4 c_f5 c_f6 c_f7 m_f0 m_f1 m_f2 m_f3 m_f4 m_f5 m_f6 m_f7 l_f
 clear hW hgW nX hfbX xf hqa htb hW2 xq xs
 have HF2 := Lib.hid (HF.out.later HGW.out)
 have HC2 := Lib.hid (fun (wq : World) (hN : Gr W wq) => numbered_modes (modeN s) (by rw [HLM.out.trans HNM.out]; exact HMLB.out) HSM.out w0 wq X fb tb ev (.slice pm nm' cm) (.slice pd nd cd) (.slice pr nr cr) c3 c4 c5 _ (HF2.out.later hN) (fun k x hx w' hk => HR1.out k x hx w' (KpR.toGr (HF2.out.later hN).gr hk (fun x hx => (HF2.out.low x hx).1)) tb (hk.box (XS.out.later hN) NS.out (by simp))))
 rw [HLM.out.trans HNM.out] at HC2
 refine wp_region_S (KpR [fb] W) (.take 0 (.take 1 (.take 2 (.take 3 (.take 4 (.take 5 (.take 6 (.run 7 false (.take 8 (.take 9 (.run 10 false .nil))))))))))) (KpR.gr (Gr.drew W)) (by kernel_rfl) (by kernel_rfl) ?_
 simp only [pickOps, nthOp]
 intro wq2 hN hG
 repeat (first | (refine wpG_skip_take ?_ ?_; (focus rfl); try simp only [Act.put, List.setIfInBounds_toArray, List.set_cons_zero, List.set_cons_succ]) | (refine wpG_skip_run ?_ ?_; (focus rfl); try simp only [Act.put, List.setIfInBounds_toArray, List.set_cons_zero, List.set_cons_succ]) | (refine wpG_take ?_ ?_; (focus rfl); apply Exists.intro; refine ⟨fun w' hw' => ?_, ?_⟩; (focus (have zq := (hw'.box XQ.out NQ1.out (by simp)).cell 0 _ rfl; have zs := (hw'.box XS.out NS1.out (by simp)).cell 0 _ rfl; go_simp; (try rfl); done)); try simp only [Act.put, List.setIfInBounds_toArray, List.set_cons_zero, List.set_cons_succ]))
 refine wpG_run ?_ (fun K hK => ?_)
 focus rfl
 go_simp
 go_at_call 75
 (with_reducible refine (HC2.out _ hN).mono ?_); rintro e w2 ⟨mm, rfl, hml2, hmf2, hfs2, hkp2⟩
 (try dsimp only)
 replace hG := kpr1 hG hkp2
 refine hK.out _ _ hG ?_
 clear hK K
 (try simp only [Act.put, List.setIfInBounds_toArray, List.set_cons_zero, List.set_cons_succ])
 repeat (first | (refine wpG_skip_take ?_ ?_; (focus rfl); try simp only [Act.put, List.setIfInBounds_toArray, List.set_cons_zero, List.set_cons_succ]) | (refine wpG_skip_run ?_ ?_; (focus rfl); try simp only [Act.put, List.setIfInBounds_toArray, List.set_cons_zero, List.set_cons_succ]) | (refine wpG_take ?_ ?_; (focus rfl); apply Exists.intro; refine ⟨fun w' hw' => ?_, ?_⟩; (focus (skip; go_simp; (try rfl); done)); try simp only [Act.put, List.setIfInBounds_toArray, List.set_cons_zero, List.set_cons_succ]))
 obtain ⟨bv2, k2, xf2, _⟩ := hfs2.box
 have zf := xf2.cell 3 _ rfl
 have zm := xf2.mark 3 _ rfl
 have zl := xf2.lt (Nat.succ_pos _)
 refine wpG_run ?_ (fun K hK => ?_)
 focus rfl
 go_simp
 refine hK.out _ _ (hG.put (.inr (by simp)) _) ?_
 clear hK K zf zm zl
 (try simp only [Act.put, List.setIfInBounds_toArray, List.set_cons_zero, List.set_cons_succ])
 refine wpG_done ?_
 refine name_Q (fun V2 hV => ?_)
 have HFS2 := Lib.hid (show FS w0 V2 X fb ev (.slice pm nm' cm) (.slice pd nd cd) (.slice pr nr cr) (.map (some mm)) c4 c5 _ by rw [hV]; exact hfs2.put 3 (.map (some mm)) _ _ _ _ _ _ (fun _ _ => rfl) (by omega))
 have hme2 : mm ≠ fb := fun e => by have := (hfs2.low fb hfs2.mem); have := (HF2.out.low fb HF2.out.mem).2; have := hN.size; omega
 have HMF2 := Lib.hid (show MapF V2 mm _ _ by rw [hV]; exact hmf2.far _ _ (Ne.symm hme2))
 have HKP2 := Lib.hid (show KpR [fb] W V2 by rw [hV]; exact hG.put (.inr (by simp)) _)
 have HME2 := Lib.hid hme2
 have HML2 := Lib.hid (Nat.le_trans hN.size hml2)
 clear hV hme2 hmf2 hfs2 hkp2 hml2 hG xf2 HC2 hN
 have xs2 := HKP2.out.box XS.out NS1.out (by simp)
 have xq2 := HKP2.out.box XQ.out NQ1.out (by simp)
 obtain ⟨bw2, kw2, xf2, _⟩ := HFS2.out.box
 obtain ⟨c_s0, c_s1, c_s2, m_s0, m_s1, m_s2, l_s⟩ := unb3 xs2
 have c_q0 := xq2.cell 0 _ rfl
 have m_q0 := xq2.mark 0 _ rfl
 have l_q := xq2.lt (Nat.succ_pos _)
 obtain ⟨c_f0, c_f1, c_f2, c_f3, c_f4, c_f5, c_f6, c_f7, m_f0, m_f1, m_f2, m_f3, m_f4, m_f5, m_f6, m_f7, l_f⟩ := unb8 xf2
 by_cases hz : nm' = 0
 rotate_left
 focus
  have hzI : ((nm' : Int) == 0) = false := by rw [beq_eq_false_iff_ne]; omega
  have HMN := Lib.hid (show modesN s = (modeN s).map (·.1) from by
   rw [modeN_names]; unfold modesN
   rw [if_neg (fun h => by have := HNM.out; rw [h] at this; simp at this; omega)])
  clear hz
  go_step
  go_upto_region 5 with fail
  refine name_world (fun V3 hV => ?_)
  have HFS3 := Lib.hid (show FS w0 V3 X fb ev (.slice pm nm' cm) (.slice pd nd cd) (.slice pr nr cr) (.map (some mm)) c4 c5 (worst (dups [] (modeN s))) by rw [hV]; exact HFS2.out)
  have HMF3 := Lib.hid (show ∃ n, MapF V3 mm n (numF (modesN s)) by rw [hV, HMN.out]; exact ⟨_, HMF2.out⟩)
  have HKP3 := Lib.hid (show KpR [fb] W V3 by rw [hV]; exact HKP2.out)
  clear c_s0 c_s1 c_s2 m_s0 m_s1 m_s2 l_s
  clear c_q0 m_q0 l_q
  clear c_f0 c_f1 c_f2 c_f3 c_f4 c_f5 c_f6 c_f7 m_f0 m_f1 m_f2 m_f3 m_f4 m_f5 m_f6 m_f7 l_f
  clear hV hzI HMN xs2 xq2 xf2
 rotate_left
 focus
  have hzI : ((nm' : Int) == 0) = true := by rw [hz]; rfl
  have hnil : s.modes = [] := List.eq_nil_of_length_eq_zero (HNM.out.trans hz)
  have HNIL := Lib.hid (show dups [] (modeN s) = [] by unfold modeN; rw [hnil]; rfl)
  have HMN := Lib.hid (show modesN s = [⟨#[115, 116, 97, 114, 116]⟩] by unfold modesN; rw [if_pos hnil])
  have HMK := Lib.hid (show numF ((modeN s).map (·.1)) = numF [] by unfold modeN; rw [hnil]; rfl)
  clear hnil hz
  go_step
  go_upto_region 5 with (first
   | (at_mapUpdate; refine wpList_storeF rfl _ _ _ rfl _ _ _ HMF2.out ⟨#[115, 116, 97, 114, 116]⟩ (show (5 : Nat) ≤ maxLen by decide) (by have := HMLB.out; unfold maxLen; omega) 0 (wf_fit (by unfold fit64; omega)) rfl rfl rfl ?_; intro w4 hmf4 hg4; have HMF4 := Lib.hid hmf4; have HG4 := Lib.hid hg4; clear hmf4 hg4)
   | go_in)
  refine name_world (fun V3 hV => ?_)
  have HFS3 := Lib.hid (show FS w0 V3 X fb ev (.slice pm nm' cm) (.slice pd nd cd) (.slice pr nr cr) (.map (some mm)) c4 c5 (worst (dups [] (modeN s))) by
   have h2 := HFS2.out
   rw [HNIL.out] at h2 ⊢
   rw [hV]
   exact FS.keep0 (Y := [mm]) h2 ((KpR.refl [mm] V2).grown HG4.out (fun k hk => by injection hk with hk; subst hk; right; simp)) (fun x hx => by
    rw [List.mem_singleton.1 hx]
    exact ⟨Nat.le_trans HF2.out.gr.size HML2.out, HME2.out⟩))
  have HMF3 := Lib.hid (show ∃ n, MapF V3 mm n (numF (modesN s)) by
   rw [hV, HMN.out]
   refine ⟨_, HMF4.out.same (fun s => ?_)⟩
   rw [HMK.out]
   exact (numF_new (l := []) rfl s).symm)
  have HKP3 := Lib.hid (show KpR [fb] W V3 by rw [hV]; exact HKP2.out.grown HG4.out (fun k hk => by injection hk with hk; subst hk; left; exact HML2.out))
  clear c_s0 c_s1 c_s2 m_s0 m_s1 m_s2 l_s
  clear c_q0 m_q0 l_q
  clear c_f0 c_f1 c_f2 c_f3 c_f4 c_f5 c_f6 c_f7 m_f0 m_f1 m_f2 m_f3 m_f4 m_f5 m_f6 m_f7 l_f
  clear hV HNIL HMN HMK hzI xs2 xq2 xf2 HG4 HMF4
 all_goals
  have XQ5 := Lib.hid (HKP3.out.box XQ.out NQ1.out (by simp))
  have XS5 := Lib.hid (HKP3.out.box XS.out NS1.out (by simp))
  have HC5 := Lib.hid (fun (wq : World) (hN : Gr V3 wq) => numbered_defs (defN s) (by rw [HLD.out.trans (HDL.out.trans HND.out)]; exact HDLB.out) HSD.out w0 wq X fb tb ev (.slice pm nm' cm) (.slice pd nd cd) (.slice pr nr cr) (.map (some mm)) c4 c5 _ (HFS3.out.later hN) (fun k x hx w' hk => HR2.out k x hx w' (KpR.toGr (HFS3.out.later hN).gr hk (fun x hx => (HFS3.out.low x hx).1)) tb (hk.box (XS5.out.later hN) NS.out (by simp))))
  rw [HLD.out.trans (HDL.out.trans HND.out)] at HC5
  refine wp_region_S (KpR [fb] V3) (.take 0 (.take 1 (.take 2 (.take 3 (.take 4 (.take 5 (.take 6 (.run 7 false (.take 8 (.take 9 (.run 10 false .nil))))))))))) (KpR.gr (Gr.drew V3)) (by kernel_rfl) (by kernel_rfl) ?_
  simp only [pickOps, nthOp]
  intro wq5 hN hG
  repeat (first | (refine wpG_skip_take ?_ ?_; (focus rfl); try simp only [Act.put, List.setIfInBounds_toArray, List.set_cons_zero, List.set_cons_succ]) | (refine wpG_skip_run ?_ ?_; (focus rfl); try simp only [Act.put, List.setIfInBounds_toArray, List.set_cons_zero, List.set_cons_succ]) | (refine wpG_take ?_ ?_; (focus rfl); apply Exists.intro; refine ⟨fun w' hw' => ?_, ?_⟩; (focus (have zq := (hw'.box XQ5.out NQ1.out (by simp)).cell 0 _ rfl; have zs := (hw'.box XS5.out NS1.out (by simp)).cell 1 _ rfl; go_simp; (try rfl); done)); try simp only [Act.put, List.setIfInBounds_toArray, List.set_cons_zero, List.set_cons_succ]))
  refine wpG_run ?_ (fun K hK => ?_)
  focus rfl
  go_simp
  go_at_call 75
  (with_reducible refine (HC5.out _ hN).mono ?_); rintro e w2 ⟨md, rfl, hml5, hmf5, hfs5, hkp5⟩
  (try dsimp only)
  replace hG := kpr1 hG hkp5
  refine hK.out _ _ hG ?_
  clear hK K
  (try simp only [Act.put, List.setIfInBounds_toArray, List.set_cons_zero, List.set_cons_succ])
  repeat (first | (refine wpG_skip_take ?_ ?_; (focus rfl); try simp only [Act.put, List.setIfInBounds_toArray, List.set_cons_zero, List.set_cons_succ]) | (refine wpG_skip_run ?_ ?_; (focus rfl); try simp only [Act.put, List.setIfInBounds_toArray, List.set_cons_zero, List.set_cons_succ]) | (refine wpG_take ?_ ?_; (focus rfl); apply Exists.intro; refine ⟨fun w' hw' => ?_, ?_⟩; (focus (skip; go_simp; (try rfl); done)); try simp only [Act.put, List.setIfInBounds_toArray, List.set_cons_zero, List.set_cons_succ]))
  obtain ⟨bv5, k5, xf5, _⟩ := hfs5.box
  have zf := xf5.cell 4 _ rfl
  have zm := xf5.mark 4 _ rfl
  have zl := xf5.lt (Nat.succ_pos _)
  refine wpG_run ?_ (fun K hK => ?_)
  focus rfl
  go_simp
  refine hK.out _ _ (hG.put (.inr (by simp)) _) ?_
  clear hK K zf zm zl
  (try simp only [Act.put, List.setIfInBounds_toArray, List.set_cons_zero, List.set_cons_succ])
  refine wpG_done ?_
  refine name_Q (fun V5 hV => ?_)
  have HFS5 := Lib.hid (show FS w0 V5 X fb ev (.slice pm nm' cm) (.slice pd nd cd) (.slice pr nr cr) (.map (some mm)) (.map (some md)) c5 _ by rw [hV]; exact hfs5.put 4 (.map (some md)) _ _ _ _ _ _ (fun _ _ => rfl) (by omega))
  have hme5 : md ≠ fb := fun e => by have := (hfs5.low fb hfs5.mem); have := (HFS3.out.low fb HFS3.out.mem).2; have := hN.size; omega
  have HMF5 := Lib.hid (show MapF V5 md _ _ by rw [hV]; exact hmf5.far _ _ (Ne.symm hme5))
  have HKP5 := Lib.hid (show KpR [fb] V3 V5 by rw [hV]; exact hG.put (.inr (by simp)) _)
  have HME5 := Lib.hid hme5
  have HML5 := Lib.hid (Nat.le_trans hN.size hml5)
  clear hV hme5 hmf5 hfs5 hkp5 hml5 hG xf5 HC5 hN
  have HRD := Lib.hid (show RdN w0 V5 X fb mm md tb qa ev (.slice pm nm' cm) (.slice pd nd cd) (.slice pr nr cr) c5 s (worst (dups [] (modeN s) ++ dups [] (defN s))) from ⟨by rw [← worst_app]; exact HFS5.out, HMF3.out.imp (fun n h => h.heap (HKP5.out.block _ h.lt (fun hm => HME2.out (List.mem_singleton.1 hm)))), ⟨_, by have := HMF5.out; rw [defN_names] at this; exact this⟩, HKP5.out.box XS5.out NS1.out (by simp), HKP5.out.box XQ5.out NQ1.out (by simp), HME2.out, HME5.out, fun e => NS1.out (by rw [e]; simp), fun e => NQ1.out (by rw [e]; simp)⟩)
  have HKW := Lib.hid (kpr1 (kpr1 (KpR.gr HGW.out) HKP3.out) HKP5.out)
  obtain ⟨A2, hA2⟩ : ∃ A, dups [] (modeN s) ++ dups [] (defN s) = A := ⟨_, rfl⟩
  rw [hA2] at HRD
  have HA2 := Lib.hid hA2
  have xs5 := HRD.out.sbox
  obtain ⟨c_s0, c_s1, c_s2, m_s0, m_s1, m_s2, l_s⟩ := unb3 xs5
  clear hA2 HFS5 HMF3 HMF5 HME2 HME5 HKP5 HKP3 XS5 XQ5 XS XQ HFS3 HFS2 HMF2 HKP2 HML2 HML5 HF2 HF HXF HR1 HR2 HSM HSD HLM HLD NQ NS NQ1 NS1 HQA HTB HWS HGW
  go_step
  go_wp2_with fail
  clear c_s0 c_s1 c_s2 m_s0 m_s1 m_s2 l_s
  clear xs5
  go_loopw [51] (fun i wr => ∃ k : Nat, k ≤ nd ∧ i = .int .i64 (k : Int) ∧ Hid (RdN w0 wr X fb mm md tb qa ev (.slice pm nm' cm) (.slice pd nd cd) (.slice pr nr cr) c5 s (worst (A2 ++ (dl.take k).flatMap (fun p : Df × List Value => lost (defsN s) (refsE p.1.ex))))) ∧ Hid (KpR [fb] w wr)) (fun i _ => nd - (intOf i).toNat)
  case atStart => exact ⟨0, Nat.zero_le _, rfl, Lib.hid (by simpa using HRD.out), HKW⟩
  case round =>
   obtain ⟨k, hk, rfl, HRk, HKk⟩ := hrel
   rcases Nat.lt_or_ge k nd with hkn | hkn
   ·
    have hkI : (k : Int) < (nd : Int) := by omega
    have HKN := Lib.hid hkn
    have hnI : (nd : Int) ≤ 1048576 := by have := HDLB.out; omega
    obtain ⟨⟨d, cs⟩, hx⟩ : ∃ x, dl[k]? = some x := ⟨_, List.getElem?_eq_getElem (by rw [HND.out]; exact hkn)⟩
    have hg := HRk.out.fs.gr
    have hD := HD.out
    rw [HND.out] at hD
    obtain ⟨b2, off, hpm, hbl, hc⟩ := elem_at hD (fun x hx => (HDI.out x hx).len) HND.out hx
    have hok := HDI.out _ (List.mem_of_getElem? hx)
    dsimp only at hok hc
    cases hok with
    | mk ec hee hnn hpp =>
    obtain ⟨nmd, po, ex⟩ := d
    dsimp only at hee hnn hpp hc
    obtain ⟨op, ps, s1, tx, mn, mx, p1, n1, c1, rfl⟩ := hee.formN
    subst hpm
    have k0 : wr.cell? ⟨b2, off + k * 12, none⟩ = some (.string nmd) := hg.cell (hc 0 _ rfl)
    have k1 : wr.cell? ⟨b2, off + k * 12 + 1, none⟩ = some (.int .i64 po) := hg.cell (hc 1 _ rfl)
    have k2 : wr.cell? ⟨b2, off + k * 12 + 2, none⟩ = some (.int .i64 op) := hg.cell (hc 2 _ rfl)
    have k3 : wr.cell? ⟨b2, off + k * 12 + 3, none⟩ = some (.int .i64 ps) := hg.cell (hc 3 _ rfl)
    have k4 : wr.cell? ⟨b2, off + k * 12 + 4, none⟩ = some (.int .u64 (wd s1 0)) := hg.cell (hc 4 _ rfl)
    have k5 : wr.cell? ⟨b2, off + k * 12 + 5, none⟩ = some (.int .u64 (wd s1 1)) := hg.cell (hc 5 _ rfl)
    have k6 : wr.cell? ⟨b2, off + k * 12 + 6, none⟩ = some (.int .u64 (wd s1 2)) := hg.cell (hc 6 _ rfl)
    have k7 : wr.cell? ⟨b2, off + k * 12 + 7, none⟩ = some (.int .u64 (wd s1 3)) := hg.cell (hc 7 _ rfl)
    have k8 : wr.cell? ⟨b2, off + k * 12 + 8, none⟩ = some (.string tx) := hg.cell (hc 8 _ rfl)
    have k9 : wr.cell? ⟨b2, off + k * 12 + 9, none⟩ = some (.int .i64 mn) := hg.cell (hc 9 _ rfl)
    have k10 : wr.cell? ⟨b2, off + k * 12 + 10, none⟩ = some (.int .i64 mx) := hg.cell (hc 10 _ rfl)
    have k11 : wr.cell? ⟨b2, off + k * 12 + 11, none⟩ = some (.slice p1 n1 c1) := hg.cell (hc 11 _ rfl)
    have hbr := Nat.lt_of_lt_of_le hbl hg.size
    have xq := HRk.out.qbox
    have c_q0 := xq.cell 0 _ rfl
    have m_q0 := xq.mark 0 _ rfl
    have l_q := xq.lt (Nat.succ_pos _)
    have HX := Lib.hid hx
    obtain ⟨nD, hmd⟩ := HRk.out.dmap
    have HC := Lib.hid (fun W1 (hb1 : Gr wr W1) => refs_any w0 W1 X fb md nD (numF (defsN s)) (defsN s) ev (.slice pm nm' cm) (.slice (some ⟨b2, off, none⟩) nd cd) (.slice pr nr cr) (.map (some mm)) c5 _ (HRk.out.fs.later hb1) (hmd.later hb1) HRk.out.n2 (numF_some _) ex _ hee)
    unfold exCells at HC
    try dsimp only at HC
    clear hx hk hkn hc hee hnn hpp hmd hD hbl hg
    go_wp2_with fail
    go_at_call 79
    refine name_calls (fun W1 hW1 => ?_)
    have hb1 : Gr wr W1 := by rw [hW1]; exact Gr.alloc _ _
    clear hW1
    (with_reducible refine (HC.out W1 hb1).mono ?_); rintro e w3 ⟨rfl, hf3, hk3⟩
    have HR3 := Lib.hid (show RdN w0 w3 X fb mm md tb qa ev (.slice pm nm' cm) (.slice (some ⟨b2, off, none⟩) nd cd) (.slice pr nr cr) c5 s (worst (A2 ++ (dl.take (k + 1)).flatMap (fun p : Df × List Value => lost (defsN s) (refsE p.1.ex)))) by
     have := HRk.out.step (kpr1 (KpR.gr hb1) hk3) hf3
     rw [worst_app, List.append_assoc] at this
     rw [flat_snoc (fun p : Df × List Value => lost (defsN s) (refsE p.1.ex)) dl k _ HX.out]
     exact this)
    have HK3 := Lib.hid (kpr1 HKk.out (kpr1 (KpR.gr hb1) hk3))
    clear c_q0 m_q0 l_q
    clear hb1 hf3 hk3 xq
    go_wp2_with fail
    go_roundw
    case rel => exact ⟨k + 1, HKN.out, by go_num, HR3, HK3⟩
    case measure => have := HKN.out; simp [intOf]; omega
   ·
    have hkI : ¬ (
           k
            :
             Int) < (nd : Int) := by omega
    have HR1 := Lib.hid (show RdN w0 wr X fb mm md tb qa ev (.slice pm nm' cm) (.slice pd nd cd) (.slice pr nr cr) c5 s (worst (A2 ++ dl.flatMap (fun p : Df × List Value => lost (defsN s) (refsE p.1.ex)))) by
     have := HRk.out
     rw [List.take_of_length_le (by have := HND.out; omega)] at this
     exact this)
    obtain ⟨A3, hA3⟩ : ∃ A, A2 ++ dl.flatMap (fun p : Df × List Value => lost (defsN s) (refsE p.1.ex)) = A := ⟨_, rfl⟩
    rw [hA3] at HR1
    have HA3 := Lib.hid hA3
    have HK1 := HKk
    have xs6 := HR1.out.sbox
    obtain ⟨c_s0, c_s1, c_s2, m_s0, m_s1, m_s2, l_s⟩ := unb3 xs6
    clear hk hkn HRk HKk hA3
    go_wp2_with fail
    clear c_s0 c_s1 c_s2 m_s0 m_s1 m_s2 l_s
    clear xs6
    go_loopw [63] (fun i wr => ∃ k : Nat, k ≤ nr ∧ i = .int .i64 (k : Int) ∧ Hid (RdN w0 wr X fb mm md tb qa ev (.slice pm nm' cm) (.slice pd nd cd) (.slice pr nr cr) c5 s (worst (A3 ++ (rl.take k).flatMap (fun p : Rl × List Value => (trailsR p.1).flatMap fun e => lost (defsN s) (refsE e))))) ∧ Hid (KpR [fb] w wr)) (fun i _ => nr - (intOf i).toNat)
    case atStart => exact ⟨0, Nat.zero_le _, rfl, Lib.hid (by simpa using HR1.out), HK1⟩
    case round =>
     clear HR1 HK1
     obtain ⟨k, hk, rfl, HRk, HKk⟩ := hrel
     rcases Nat.lt_or_ge k nr with hkn | hkn
     ·
      have hkI : (k : Int) < (nr : Int) := by omega
      have HKN := Lib.hid hkn
      have hnI : (nr : Int) ≤ 1048576 := by have := HRLB.out; omega
      obtain ⟨⟨r, cs⟩, hx⟩ : ∃ x, rl[k]? = some x := ⟨_, List.getElem?_eq_getElem (by rw [HNR.out]; exact hkn)⟩
      have hg := HRk.out.fs.gr
      have hD := HR.out
      rw [HNR.out] at hD
      obtain ⟨b2, off, hpm, hbl, hc⟩ := elem_at hD (fun x hx => (HRI.out x hx).len) HNR.out hx
      have hok := HRI.out _ (List.mem_of_getElem? hx)
      dsimp only at hok hc
      have HY := Lib.hid (fun w' => trails_any r cs w0 w' hok)
      obtain ⟨po, al, pum, num, cum, op, ps, s1, tx, mn, mx, p1, n1, c1, ht, op2, ps2, s2, tx2, mn2, mx2, p2, n2, c2, lb, pua, nua, cua, rfl⟩ := hok.form
      subst hpm
      have HCELL := Lib.hid (fun t u (h : ([.int .i64 po, .bool al, .slice pum num cum, .int .i64 op, .int .i64 ps, .int .u64 (wd s1 0), .int .u64 (wd s1 1), .int .u64 (wd s1 2), .int .u64 (wd s1 3), .string tx, .int .i64 mn, .int .i64 mx, .slice p1 n1 c1, .bool ht, .int .i64 op2, .int .i64 ps2, .int .u64 (wd s2 0), .int .u64 (wd s2 1), .int .u64 (wd s2 2), .int .u64 (wd s2 3), .string tx2, .int .i64 mn2, .int .i64 mx2, .slice p2 n2 c2, .string lb, .slice pua nua cua] : List Value)[t]? = some u) => hg.cell (hc t u h))
      have hbr := Nat.lt_of_lt_of_le hbl hg.size
      have HX := Lib.hid hx
      try dsimp only at HY
      clear hx hok hk hkn hc hD hbl hg
      go_wp2_with (first | ((with_reducible refine wpList_plain ?_ (fun _ hK => ?_)); (focus rfl); refine wp_load_at 71 (.tmp 65) rfl b2 (off + k * 26) rfl [.int .i64 po, .bool al, .slice pum num cum, .int .i64 op, .int .i64 ps, .int .u64 (wd s1 0), .int .u64 (wd s1 1), .int .u64 (wd s1 2), .int .u64 (wd s1 3), .string tx, .int .i64 mn, .int .i64 mx, .slice p1 n1 c1, .bool ht, .int .i64 op2, .int .i64 ps2, .int .u64 (wd s2 0), .int .u64 (wd s2 1), .int .u64 (wd s2 2), .int .u64 (wd s2 3), .string tx2, .int .i64 mn2, .int .i64 mx2, .slice p2 n2 c2, .string lb, .slice pua nua cua] _ HCELL.out Tryz.underlying71 rfl (by kernel_rfl) (hK _ _ ?_)) | ((with_reducible refine wpList_plain ?_ (fun _ hK => ?_)); (focus rfl); refine wp_store_row 71 (.tmp 6) (.tmp 66) rfl wr.heap.size #[.int .i64 po, .bool al, .slice pum num cum, .int .i64 op, .int .i64 ps, .int .u64 (wd s1 0), .int .u64 (wd s1 1), .int .u64 (wd s1 2), .int .u64 (wd s1 3), .string tx, .int .i64 mn, .int .i64 mx, .slice p1 n1 c1, .bool ht, .int .i64 op2, .int .i64 ps2, .int .u64 (wd s2 0), .int .u64 (wd s2 1), .int .u64 (wd s2 2), .int .u64 (wd s2 3), .string tx2, .int .i64 mn2, .int .i64 mx2, .slice p2 n2 c2, .string lb, .slice pua nua cua] rfl rfl 71 _ (heap_alloc_new wr _) (by kernel_rfl) rfl (all_ones _ rfl) (hK _ _ ?_); clear hK; refine name_wpList (fun xc_w hxc => ?_); obtain ⟨xc, xc_g, xc_s⟩ := new_row (cs := [.int .i64 po, .bool al, .slice pum num cum, .int .i64 op, .int .i64 ps, .int .u64 (wd s1 0), .int .u64 (wd s1 1), .int .u64 (wd s1 2), .int .u64 (wd s1 3), .string tx, .int .i64 mn, .int .i64 mx, .slice p1 n1 c1, .bool ht, .int .i64 op2, .int .i64 ps2, .int .u64 (wd s2 0), .int .u64 (wd s2 1), .int .u64 (wd s2 2), .int .u64 (wd s2 3), .string tx2, .int .i64 mn2, .int .i64 mx2, .slice p2 n2 c2, .string lb, .slice pua nua cua]) hxc; clear hxc; have xc_h := boxAt.row xc; have l_c := xc.lt (Nat.succ_pos _)) | ((with_reducible refine wpList_plain ?_ (fun _ hK => ?_)); (focus rfl); refine wp_load_at 71 (.tmp 6) rfl wr.heap.size (0) rfl [.int .i64 po, .bool al, .slice pum num cum, .int .i64 op, .int .i64 ps, .int .u64 (wd s1 0), .int .u64 (wd s1 1), .int .u64 (wd s1 2), .int .u64 (wd s1 3), .string tx, .int .i64 mn, .int .i64 mx, .slice p1 n1 c1, .bool ht, .int .i64 op2, .int .i64 ps2, .int .u64 (wd s2 0), .int .u64 (wd s2 1), .int .u64 (wd s2 2), .int .u64 (wd s2 3), .string tx2, .int .i64 mn2, .int .i64 mx2, .slice p2 n2 c2, .string lb, .slice pua nua cua] _ xc_h Tryz.underlying71 rfl (by kernel_rfl) (hK _ _ ?_)))
      go_at_call 80
      (with_reducible refine (HY.out _).mono ?_); rintro e w3 ⟨⟨bt, el, rfl, hbt, helm, hel2, hsl, hin⟩, hgt⟩
      obtain ⟨ne, hne⟩ : ∃ n, el.length = n := ⟨_, rfl⟩
      rw [hne] at hsl ⊢
      have HNE := Lib.hid hne
      have hneI : (ne : Int) ≤ 2 := by omega
      have HEL := Lib.hid helm
      have HSL := Lib.hid hsl
      have HIN := Lib.hid hin
      have HB0 := Lib.hid (HRk.out.later (xc_g.trans hgt))
      have HKB := Lib.hid (kpr1 HKk.out (KpR.gr (xc_g.trans hgt)))
      have HBT := Lib.hid (show bt ≠ fb from fun e => by have := (HRk.out.fs.low fb HRk.out.fs.mem).2; have := xc_g.size; omega)
      obtain ⟨B, hB⟩ : ∃ B, A3 ++ (rl.take k).flatMap (fun p : Rl × List Value => (trailsR p.1).flatMap fun e => lost (defsN s) (refsE e)) = B := ⟨_, rfl⟩
      rw [hB] at HB0
      have HBE := Lib.hid hB
      clear xc_h l_c xc_g xc_s hgt hbt helm hel2 hsl hin hne hB xc HRk HKk
      go_wp2_with fail
      go_loopw [70] (fun i wr => ∃ j : Nat, j ≤ ne ∧ i = .int .i64 (j : Int) ∧ Hid (RdN w0 wr X fb mm md tb qa ev (.slice pm nm' cm) (.slice pd nd cd) (.slice (some ⟨b2, off, none⟩) nr cr) c5 s (worst (B ++ (el.take j).flatMap (fun p : Ex × List Value => lost (defsN s) (refsE p.1))))) ∧ Hid (KpR [fb] w3 wr)) (fun i _ => ne - (intOf i).toNat)
      case atStart => exact ⟨0, Nat.zero_le _, rfl, Lib.hid (by simpa using HB0.out), Lib.hid (KpR.refl _ _)⟩
      case round =>
       obtain ⟨j, hj, rfl, HRj, HKj⟩ := hrel
       rcases Nat.lt_or_ge j ne with hjn | hjn
       ·
        have hjI : (j : Int) < (ne : Int) := by omega
        have HJN := Lib.hid hjn
        obtain ⟨⟨ex, cs⟩, hx⟩ : ∃ x, el[j]? = some x := ⟨_, List.getElem?_eq_getElem (by rw [HNE.out]; exact hjn)⟩
        have hD := HSL.out
        obtain ⟨b4, off4, hp4, hbl, hc⟩ := elem_at hD (fun x hx => (HIN.out x hx).len) HNE.out hx
        have hee := HIN.out _ (List.mem_of_getElem? hx)
        dsimp only at hee hc
        obtain ⟨op, ps, s1, tx, mn, mx, p1, n1, c1, rfl⟩ := hee.formN
        injection hp4 with hp4
        injection hp4 with hp4 hp5
        subst hp4 hp5
        simp only [Nat.zero_add] at hc
        have hkc : ∀ t u, ([.int .i64 op, .int .i64 ps, .int .u64 (wd s1 0), .int .u64 (wd s1 1), .int .u64 (wd s1 2), .int .u64 (wd s1 3), .string tx, .int .i64 mn, .int .i64 mx, .slice p1 n1 c1] : List Value)[t]? = some u → wr.cell? ⟨bt, j * 10 + t, none⟩ = some u := fun t u h => HKj.out.cell (hc t u h) (fun hm => HBT.out (List.mem_singleton.1 hm))
        have k0 : wr.cell? ⟨bt, j * 10, none⟩ = some (.int .i64 op) := hkc 0 _ rfl
        have k1 : wr.cell? ⟨bt, j * 10 + 1, none⟩ = some (.int .i64 ps) := hkc 1 _ rfl
        have k2 : wr.cell? ⟨bt, j * 10 + 2, none⟩ = some (.int .u64 (wd s1 0)) := hkc 2 _ rfl
        have k3 : wr.cell? ⟨bt, j * 10 + 3, none⟩ = some (.int .u64 (wd s1 1)) := hkc 3 _ rfl
        have k4 : wr.cell? ⟨bt, j * 10 + 4, none⟩ = some (.int .u64 (wd s1 2)) := hkc 4 _ rfl
        have k5 : wr.cell? ⟨bt, j * 10 + 5, none⟩ = some (.int .u64 (wd s1 3)) := hkc 5 _ rfl
        have k6 : wr.cell? ⟨bt, j * 10 + 6, none⟩ = some (.string tx) := hkc 6 _ rfl
        have k7 : wr.cell? ⟨bt, j * 10 + 7, none⟩ = some (.int .i64 mn) := hkc 7 _ rfl
        have k8 : wr.cell? ⟨bt, j * 10 + 8, none⟩ = some (.int .i64 mx) := hkc 8 _ rfl
        have k9 : wr.cell? ⟨bt, j * 10 + 9, none⟩ = some (.slice p1 n1 c1) := hkc 9 _ rfl
        have hbr := Nat.lt_of_lt_of_le hbl HKj.out.size
        have xq := HRj.out.qbox
        have c_q0 := xq.cell 0 _ rfl
        have m_q0 := xq.mark 0 _ rfl
        have l_q := xq.lt (Nat.succ_pos _)
        have HX2 := Lib.hid hx
        obtain ⟨nD, hmd⟩ := HRj.out.dmap
        have HC := Lib.hid (fun W1 (hb1 : Gr wr W1) => refs_any w0 W1 X fb md nD (numF (defsN s)) (defsN s) ev (.slice pm nm' cm) (.slice pd nd cd) (.slice (some ⟨b2, off, none⟩) nr cr) (.map (some mm)) c5 _ (HRj.out.fs.later hb1) (hmd.later hb1) HRj.out.n2 (numF_some _) ex _ hee)
        unfold exCells at HC
        try dsimp only at HC
        clear hx hj hjn hc hee hmd hD hbl hkc
        go_wp2_with fail
        go_at_call 79
        refine name_calls (fun W1 hW1 => ?_)
        have hb1 : Gr wr W1 := by rw [hW1]; exact Gr.alloc _ _
        clear hW1
        (with_reducible refine (HC.out W1 hb1).mono ?_); rintro e w4 ⟨rfl, hf3, hk3⟩
        have HR3 := Lib.hid (show RdN w0 w4 X fb mm md tb qa ev (.slice pm nm' cm) (.slice pd nd cd) (.slice (some ⟨b2, off, none⟩) nr cr) c5 s (worst (B ++ (el.take (j + 1)).flatMap (fun p : Ex × List Value => lost (defsN s) (refsE p.1)))) by
         have := HRj.out.step (kpr1 (KpR.gr hb1) hk3) hf3
         rw [worst_app, List.append_assoc] at this
         rw [flat_snoc (fun p : Ex × List Value => lost (defsN s) (refsE p.1)) el j _ HX2.out]
         exact this)
        have HK3 := Lib.hid (kpr1 HKj.out (kpr1 (KpR.gr hb1) hk3))
        clear c_q0 m_q0 l_q
        clear hb1 hf3 hk3 xq
        go_wp2_with fail
        go_roundw
        case rel => exact ⟨j + 1, HJN.out, by go_num, HR3, HK3⟩
        case measure => have := HJN.out; simp [intOf]; omega
       ·
        have hjI : ¬ (j : Int) < (ne : Int) := by omega
        have HR5 := Lib.hid (show RdN w0 wr X fb mm md tb qa ev (.slice pm nm' cm) (.slice pd nd cd) (.slice (some ⟨b2, off, none⟩) nr cr) c5 s (worst (A3 ++ (rl.take (k + 1)).flatMap (fun p : Rl × List Value => (trailsR p.1).flatMap fun e => lost (defsN s) (refsE e)))) by
         have := HRj.out
         rw [List.take_of_length_le (by have := HNE.out; omega)] at this
         rw [flat_snoc (fun p : Rl × List Value => (trailsR p.1).flatMap fun e => lost (defsN s) (refsE e)) rl k _ HX.out, ← List.append_assoc, HBE.out]
         have e : (trailsR r).flatMap (fun e => lost (defsN s) (refsE e)) = el.flatMap (fun p : Ex × List Value => lost (defsN s) (refsE p.1)) := by rw [← HEL.out, List.flatMap_map]
         dsimp only
         rw [e]
         exact this)
        have HK5 := Lib.hid (kpr1 HKB.out HKj.out)
        clear hj hjn HRj HKj
        go_wp2_with fail
        go_roundw
        case rel => exact ⟨k + 1, HKN.out, by go_num, HR5, HK5⟩
        case measure => have := HKN.out; simp [intOf]; omega
     ·
      have hkI : ¬ (
             k
              : Int) < (nr : Int) := by omega
      have HR1 := Lib.hid (show RdN w0 wr X fb mm md tb qa ev (.slice pm nm' cm) (.slice pd nd cd) (.slice pr nr cr) c5 s (worst (A3 ++ rl.flatMap (fun p : Rl × List Value => (trailsR p.1).flatMap fun e => lost (defsN s) (refsE e)))) by
       have := HRk.out
       rw [List.take_of_length_le (by have := HNR.out; omega)] at this
       exact this)
      obtain ⟨A4, hA4⟩ : ∃ A, A3 ++ rl.flatMap (fun p : Rl × List Value => (trailsR p.1).flatMap fun e => lost (defsN s) (refsE e)) = A := ⟨_, rfl⟩
      rw [hA4] at HR1
      have HA4 := Lib.hid hA4
      have HK1 := HKk
      have xs6 := HR1.out.sbox
      obtain ⟨c_s0, c_s1, c_s2, m_s0, m_s1, m_s2, l_s⟩ := unb3 xs6
      clear hk hkn HRk HKk hA4
      go_wp2_with fail
      clear c_s0 c_s1 c_s2 m_s0 m_s1 m_s2 l_s
      clear xs6
      go_loopw [83] (fun i wr => ∃ k : Nat, k ≤ nr ∧ i = .int .i64 (k : Int) ∧ Hid (RdN w0 wr X fb mm md tb qa ev (.slice pm nm' cm) (.slice pd nd cd) (.slice pr nr cr) c5 s (worst (A4 ++ (rl.take k).flatMap (fun p : Rl × List Value => lost (modesN s) (useR p.1))))) ∧ Hid (KpR [fb] w wr)) (fun i _ => nr - (intOf i).toNat)
      case atStart => exact ⟨0, Nat.zero_le _, rfl, Lib.hid (by simpa using HR1.out), HK1⟩
      case round =>
       clear HR1 HK1
       obtain ⟨k, hk, rfl, HRk, HKk⟩ := hrel
       rcases Nat.lt_or_ge k nr with hkn | hkn
       ·
        have hkI : (
              k : Int) < (nr : Int) := by omega
        have HKN := Lib.hid hkn
        have hnI : (nr : Int) ≤ 1048576 := by have := HRLB.out; omega
        obtain ⟨⟨r, cs⟩, hx⟩ : ∃ x, rl[k]? = some x := ⟨_, List.getElem?_eq_getElem (by rw [HNR.out]; exact hkn)⟩
        have hg := HRk.out.fs.gr
        have hD := HR.out
        rw [HNR.out] at hD
        obtain ⟨b2, off, hpm, hbl, hc⟩ := elem_at hD (fun x hx => (HRI.out x hx).len) HNR.out hx
        have hok := HRI.out _ (List.mem_of_getElem? hx)
        dsimp only at hok hc
        obtain ⟨po, al, pum, num, cum, op, ps, s1, tx, mn, mx, p1, n1, c1, ht, op2, ps2, s2, tx2, mn2, mx2, p2, n2, c2, lb, pua, nua, cua, rfl, hmm, hma, hsm, hsa, hmo, hao, hmb, hab⟩ := hok.formX
        subst hpm
        have HCELL := Lib.hid (fun t u (h : ([.int .i64 po, .bool al, .slice pum num cum, .int .i64 op, .int .i64 ps, .int .u64 (wd s1 0), .int .u64 (wd s1 1), .int .u64 (wd s1 2), .int .u64 (wd s1 3), .string tx, .int .i64 mn, .int .i64 mx, .slice p1 n1 c1, .bool ht, .int .i64 op2, .int .i64 ps2, .int .u64 (wd s2 0), .int .u64 (wd s2 1), .int .u64 (wd s2 2), .int .u64 (wd s2 3), .string tx2, .int .i64 mn2, .int .i64 mx2, .slice p2 n2 c2, .string lb, .slice pua nua cua] : List Value)[t]? = some u) => hg.cell (hc t u h))
        have hbr := Nat.lt_of_lt_of_le hbl hg.size
        have HX := Lib.hid hx
        have HMM := Lib.hid hmm
        have HMA := Lib.hid hma
        have HSM := Lib.hid hsm
        have HSA := Lib.hid hsa
        have HMO := Lib.hid hmo
        have HAO := Lib.hid hao
        have hmb2 : (num : Int) ≤ 9223372036854775807 := by omega
        have hab2 : (nua : Int) ≤ 9223372036854775807 := by omega
        clear hx hok hk hkn hc hD hbl hg hmm hma hsm hsa hmo hao hmb hab
        go_wp2_with (first | ((with_reducible refine wpList_plain ?_ (fun _ hK => ?_)); (focus rfl); refine wp_load_at 71 (.tmp 85) rfl b2 (off + k * 26) rfl [.int .i64 po, .bool al, .slice pum num cum, .int .i64 op, .int .i64 ps, .int .u64 (wd s1 0), .int .u64 (wd s1 1), .int .u64 (wd s1 2), .int .u64 (wd s1 3), .string tx, .int .i64 mn, .int .i64 mx, .slice p1 n1 c1, .bool ht, .int .i64 op2, .int .i64 ps2, .int .u64 (wd s2 0), .int .u64 (wd s2 1), .int .u64 (wd s2 2), .int .u64 (wd s2 3), .string tx2, .int .i64 mn2, .int .i64 mx2, .slice p2 n2 c2, .string lb, .slice pua nua cua] _ HCELL.out Tryz.underlying71 rfl (by kernel_rfl) (hK _ _ ?_)) | ((with_reducible refine wpList_plain ?_ (fun _ hK => ?_)); (focus rfl); refine wp_store_row 71 (.tmp 11) (.tmp 86) rfl wr.heap.size #[.int .i64 po, .bool al, .slice pum num cum, .int .i64 op, .int .i64 ps, .int .u64 (wd s1 0), .int .u64 (wd s1 1), .int .u64 (wd s1 2), .int .u64 (wd s1 3), .string tx, .int .i64 mn, .int .i64 mx, .slice p1 n1 c1, .bool ht, .int .i64 op2, .int .i64 ps2, .int .u64 (wd s2 0), .int .u64 (wd s2 1), .int .u64 (wd s2 2), .int .u64 (wd s2 3), .string tx2, .int .i64 mn2, .int .i64 mx2, .slice p2 n2 c2, .string lb, .slice pua nua cua] rfl rfl 71 _ (heap_alloc_new wr _) (by kernel_rfl) rfl (all_ones _ rfl) (hK _ _ ?_); clear hK; refine name_wpList (fun xc_w hxc => ?_); obtain ⟨xc, xc_g, xc_s⟩ := new_row (cs := [.int .i64 po, .bool al, .slice pum num cum, .int .i64 op, .int .i64 ps, .int .u64 (wd s1 0), .int .u64 (wd s1 1), .int .u64 (wd s1 2), .int .u64 (wd s1 3), .string tx, .int .i64 mn, .int .i64 mx, .slice p1 n1 c1, .bool ht, .int .i64 op2, .int .i64 ps2, .int .u64 (wd s2 0), .int .u64 (wd s2 1), .int .u64 (wd s2 2), .int .u64 (wd s2 3), .string tx2, .int .i64 mn2, .int .i64 mx2, .slice p2 n2 c2, .string lb, .slice pua nua cua]) hxc; clear hxc; have xc_h := boxAt.row xc; have y2 := xc.cell 2 _ rfl; have yl := xc.lt (Nat.succ_pos _)))
        have HXC := Lib.hid xc
        have HB0 := Lib.hid (HRk.out.later xc_g)
        have HKB := Lib.hid (kpr1 HKk.out (KpR.gr xc_g))
        have HRB := Lib.hid (show wr.heap.size ∉ [fb] from fun hm => by have := (HRk.out.fs.low fb HRk.out.fs.mem).2; have := List.mem_singleton.1 hm; omega)
        obtain ⟨rb, hrb⟩ : ∃ b, wr.heap.size = b := ⟨_, rfl⟩
        rw [hrb] at HXC HRB
        simp only [hrb]
        obtain ⟨B, hB⟩ : ∃ B, A4 ++ (rl.take k).flatMap (fun p : Rl × List Value => lost (modesN s) (useR p.1)) = B := ⟨_, rfl⟩
        rw [hB] at HB0
        have HBE := Lib.hid hB
        clear xc_h yl y2 xc_g xc_s hB xc HRk HKk hrb HCELL hbr
        go_loopw [90] (fun i wr => ∃ j : Nat, j ≤ num ∧ i = .int .i64 (j : Int) ∧ Hid (RdN w0 wr X fb mm md tb qa ev (.slice pm nm' cm) (.slice pd nd cd) (.slice (some ⟨b2, off, none⟩) nr cr) c5 s (worst (B ++ (r.modes.take j).flatMap (fun u : Us => lost (modesN s) [usN u])))) ∧ Hid (KpR [fb] xc_w wr)) (fun i _ => num - (intOf i).toNat)
        case atStart => exact ⟨0, Nat.zero_le _, rfl, Lib.hid (by simpa using HB0.out), Lib.hid (KpR.refl _ _)⟩
        case round =>
         obtain ⟨j, hj, rfl, HRj, HKj⟩ := hrel
         rcases Nat.lt_or_ge j num with hjn | hjn
         ·
          have hjI : (j : Int) < (num : Int) := by omega
          have HJN := Lib.hid hjn
          obtain ⟨⟨nmu, pou⟩, hx⟩ : ∃ x, r.modes[j]? = some x := ⟨_, List.getElem?_eq_getElem (by rw [HMM.out]; exact hjn)⟩
          have hD := HSM.out
          obtain ⟨b4, off4, hp4, hbl, hc⟩ := use_at hD hx
          have hou := HMO.out _ (List.mem_of_getElem? hx)
          subst hp4
          have hg := HRj.out.fs.gr
          have k0 : wr.cell? ⟨b4, off4 + j * 2, none⟩ = some (.string nmu) := hg.cell (hc 0 _ rfl)
          have k1 : wr.cell? ⟨b4, off4 + j * 2 + 1, none⟩ = some (.int .i64 pou) := hg.cell (hc 1 _ rfl)
          have hbr := Nat.lt_of_lt_of_le hbl hg.size
          have HX2 := Lib.hid hx
          obtain ⟨nM, hmd⟩ := HRj.out.mmap
          have HC := Lib.hid (fun W1 (hb1 : Gr wr W1) => read3_any w0 W1 X fb qa mm nM (numF (modesN s)) (modesN s) ev (.slice pm nm' cm) (.slice pd nd cd) (.slice (some ⟨b2, off, none⟩) nr cr) (.map (some md)) c5 _ (HRj.out.fs.later hb1) (HRj.out.qbox.later hb1) (hmd.later hb1) (numF_some _) ⟨nmu, pou⟩ hou.1)
          try dsimp only at HC
          clear hx hj hjn hc hou hmd hD hbl hg
          go_wp2_with fail
          go_at_call 81
          refine name_calls (fun W1 hW1 => ?_)
          have hb1 : Gr wr W1 := by rw [hW1]; exact Gr.alloc _ _
          clear hW1
          (with_reducible refine (HC.out W1 hb1).mono ?_); rintro e w4 ⟨rfl, hf3, hk3⟩
          have HR3 := Lib.hid (show RdN w0 w4 X fb mm md tb qa ev (.slice pm nm' cm) (.slice pd nd cd) (.slice (some ⟨b2, off, none⟩) nr cr) c5 s (worst (B ++ (r.modes.take (j + 1)).flatMap (fun u : Us => lost (modesN s) [usN u]))) by
           have := HRj.out.step (kpr1 (KpR.gr hb1) hk3) hf3
           rw [worst_app, List.append_assoc] at this
           rw [flat_snoc (fun u : Us => lost (modesN s) [usN u]) r.modes j _ HX2.out]
           exact this)
          have HK3 := Lib.hid (kpr1 HKj.out (kpr1 (KpR.gr hb1) hk3))
          clear hb1 hf3 hk3
          go_wp2_with fail
          go_roundw
          case rel => exact ⟨j + 1, HJN.out, by go_num, HR3, HK3⟩
          case measure => have := HJN.out; simp [intOf]; omega
         ·
          have hjI : ¬ (j : Int) < (num : Int) := by omega
          have HB2 := Lib.hid (show RdN w0 wr X fb mm md tb qa ev (.slice pm nm' cm) (.slice pd nd cd) (.slice (some ⟨b2, off, none⟩) nr cr) c5 s (worst (B ++ r.modes.flatMap (fun u : Us => lost (modesN s) [usN u]))) by
           have := HRj.out
           rw [List.take_of_length_le (by have := HMM.out; omega)] at this
           exact this)
          have HKB2 := Lib.hid HKj.out
          have xr := HKj.out.box HXC.out HRB.out (by simp)
          have y25 := xr.cell 25 _ rfl
          have yl := xr.lt (Nat.succ_pos _)
          obtain ⟨B2, hB2⟩ : ∃ B2, B ++ r.modes.flatMap (fun u : Us => lost (modesN s) [usN u]) = B2 := ⟨_, rfl⟩
          rw [hB2] at HB2
          have HBE2 := Lib.hid hB2
          clear hj hjn HRj HKj xr hB2 HB0
          go_wp2_with fail
          clear y25 yl
          go_loopw [101] (fun i wr => ∃ j : Nat, j ≤ nua ∧ i = .int .i64 (j : Int) ∧ Hid (RdN w0 wr X fb mm md tb qa ev (.slice pm nm' cm) (.slice pd nd cd) (.slice (some ⟨b2, off, none⟩) nr cr) c5 s (worst (B2 ++ (r.acts.take j).flatMap (fun a : Ac => if a.doo = 3 then [] else lost (modesN s) [usN a.mode])))) ∧ Hid (KpR [fb] xc_w wr)) (fun i _ => nua - (intOf i).toNat)
          case atStart => exact ⟨0, Nat.zero_le _, rfl, Lib.hid (by simpa using HB2.out), HKB2⟩
          case round =>
           obtain ⟨j, hj, rfl, HRj, HKj⟩ := hrel
           rcases Nat.lt_or_ge j nua with hjn | hjn
           ·
            have hjI : (j : Int) < (nua : Int) := by omega
            have HJN := Lib.hid hjn
            obtain ⟨⟨doo, nmu, pou⟩, hx⟩ : ∃ x, r.acts[j]? = some x := ⟨_, List.getElem?_eq_getElem (by rw [HMA.out]; exact hjn)⟩
            have hD := HSA.out
            obtain ⟨b4, off4, hp4, hbl, hc⟩ := act_at hD hx
            have hou := HAO.out _ (List.mem_of_getElem? hx)
            subst hp4
            have hg := HRj.out.fs.gr
            have k0 : wr.cell? ⟨b4, off4 + j * 3, none⟩ = some (.int .i64 doo) := hg.cell (hc 0 _ rfl)
            have k1 : wr.cell? ⟨b4, off4 + j * 3 + 1, none⟩ = some (.string nmu) := hg.cell (hc 1 _ rfl)
            have k2 : wr.cell? ⟨b4, off4 + j * 3 + 2, none⟩ = some (.int .i64 pou) := hg.cell (hc 2 _ rfl)
            have hbr := Nat.lt_of_lt_of_le hbl hg.size
            have HX2 := Lib.hid hx
            obtain ⟨nM, hmd⟩ := HRj.out.mmap
            have HC := Lib.hid (fun W1 (hb1 : Gr wr W1) => read3_any w0 W1 X fb qa mm nM (numF (modesN s)) (modesN s) ev (.slice pm nm' cm) (.slice pd nd cd) (.slice (some ⟨b2, off, none⟩) nr cr) (.map (some md)) c5 _ (HRj.out.fs.later hb1) (HRj.out.qbox.later hb1) (hmd.later hb1) (numF_some _) ⟨nmu, pou⟩ hou.2.1)
            try dsimp only at HC
            clear hx hj hjn hc hou hmd hD hbl hg
            by_cases h3 : doo = 3
            ·
             subst h3
             have HR3 := Lib.hid (fun W1 (hb1 : Gr wr W1) => show RdN w0 W1 X fb mm md tb qa ev (.slice pm nm' cm) (.slice pd nd cd) (.slice (some ⟨b2, off, none⟩) nr cr) c5 s (worst (B2 ++ (r.acts.take (j + 1)).flatMap (fun a : Ac => if a.doo = 3 then [] else lost (modesN s) [usN a.mode]))) by
              have := HRj.out.later hb1
              rw [flat_snoc (fun a : Ac => if a.doo = 3 then [] else lost (modesN s) [usN a.mode]) r.acts j _ HX2.out]
              simpa using this)
             have HKJ := HKj
             clear HRj HKj
             go_wp2_with fail
             go_roundw
             case rel => exact ⟨j + 1, HJN.out, by go_num, Lib.hid (HR3.out _ (Gr.alloc _ _)), Lib.hid (kpr1 HKJ.out (KpR.gr (Gr.alloc _ _)))⟩
             case measure => have := HJN.out; simp [intOf]; omega
            ·
             have h3b : (doo != 3) = true := by rw [bne_iff_ne]; exact h3
             have H3 := Lib.hid h3
             clear h3
             go_wp2_with fail
             go_at_call 81
             refine name_calls (fun W1 hW1 => ?_)
             have hb1 : Gr wr W1 := by rw [hW1]; exact Gr.alloc _ _
             clear hW1
             (with_reducible refine (HC.out W1 hb1).mono ?_); rintro e w4 ⟨rfl, hf3, hk3⟩
             have HR3 := Lib.hid (show RdN w0 w4 X fb mm md tb qa ev (.slice pm nm' cm) (.slice pd nd cd) (.slice (some ⟨b2, off, none⟩) nr cr) c5 s (worst (B2 ++ (r.acts.take (j + 1)).flatMap (fun a : Ac => if a.doo = 3 then [] else lost (modesN s) [usN a.mode]))) by
              have := HRj.out.step (kpr1 (KpR.gr hb1) hk3) hf3
              rw [worst_app, List.append_assoc] at this
              rw [flat_snoc (fun a : Ac => if a.doo = 3 then [] else lost (modesN s) [usN a.mode]) r.acts j _ HX2.out]
              dsimp only
              rw [if_neg H3.out]
              exact this)
             have HK3 := Lib.hid (kpr1 HKj.out (kpr1 (KpR.gr hb1) hk3))
             clear hb1 hf3 hk3
             go_wp2_with fail
             go_roundw
             case rel => exact ⟨j + 1, HJN.out, by go_num, HR3, HK3⟩
             case measure => have := HJN.out; simp [intOf]; omega
           ·
            have hjI : ¬ (j : Int) < (nua : Int) := by omega
            have HR5 := Lib.hid (show RdN w0 wr X fb mm md tb qa ev (.slice pm nm' cm) (.slice pd nd cd) (.slice (some ⟨b2, off, none⟩) nr cr) c5 s (worst (A4 ++ (rl.take (k + 1)).flatMap (fun p : Rl × List Value => lost (modesN s) (useR p.1)))) by
             have := HRj.out
             rw [List.take_of_length_le (by have := HMA.out; omega)] at this
             rw [flat_snoc (fun p : Rl × List Value => lost (modesN s) (useR p.1)) rl k _ HX.out, ← List.append_assoc, HBE.out]
             dsimp only
             rw [lost_useR, ← List.append_assoc, HBE2.out]
             exact this)
            have HK5 := Lib.hid (kpr1 HKB.out HKj.out)
            clear hj hjn HRj HKj
            go_wp2_with fail
            go_roundw
            case rel => exact ⟨k + 1, HKN.out, by go_num, HR5, HK5⟩
            case measure => have := HKN.out; simp [intOf]; omega
       ·
        have hkI : ¬ (k : Int) < (nr : Int) := by omega
        have HR1 := Lib.hid (show RdN w0 wr X fb mm md tb qa ev (.slice pm nm' cm) (.slice pd nd cd) (.slice pr nr cr) c5 s (worst (notes s)) by
         have := HRk.out
         rw [List.take_of_length_le (by have := HNR.out; omega)] at this
         rw [show notes s = A4 ++ rl.flatMap (fun p : Rl × List Value => lost (modesN s) (useR p.1)) from by
          unfold notes
          rw [← HA4.out, ← HA3.out, ← HA2.out, ← HHD.out, ← HHR.out, List.flatMap_map, List.flatMap_map, List.flatMap_map]
          simp only [List.append_assoc]]
         exact this)
        clear hk hkn HRk
        go_wp2_with fail
        go_end0
        first | exact ⟨rfl, ⟨mm, md, tb, qa, HR1.out⟩, HKk.out⟩ | exact ⟨rfl, ⟨mm, md, tb, qa, HR1.out, HKk.out⟩⟩
end Go.Proofs.YtkkopdmemjncdaaGreatDoor
