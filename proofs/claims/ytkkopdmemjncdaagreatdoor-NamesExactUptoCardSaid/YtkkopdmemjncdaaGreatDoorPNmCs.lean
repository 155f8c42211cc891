/- Texts of mine, put together: NmCs. No condition but what each says. -/
import Derived.Test.YtkkopdmemjncdaaGreatDoorPHo
import Derived.Test.YtkkopdmemjncdaaGreatDoorPHl
import Derived.Test.YtkkopdmemjncdaaGreatDoorPGc
import Derived.Deep.MidRow
namespace Go.Proofs.YtkkopdmemjncdaaGreatDoor
open Go Go.RowKit
inductive DfOwn (S : Nat → Prop) (w : World) : Df → List Value → Prop
 | mk (d : Df) (ec : List Value) (he : ExOwn S w d.ex ec) (hn : d.name.size ≤ maxLen) (hp : fit64 d.pos) : DfOwn S w d (.string d.name :: .int .i64 d.pos :: ec)
theorem keeps_df : Keeps DfOwn := fun S S' w w' a cs h h1 h2 => by
 cases h with
 | mk ec he hn hp => exact .mk a ec (he.keep h1 h2) hn hp
theorem DfOwn.dfIn {S : Nat → Prop} {w : World} {d : Df} {cs : List Value} (h : DfOwn S w d cs) : DfIn w d cs := by
 cases h with
 | mk ec he hn hp => exact .mk d ec he.exIn hn hp
inductive RlOwn (S : Nat → Prop) (w : World) : Rl → List Value → Prop
 | mk (r : Rl) (vm va : Value) (ec tc : List Value) (he : ExOwn S w r.head ec) (ht : ExOwn S w r.trail tc) (hm : Sl w vm 2 r.modes.length (r.modes.flatMap usC)) (hmn : Nily vm) (hmS : ∀ a n c, vm = .slice (some a) n c → S a.block) (hmb : r.modes.length * 24 ≤ 140737488351232) (hmo : ∀ u ∈ r.modes, UsOk u)
   (ha : Sl w va 3 r.acts.length (r.acts.flatMap acC)) (han : Nily va) (haS : ∀ a n c, va = .slice (some a) n c → S a.block) (hab : r.acts.length * 32 ≤ 140737488351232) (hao : ∀ a ∈ r.acts, AcOk a) (hl : r.label.size ≤ maxLen) (hp : fit64 r.pos) :
   RlOwn S w r (.int .i64 r.pos :: .bool r.all :: vm :: (ec ++ .bool r.hasTrail :: (tc ++ [.string r.label, va])))
theorem keeps_rl : Keeps RlOwn := fun S S' w w' a cs h h1 h2 => by
 cases h with
 | mk vm va ec tc he ht hm hmn hmS hmb hmo ha han haS hab hao hl hp => exact .mk a vm va ec tc (he.keep h1 h2) (ht.keep h1 h2) (hm.keep (fun a n c e => h1 _ (hmS a n c e))) hmn (fun a n c e => h2 _ (hmS a n c e)) hmb hmo (ha.keep (fun a n c e => h1 _ (haS a n c e))) han (fun a n c e => h2 _ (haS a n c e)) hab hao hl hp
theorem RlOwn.rlIn {S : Nat → Prop} {w : World} {r : Rl} {cs : List Value} (h : RlOwn S w r cs) : RlIn w r cs := by
 cases h with
 | mk vm va ec tc he ht hm hmn hmS hmb hmo ha han haS hab hao hl hp => exact .mk r vm va ec tc he.exIn ht.exIn hm hmn hmb hmo ha han hab hao hl hp
theorem RlIn.parts {w : World} {r : Rl} {cs : List Value} (h : RlIn w r cs) : ∃ vm va ec tc, cs = .int .i64 r.pos :: .bool r.all :: vm :: (ec ++ .bool r.hasTrail :: (tc ++ [.string r.label, va])) ∧ ExIn w r.head ec ∧ ExIn w r.trail tc ∧ Sl w vm 2 r.modes.length (r.modes.flatMap usC) ∧ Nily vm ∧ r.modes.length * 24 ≤ 140737488351232 ∧ (∀ u ∈ r.modes, UsOk u) ∧ Sl w va 3 r.acts.length (r.acts.flatMap acC) ∧ Nily va ∧ r.acts.length * 32 ≤ 140737488351232 ∧ (∀ a ∈ r.acts, AcOk a) ∧ r.label.size ≤ maxLen ∧ fit64 r.pos := by
 cases h with
 | mk vm va ec tc he ht hm hmn hmb hmo ha han hab hao hl hp => exact ⟨vm, va, ec, tc, rfl, he, ht, hm, hmn, hmb, hmo, ha, han, hab, hao, hl, hp⟩
set_option maxRecDepth 100000 in
theorem info_df : (Tryz.prog.info? 57).map (fun i => (i.zero, i.size, i.bytes)) = some (some (.agg #[.string ⟨#[]⟩, .int .i64 0, .int .i64 0, .int .i64 0, .int .u64 0, .int .u64 0, .int .u64 0, .int .u64 0, .string ⟨#[]⟩, .int .i64 0, .int .i64 0, .slice none 0 0]), 12, 128) := by kernel_rfl
set_option maxRecDepth 100000 in
theorem info_md : (Tryz.prog.info? 75).map (fun i => (i.zero, i.size, i.bytes)) = some (some (.agg #[.string ⟨#[]⟩, .bool false, .int .i64 0]), 3, 32) := by kernel_rfl
theorem df_ones (nm : ByteArray) (po op ps : Int) (s1 : BitVec 256) (tx : ByteArray) (mn mx : Int) (p : Option Addr) (n c : Nat) : ∀ u ∈ ([.string nm, .int .i64 po, .int .i64 op, .int .i64 ps, .int .u64 (wd s1 0), .int .u64 (wd s1 1), .int .u64 (wd s1 2), .int .u64 (wd s1 3), .string tx, .int .i64 mn, .int .i64 mx, .slice p n c] : List Value), u.oneCell' = true := fun u hu => by
 simp only [List.mem_cons, List.not_mem_nil, or_false] at hu
 rcases hu with rfl | rfl | rfl | rfl | rfl | rfl | rfl | rfl | rfl | rfl | rfl | rfl <;> rfl
def CpS (B : Nat) (w : World) (vd vr : Value) (b : Nat) : Prop := B ≤ b ∧ b < w.heap.size ∧ vd.ownBlock ≠ some b ∧ vr.ownBlock ≠ some b
structure ScCp (B : Nat) (w : World) (s : Sc) (vm vd vr : Value) where
 dl : List (Df × List Value)
 rl : List (Rl × List Value)
 hd : dl.map (·.1) = s.defs
 hr : rl.map (·.1) = s.rules
 modes : w.ownsRow B 75 3 vm s.modes.length (s.modes.flatMap mdC)
 modesO : ∀ m ∈ s.modes, MdOk m
 modesB : s.modes.length * 32 ≤ 140737488351232
 defs : w.ownsRow B 57 12 vd dl.length (dl.flatMap (·.2))
 defsB : dl.length * 128 ≤ 140737488351232
 rules : w.ownsRow B 71 26 vr rl.length (rl.flatMap (·.2))
 rulesB : rl.length * 296 ≤ 140737488351232
 dOwn : ∀ p ∈ dl, p.2.length = 12 ∧ DfOwn (CpS B w vd vr) w p.1 p.2
 rOwn : ∀ p ∈ rl, p.2.length = 26 ∧ RlOwn (CpS B w vd vr) w p.1 p.2
 ap1 : ∀ g, vm.ownBlock = some g → vd.ownBlock ≠ some g ∧ vr.ownBlock ≠ some g
 ap2 : ∀ g, vd.ownBlock = some g → vr.ownBlock ≠ some g
def ScCp.scIn {B : Nat} {w : World} {s : Sc} {vm vd vr : Value} (h : ScCp B w s vm vd vr) : ScIn w s vm vd vr :=
 ⟨h.dl, h.rl, h.hd, h.hr, Sl.of_owns h.modes, h.modesO, nily_own h.modes, h.modesB, Sl.of_owns h.defs, fun p hp => (h.dOwn p hp).2.dfIn, nily_own h.defs, h.defsB, Sl.of_owns h.rules, fun p hp => (h.rOwn p hp).2.rlIn, nily_own h.rules, h.rulesB⟩
theorem us_ones (l : List Us) : ∀ u ∈ l.flatMap usC, u.oneCell' = true := fun u hu => by
 obtain ⟨m, _, hm⟩ := List.mem_flatMap.1 hu
 simp only [usC, List.mem_cons, List.not_mem_nil, or_false] at hm
 rcases hm with rfl | rfl <;> rfl
theorem ac_ones (l : List Ac) : ∀ u ∈ l.flatMap acC, u.oneCell' = true := fun u hu => by
 obtain ⟨m, _, hm⟩ := List.mem_flatMap.1 hu
 simp only [acC, List.mem_cons, List.not_mem_nil, or_false] at hm
 rcases hm with rfl | rfl | rfl <;> rfl
set_option maxRecDepth 100000 in
theorem info_us : (Tryz.prog.info? 78).map (fun i => (i.zero, i.size, i.bytes)) = some (some (.agg #[.string ⟨#[]⟩, .int .i64 0]), 2, 24) := by kernel_rfl
set_option maxRecDepth 100000 in
theorem info_ac : (Tryz.prog.info? 80).map (fun i => (i.zero, i.size, i.bytes)) = some (some (.agg #[.int .i64 0, .string ⟨#[]⟩, .int .i64 0]), 3, 32) := by kernel_rfl
set_option maxRecDepth 100000 in
theorem info_rl : (Tryz.prog.info? 71).map (fun i => (i.zero, i.size, i.bytes)) = some (some (.agg #[.int .i64 0, .bool false, .slice none 0 0, .int .i64 0, .int .i64 0, .int .u64 0, .int .u64 0, .int .u64 0, .int .u64 0, .string ⟨#[]⟩, .int .i64 0, .int .i64 0, .slice none 0 0, .bool false, .int .i64 0, .int .i64 0, .int .u64 0, .int .u64 0, .int .u64 0, .int .u64 0, .string ⟨#[]⟩, .int .i64 0, .int .i64 0, .slice none 0 0, .string ⟨#[]⟩, .slice none 0 0]), 26, 296) := by kernel_rfl
theorem list_ones (cs : List Value) (h : cs.all (·.oneCell') = true) : ∀ u ∈ cs, u.oneCell' = true := List.all_eq_true.1 h
theorem gr_left {wr w w' : World} {o : Obj} {row : Option Nat} (h : Gr wr w) (_ : (w.alloc o).grownBy w' row) : Gr wr (w.alloc o) := h.trans (Gr.alloc _ _)
theorem own_kp {w w' : World} {B e k n q : Nat} {v : Value} {xs : List Value} (h : w.ownsRow B e k v n xs) (hk : KpR [q] w w') (hq : q < B) : w'.ownsRow B e k v n xs :=
 owns_heap h (fun g hg => hk.block g (World.ownsRow.lt h g hg).2 (fun hm => by have h1 := (World.ownsRow.lt h g hg).1; have h2 := List.mem_singleton.1 hm; omega))
theorem ex_kp {w w' : World} {B M q : Nat} {e : Ex} {cs : List Value} (h : ExOwn (fun b => B ≤ b ∧ b < M) w e cs) (hk : KpR [q] w w') (hq : q < B) (hM : M ≤ w.heap.size) : ExOwn (fun b => B ≤ b ∧ b < M) w' e cs :=
 h.keep (fun b hb => hk.block b (Nat.lt_of_lt_of_le hb.2 hM) (fun hm => by have h2 := List.mem_singleton.1 hm; have := hb.1; omega)) (fun _ hb => hb)
theorem KpR.setCells {R : List Nat} {w w' : World} {q : Nat} (h : KpR R w w') (o : Nat) (vs : List Value) (hq : w.heap.size ≤ q ∨ q ∈ R) : KpR R w (w'.setCells q o vs) := by
 obtain ⟨s1, s2, s3, s4⟩ := size_setCellsW q vs o w'
 exact ⟨s2.trans h.os, s3.trans h.tape, s4.trans h.output, by rw [s1]; exact h.size, fun k hk hkR => (heap_setCells_far q vs o w' k (fun e => by rcases hq with hq | hq; omega; exact hkR (e ▸ hq))).trans (h.block k hk hkR)⟩
theorem there_box {w : World} {b o n N : Nat} {vs : List Value} (h : boxAt w b vs) (hn : o + n ≤ N) (hN : vs.length = N := by rfl) : w.there b o n := fun j hj => by
 have hx := List.getElem?_eq_getElem (l := vs) (i := o + j) (by omega)
 obtain ⟨h1, h2⟩ := h (o + j) _ hx
 exact ⟨by rw [h1]; rfl, h2⟩
theorem set_mid {w : World} {b o : Nat} {vs xs : List Value} (h : boxAt w b vs) (ho : o + xs.length ≤ vs.length) : boxAt (w.setCells b o xs) b (vs.take o ++ (xs ++ vs.drop (o + xs.length))) := fun j u hu => by
 have hth : ∀ j, j < xs.length → (w.cell? ⟨b, o + j, none⟩).isSome = true := fun j hj => (there_box (n := xs.length) h ho rfl j hj).1
 have hjl := (List.getElem?_eq_some_iff.1 hu).1
 rw [List.length_append, List.length_append, List.length_take, List.length_drop] at hjl
 have hj2 : j < vs.length := by omega
 have hv := h j _ (List.getElem?_eq_getElem hj2)
 rw [World.frozen?_setCells]
 refine ⟨?_, hv.2⟩
 by_cases h1 : j < o
 ·
  rw [List.getElem?_append_left (by rw [List.length_take]; omega), List.getElem?_take_of_lt h1] at hu
  rw [World.cell?_setCells_out b xs o w _ (fun _ _ => .inl h1)]
  exact (h j u hu).1
 ·
  rw [List.getElem?_append_right (by rw [List.length_take]; omega), List.length_take, Nat.min_eq_left (by omega)] at hu
  by_cases h2 : j - o < xs.length
  ·
   rw [List.getElem?_append_left h2] at hu
   obtain ⟨h3, h4⟩ := List.getElem?_eq_some_iff.1 hu
   have := World.cell?_setCells_in b xs o w hth (j - o) h2
   rw [show o + (j - o) = j by omega, h4] at this
   exact this
  ·
   rw [List.getElem?_append_right (by omega), List.getElem?_drop] at hu
   rw [World.cell?_setCells_out b xs o w _ (fun _ _ => .inr (by show o + xs.length ≤ j; omega))]
   rw [show o + xs.length + (j - o - xs.length) = j by omega] at hu
   exact (h j u hu).1
theorem kept_below {w w' : World} {B e k n M : Nat} {v : Value} {xs : List Value} {row : Option Nat} (h : w.ownsRow B e k v n xs) (hg : w.grownBy w' row) (hl : ∀ g, v.ownBlock = some g → g < M) (hr : ∀ g, row = some g → M ≤ g) : w'.ownsRow B e k v n xs :=
 owns_heap h (fun g hv => hg.block g (World.ownsRow.lt h g hv).2 (fun e => by have h1 := hl g hv; have h2 := hr g e.symm; omega))
theorem bx3s (w : World) (c0 c1 c2 : List Value) (e0 e1 e2 : TypeId) :
  boxAt (((w.alloc (.cells c0.toArray e0)).alloc (.cells c1.toArray e1)).alloc (.cells c2.toArray e2)) w.heap.size c0 ∧ boxAt (((w.alloc (.cells c0.toArray e0)).alloc (.cells c1.toArray e1)).alloc (.cells c2.toArray e2)) (w.heap.size + 1) c1 ∧ boxAt (((w.alloc (.cells c0.toArray e0)).alloc (.cells c1.toArray e1)).alloc (.cells c2.toArray e2)) (w.heap.size + 2) c2 ∧
  Gr w (((w.alloc (.cells c0.toArray e0)).alloc (.cells c1.toArray e1)).alloc (.cells c2.toArray e2)) ∧ (((w.alloc (.cells c0.toArray e0)).alloc (.cells c1.toArray e1)).alloc (.cells c2.toArray e2)).heap.size = w.heap.size + 3 := bx3e w c0 c1 c2 e0 e1 e2
set_option maxRecDepth 100000 in
set_option maxHeartbeats 16000000 in
theorem
    copySpec_any (s : Sc) (w : World) (vm vd vr : Value) (hs : ScIn w s vm vd vr) :
  Calls Tryz.prog 10 #[scV vm vd vr] w fun e w' => ∃ vm' vd' vr', e = .returned (scV vm' vd' vr') ∧ Nonempty (ScCp w.heap.size w' s vm' vd' vr') ∧ Gr w w' := by
 obtain ⟨i0, hi, hz0, hz1, hz2⟩ := info_parts info_df
 obtain ⟨i1, ki, ky0, ky1, ky2⟩ := info_parts info_md
 obtain ⟨i2, ui, uy0, uy1, uy2⟩ := info_parts info_us
 obtain ⟨i3, ai, ay0, ay1, ay2⟩ := info_parts info_ac
 obtain ⟨i4, ri, ry0, ry1, ry2⟩ := info_parts info_rl
 obtain ⟨dl, rl, hd, hr, hm', hmo, hmn, hmb, hds, hdi, hdn, hdb, hrs, hri, hrn, hrb⟩ := hs
 obtain ⟨pm, cm, evm⟩ := hm'.len
 obtain ⟨pd, cd, evd⟩ := hds.len
 obtain ⟨pr, cr, evr⟩ := hrs.len
 obtain ⟨nm, hnm⟩ : ∃ n, s.modes.length = n := ⟨_, rfl⟩
 obtain ⟨nr, hnr⟩ : ∃ n, rl.length = n := ⟨_, rfl⟩
 obtain ⟨n, hn⟩ : ∃ n, dl.length = n := ⟨_, rfl⟩
 rw [hn] at evd hds hdb
 rw [hnm] at evm
 rw [hnr] at evr
 rw [hnm] at hm' hmb
 subst evm
 obtain ⟨ao, co, hve, hnone, hsome⟩ := src_of hm' hmn
 injection hve with hv1 hv2 hv3
 subst hv1 hv3
 have HMLL := Lib.hid hm'.1
 have HMX := Lib.hid hm'.2.1
 have HMB := Lib.hid hmb
 have HSO := Lib.hid hsome
 have HMO := Lib.hid hmo
 have HD := Lib.hid hds
 have HDI := Lib.hid hdi
 have HN := Lib.hid hn
 have HNB := Lib.hid hdb
 have hnI : (n : Int) ≤ 140737488351232 := by omega
 subst evd evr
 unfold scV
 have HHD := Lib.hid hd
 have HHR := Lib.hid hr
 have HNM0 := Lib.hid hnm
 have HMBB := Lib.hid hmb
 rw [hnr] at hrs hrb
 have HRS := Lib.hid hrs
 have HRI := Lib.hid hri
 have HNR := Lib.hid hnr
 have HRB := Lib.hid hrb
 have hnrI : (nr : Int) ≤ 140737488351232 := by omega
 clear hds hdi hn hdb hd hr hmo hmb hrs hri hrn hrb hdn hnr
 go_enter Tryz.func10, Tryz.ntmps10
 go_upto_region 2 with fail
 refine name_world (fun W hW => ?_)
 obtain ⟨xs, xr, xx, hgW, hsz⟩ : boxAt W w.heap.size [.slice pm nm cm, .slice pd n cd, .slice pr nr cr] ∧ boxAt W (w.heap.size + 1) [.slice none 0 0, .slice none 0 0, .slice none 0 0] ∧ boxAt W (w.heap.size + 1 + 1) [.slice none 0 0, .slice none 0 0, .slice none 0 0] ∧ Gr w W ∧ W.heap.size = w.heap.size + 3 := by rw [hW]; exact bx3s w _ _ _ _ _ _
 clear hW
 obtain ⟨sb, hsb⟩ : ∃ b, w.heap.size = b := ⟨_, rfl⟩
 obtain ⟨rb, hrb⟩ : ∃ b, sb + 1 = b := ⟨_, rfl⟩
 obtain ⟨xb, hxb⟩ : ∃ b, rb + 1 = b := ⟨_, rfl⟩
 rw [hsb] at xs xr xx
 rw [hrb] at xr xx
 rw [hxb] at xx
 simp only [hsb, hrb, hxb]
 have HBX := Lib.hid (show sb = w.heap.size ∧ rb = w.heap.size + 1 ∧ xb = w.heap.size + 2 ∧ W.heap.size = w.heap.size + 3 by omega)
 clear hsb hrb hxb hsz
 have XS := Lib.hid xs
 have XR := Lib.hid xr
 have HGW := Lib.hid hgW
 have XX := Lib.hid xx
 obtain ⟨c_s0, c_s1, c_s2, m_s0, m_s1, m_s2, l_s⟩ := unb3 xs
 obtain ⟨c_x0, c_x1, c_x2, m_x0, m_x1, m_x2, l_x⟩ := unb3 xx
 clear xs xr hgW xx
 go_upto_block 0 with (at_builtin; refine wpList_append_own_any rfl (.tmp 10) (.tmp 12) 24 rfl W.heap.size 75 i1 _ 3 32 Tryz.underlying24 ki ky0 ky1 ky2 rfl (by decide) _ 0 [] rfl (World.ownsRow_nil _ _ _ _) pm nm cm (s.modes.flatMap mdC) rfl HMLL.out hnone (fun ad h j u hj => HGW.out.cell (HSO.out ad h j u hj)) (by intro u hu; obtain ⟨m, _, hm⟩ := List.mem_flatMap.1 hu; simp only [mdC, List.mem_cons, List.not_mem_nil, or_false] at hm; rcases hm with rfl | rfl | rfl <;> rfl) (by rw [Nat.zero_add]; exact HMX.out) (by rw [Nat.zero_add]; have := HMB.out; omega) (Nat.le_refl _) ?_; intro v' w4 hown4 hg4 _; rw [Nat.zero_add, List.nil_append] at hown4; obtain ⟨p4, c4', rfl⟩ := (Sl.of_owns hown4).len; have HOW4 := Lib.hid hown4; have HG4 := Lib.hid hg4; have xx4 := XX.out.grown hg4 (by simp) (by show (none : Option Nat) ≠ _; simp); have q0 := xx4.cell 0 _ rfl; have r0 := xx4.mark 0 _ rfl; have ql := xx4.lt (Nat.succ_pos _); clear hown4 hg4)
 refine name_world (fun W2 hW2 => ?_)
 have hs4 := HG4.out.size
 have hgg : Gr W w4 := Gr.grown (Gr.refl _) HG4.out (fun k hk => by cases hk)
 obtain ⟨e1, e2, e3, e4⟩ := HBX.out
 have hsb2 : W2.heap.size = w4.heap.size := by rw [hW2]; exact size_put1' _ _ _
 have HBS := Lib.hid (show sb < W2.heap.size ∧ rb < W2.heap.size ∧ xb < W2.heap.size ∧ sb ≠ rb ∧ sb ≠ xb ∧ rb ≠ xb ∧ W.heap.size ≤ W2.heap.size by omega)
 have XS2 := Lib.hid (show boxAt W2 sb [.slice pm nm cm, .slice pd n cd, .slice pr nr cr] by rw [hW2]; exact ((XS.out.later hgg).far _ _ (by show xb ≠ sb; omega)))
 have XR2 := Lib.hid (show boxAt W2 rb [.slice none 0 0, .slice none 0 0, .slice none 0 0] by rw [hW2]; exact ((XR.out.later hgg).far _ _ (by show xb ≠ rb; omega)))
 have XX2 := Lib.hid (show boxAt W2 xb [.slice p4 nm c4', .slice none 0 0, .slice none 0 0] by rw [hW2]; exact xx4.put 0 _ (by simp))
 have HGW2 := Lib.hid (show Gr w W2 by rw [hW2]; exact Below.setCell (p := ⟨xb, 0, none⟩) (HGW.out.trans hgg) (by show w.heap.size ≤ xb; omega) _)
 have HMR := Lib.hid (show W2.ownsRow W.heap.size 75 3 (.slice p4 nm c4') nm (s.modes.flatMap mdC) by
  rw [hW2]
  refine owns_heap HOW4.out (fun g hg => setCell_far _ _ _ _ (fun e => ?_))
  have := (World.ownsRow.lt HOW4.out g hg).1
  have e : xb = g := e
  omega)
 have HML := Lib.hid (show ∀ g, (Value.slice p4 nm c4').ownBlock = some g → g < W2.heap.size from fun g hg => (World.ownsRow.lt HMR.out g hg).2)
 clear c_s0 c_s1 c_s2 m_s0 m_s1 m_s2 l_s
 clear c_x0 c_x1 c_x2 m_x0 m_x1 m_x2 l_x
 clear hW2 hs4 hgg e1 e2 e3 e4 hsb2 xx4 q0 r0 ql XS XR XX HOW4 HG4 HMX HMB HSO hnone
 go_wp2_with fail
 go_loopw [4] (fun i wr => ∃ (j : Nat) (dv : Value) (ls : List (Df × List Value)), j ≤ n ∧ i = .int .i64 (j : Int) ∧ (∃ p k c, dv = .slice p k c) ∧ Hid (Gr w wr) ∧ Hid (W2.heap.size ≤ wr.heap.size) ∧ Hid (boxAt wr sb [.slice pm nm cm, .slice pd n cd, .slice pr nr cr] ∧ boxAt wr rb [.slice none 0 0, .slice none 0 0, .slice none 0 0] ∧ boxAt wr xb [.slice p4 nm c4', dv, .slice none 0 0]) ∧
  Hid (wr.ownsRow W.heap.size 75 3 (.slice p4 nm c4') nm (s.modes.flatMap mdC)) ∧ Hid (Grows DfOwn 57 12 W2.heap.size wr dv j ls ∧ ls.map (·.1) = (dl.take j).map (·.1))) (fun i _ => n - (intOf i).toNat)
 case atStart => exact ⟨0, .slice none 0 0, [], Nat.zero_le _, rfl, ⟨_, _, _, rfl⟩, HGW2, Lib.hid (Nat.le_refl _), Lib.hid ⟨XS2.out, XR2.out, XX2.out⟩, HMR, Lib.hid ⟨Grows.nil _ _ _ _, rfl⟩⟩
 case round =>
  clear XS2 XR2 XX2 HMR
  obtain ⟨j, dv, ls, hj, rfl, ⟨vp, vn, vc, rfl⟩, HG, HWR, HBO, HMR, HL⟩ := hrel
  have ys := HBO.out.1
  have yr := HBO.out.2.1
  have yx := HBO.out.2.2
  rcases Nat.lt_or_ge j n with hjn | hjn
  ·
   have hjI : (j : Int) < (n : Int) := by omega
   have HLT := Lib.hid hjn
   obtain ⟨⟨d, cs⟩, hx⟩ : ∃ x, dl[j]? = some x := ⟨_, List.getElem?_eq_getElem (by rw [HN.out]; exact hjn)⟩
   obtain ⟨b2, off, hpm, hbl, hc⟩ := elem_at HD.out (fun x hx => (HDI.out x hx).len) HN.out hx
   have hok := HDI.out _ (List.mem_of_getElem? hx)
   have HTK := Lib.hid (show (dl.take (j + 1)).map (·.1) = (dl.take j).map (·.1) ++ [d] by rw [List.take_add_one, hx, List.map_append]; rfl)
   dsimp only at hok hc
   cases hok with
   | mk ec hee hnn hpp =>
   have HDO := Lib.hid (And.intro hnn hpp)
   obtain ⟨nmd, po, ex⟩ := d
   dsimp only at hee hnn hpp hc HDO
   have HC := Lib.hid (fun (cur : World) (h : Gr w cur) => copyExpr_any _ ex (Nat.le_refl _) ec cur (hee.later h))
   obtain ⟨op, ps, s1, tx, mn, mx, p1, n1, c1, rfl⟩ := hee.formN
   unfold exCells at HC
   try dsimp only at HC
   subst hpm
   have k0 : w.cell? ⟨b2, off + j * 12, none⟩ = some (.string nmd) := hc 0 _ rfl
   have k1 : w.cell? ⟨b2, off + j * 12 + 1, none⟩ = some (.int .i64 po) := hc 1 _ rfl
   have k2 : w.cell? ⟨b2, off + j * 12 + 2, none⟩ = some (.int .i64 op) := hc 2 _ rfl
   have k3 : w.cell? ⟨b2, off + j * 12 + 3, none⟩ = some (.int .i64 ps) := hc 3 _ rfl
   have k4 : w.cell? ⟨b2, off + j * 12 + 4, none⟩ = some (.int .u64 (wd s1 0)) := hc 4 _ rfl
   have k5 : w.cell? ⟨b2, off + j * 12 + 5, none⟩ = some (.int .u64 (wd s1 1)) := hc 5 _ rfl
   have k6 : w.cell? ⟨b2, off + j * 12 + 6, none⟩ = some (.int .u64 (wd s1 2)) := hc 6 _ rfl
   have k7 : w.cell? ⟨b2, off + j * 12 + 7, none⟩ = some (.int .u64 (wd s1 3)) := hc 7 _ rfl
   have k8 : w.cell? ⟨b2, off + j * 12 + 8, none⟩ = some (.string tx) := hc 8 _ rfl
   have k9 : w.cell? ⟨b2, off + j * 12 + 9, none⟩ = some (.int .i64 mn) := hc 9 _ rfl
   have k10 : w.cell? ⟨b2, off + j * 12 + 10, none⟩ = some (.int .i64 mx) := hc 10 _ rfl
   have k11 : w.cell? ⟨b2, off + j * 12 + 11, none⟩ = some (.slice p1 n1 c1) := hc 11 _ rfl
   try simp only [Nat.add_zero] at k0
   have HCL := Lib.hid (And.intro hbl hc)
   clear hx hj hjn hee hnn hpp hc
   obtain ⟨c_s0, c_s1, c_s2, m_s0, m_s1, m_s2, l_s⟩ := unb3 ys
   go_upto_region 6 with fail
   clear c_s0 c_s1 c_s2 m_s0 m_s1 m_s2 l_s
   have hg := HG.out
   refine wp_region_S (fun w' => Gr w w' ∧ boxAt w' sb [.slice pm nm cm, .slice (some ⟨b2, off, none⟩) n cd, .slice pr nr cr] ∧ boxAt w' xb [.slice p4 nm c4', .slice vp vn vc, .slice none 0 0]) (.take 0 (.take 1 (.take 2 (.take 3 (.take 4 (.take 5 (.take 6 (.take 7 (.take 8 (.take 9 (.take 10 (.take 11 (.take 12 (.take 13 (.take 14 (.take 15 (.take 16 (.take 17 (.take 18 (.take 19 (.run 20 false (.take 21 (.run 22 false (.run 23 false (.take 24 (.run 25 true .nil)))))))))))))))))))))))))) ⟨hg.trans (Gr.drew _), ys.later (Gr.drew _), yx.later (Gr.drew _)⟩ (by kernel_rfl) (by kernel_rfl) ?_
   simp only [pickOps, nthOp]
   intro wr7 hN hG
   repeat (first | (refine wpG_skip_take ?_ ?_; (focus rfl); try simp only [Act.put, List.setIfInBounds_toArray, List.set_cons_zero, List.set_cons_succ]) | (refine wpG_skip_run ?_ ?_; (focus rfl); try simp only [Act.put, List.setIfInBounds_toArray, List.set_cons_zero, List.set_cons_succ]) | (refine wpG_take ?_ ?_; (focus rfl); apply Exists.intro; refine ⟨fun w' hw' => ?_, ?_⟩; (focus (have hc := Gr.cells hw'.1; have q1 := hw'.2.1.cell 1 _ rfl; have q2 := hw'.2.2.cell 1 _ rfl; go_simp; (try rfl); done)); try simp only [Act.put, List.setIfInBounds_toArray, List.set_cons_zero, List.set_cons_succ]))
   obtain ⟨hG, ys7, yx7⟩ := hG
   refine wpG_run ?_ (fun K hK => ?_); (focus rfl)
   go_simp
   go_at_call 32
   (with_reducible refine (HC.out _ hG).mono ?_); rintro e' w7 ⟨ds, rfl, ho, hb⟩
   obtain ⟨op3, pos3, s3, text3, mn3, mx3, p3, n3, c3, rfl⟩ := ho.form
   have HO := Lib.hid (DfOwn.mk (S := fun b => wr.heap.size ≤ b ∧ b < w7.heap.size) (w := w7) ⟨nmd, po, ex⟩ _ (ho.keep (S' := fun b => wr.heap.size ≤ b ∧ b < w7.heap.size) (fun b hb => rfl) (fun b hb => ⟨by have := hN.size; have := hb.1; omega, hb.2⟩)) HDO.out.1 HDO.out.2)
   clear ho
   unfold exCells at HO ⊢
   replace ys7 := ys7.later hb
   replace yx7 := yx7.later hb
   replace hG := hG.trans hb
   replace hN := hN.trans hb
   try dsimp only
   refine hK.out _ _ ⟨hG, ys7, yx7⟩ ?_
   clear hK K hb k0 k1 k2 k3 k4 k5 k6 k7 k8 k9 k10 k11
   try simp only [Act.put, List.setIfInBounds_toArray, List.set_cons_zero, List.set_cons_succ]
   repeat (first | (refine wpG_skip_take ?_ ?_; (focus rfl); try simp only [Act.put, List.setIfInBounds_toArray, List.set_cons_zero, List.set_cons_succ]) | (refine wpG_skip_run ?_ ?_; (focus rfl); try simp only [Act.put, List.setIfInBounds_toArray, List.set_cons_zero, List.set_cons_succ]) | (refine wpG_take ?_ ?_; (focus rfl); apply Exists.intro; refine ⟨fun w' hw' => ?_, ?_⟩; (focus (skip; go_simp; (try rfl); done)); try simp only [Act.put, List.setIfInBounds_toArray, List.set_cons_zero, List.set_cons_succ]))
   refine wpG_run rfl (fun K hK => ?_)
   go_simp
   refine name_K (fun W8 hW8 => ?_)
   have h78 : Gr w7 W8 := by rw [hW8]; exact Gr.alloc _ _
   have hc8 : ∀ (j : Nat) (u : Value), ([.string nmd, .int .i64 po, .int .i64 op3, .int .i64 pos3, .int .u64 (wd s3 0), .int .u64 (wd s3 1), .int .u64 (wd s3 2), .int .u64 (wd s3 3), .string text3, .int .i64 mn3, .int .i64 mx3, .slice p3 n3 c3] : List Value)[j]? = some u → W8.cell? ((⟨w7.heap.size, 0, none⟩ : Addr).add j) = some u := by rw [hW8]; exact new_cells _ _ _
   clear hW8
   replace ys7 := ys7.later h78
   replace yx7 := yx7.later h78
   refine hK.out _ _ ⟨hG.trans h78, ys7, yx7⟩ ?_
   clear hK K
   try simp only [Act.put, List.setIfInBounds_toArray, List.set_cons_zero, List.set_cons_succ]
   refine wpG_run rfl (fun K hK => ?_)
   refine wp_append_own_at _ (.tmp 23) (.tmp 44) 25 rfl W2.heap.size 57 i0 _ 12 128 Tryz.underlying25 hi hz0 hz1 hz2 rfl (by decide) (.slice vp vn vc) j (ls.flatMap (·.2)) rfl (owns_later HL.out.1.2.1 (hN.trans h78)) ⟨w7.heap.size, 0, none⟩ 1 1 [.string nmd, .int .i64 po, .int .i64 op3, .int .i64 pos3, .int .u64 (wd s3 0), .int .u64 (wd s3 1), .int .u64 (wd s3 2), .int .u64 (wd s3 3), .string text3, .int .i64 mn3, .int .i64 mx3, .slice p3 n3 c3] rfl rfl hc8 ?c1 ?c2 ?c3 ?c4 ?_
   case c1 => exact df_ones _ _ _ _ _ _ _ _ _ _ _
   case c2 => unfold maxLen; have := HLT.out; have := HNB.out; omega
   case c3 => have := HLT.out; have := HNB.out; omega
   case c4 => have := HWR.out; have := hN.size; have := h78.size; omega
   intro v9 W9 hown9 hgrow9 _ hat9
   have hne : ∀ g, (Value.slice vp vn vc).ownBlock = some g → W2.heap.size ≤ g := fun g hg => (World.ownsRow.lt HL.out.1.2.1 g hg).1
   have hbs := HBS.out
   have h2 := HGW2.out.size
   replace hG : Gr w W9 := Gr.grown (hG.trans h78) hgrow9 (fun g hg => by have := hne g hg; omega)
   replace ys7 := ys7.grown hgrow9 (by simp) (fun e => by have := hne _ e; omega)
   replace yx7 := yx7.grown hgrow9 (by simp) (fun e => by have := hne _ e; omega)
   have yr7 := ((yr.later hN).later h78).grown hgrow9 (by simp) (fun e => by have := hne _ e; omega)
   have hmr7 := kept_below (owns_later HMR.out (hN.trans h78)) hgrow9 HML.out hne
   have HL9 := Lib.hid (Grows.push keeps_df HL.out.1 hN HWR.out HO.out rfl h78 hown9 hgrow9 hat9)
   have HWR9 := Lib.hid (show W2.heap.size ≤ W9.heap.size by have := HWR.out; have := hN.size; have := h78.size; have := hgrow9.size; omega)
   obtain ⟨gl, capl, rfl, _⟩ := owns_block hown9 (by omega)
   clear hne hown9 hgrow9 hat9 hc8 hN h78
   refine hK.out _ _ ⟨hG, ys7, yx7⟩ ?_
   clear hK K
   try simp only [Act.put, List.setIfInBounds_toArray, List.set_cons_zero, List.set_cons_succ]
   repeat (first | (refine wpG_skip_take ?_ ?_; (focus rfl); try simp only [Act.put, List.setIfInBounds_toArray, List.set_cons_zero, List.set_cons_succ]) | (refine wpG_skip_run ?_ ?_; (focus rfl); try simp only [Act.put, List.setIfInBounds_toArray, List.set_cons_zero, List.set_cons_succ]) | (refine wpG_take ?_ ?_; (focus rfl); apply Exists.intro; refine ⟨fun w' hw' => ?_, ?_⟩; (focus (skip; go_simp; (try rfl); done)); try simp only [Act.put, List.setIfInBounds_toArray, List.set_cons_zero, List.set_cons_succ]))
   obtain ⟨c_x0, c_x1, c_x2, m_x0, m_x1, m_x2, l_x⟩ := unb3 yx7
   refine wpG_last ?_ (fun K hK => ?_); (focus rfl)
   go_simp
   refine hK.out _ _ ?_
   try simp only [Act.put, List.setIfInBounds_toArray, List.set_cons_zero, List.set_cons_succ]
   clear hK K
   clear c_x0 c_x1 c_x2 m_x0 m_x1 m_x2 l_x
   refine wpG_done ?_
   go_wp2_with fail
   go_roundw
   case rel =>
    refine ⟨j + 1, .slice (some ⟨gl, 0, none⟩) (j + 1) capl, _, HLT.out, by go_num, ⟨_, _, _, rfl⟩, Lib.hid (Below.setCell (p := ⟨xb, 1, none⟩) hG (by show w.heap.size ≤ xb; have := HBX.out.2.2.1; omega) _), Lib.hid (by rw [size_put1']; exact HWR9.out), Lib.hid ⟨ys7.far _ _ (by show xb ≠ sb; omega), yr7.far _ _ (by show xb ≠ rb; omega), yx7.put 1 _ (by simp)⟩, Lib.hid (own_far hmr7 _ _ (fun e => by have h1 := (World.ownsRow.lt HMR.out xb e).1; have h2 := HBX.out.2.2; omega)), Lib.hid ⟨HL9.out.far keeps_df _ _ (by show xb < W2.heap.size; omega), ?_⟩⟩
    rw [List.map_append, HL.out.2, HTK.out]; rfl
   case measure => have := HLT.out; simp [intOf]; omega
  ·
   have hjI : ¬ (j : Int) < (n : Int) := by omega
   have hje : j = n := by omega
   subst hje
   have HTA := Lib.hid (show (dl.take j).map (·.1) = dl.map (·.1) by rw [List.take_of_length_le (by rw [HN.out]; exact Nat.le_refl _)])
   obtain ⟨c_s0, c_s1, c_s2, m_s0, m_s1, m_s2, l_s⟩ := unb3 ys
   clear hj hjn
   go_wp2_with fail
   clear c_s0 c_s1 c_s2 m_s0 m_s1 m_s2 l_s
   obtain ⟨W3, hW3⟩ : ∃ W, wr = W := ⟨_, rfl⟩
   rw [hW3] at HG HWR HBO HMR HL ⊢
   have HVD := Lib.hid (show ∀ g, (Value.slice vp vn vc).ownBlock = some g → g < W3.heap.size from fun g hg => (World.ownsRow.lt HL.out.1.2.1 g hg).2)
   clear ys yr yx hW3
   go_loopw [5] (fun i wr => ∃ (k : Nat) (rv : Value) (rs : List (Rl × List Value)), k ≤ nr ∧ i = .int .i64 (k : Int) ∧ (∃ p k c, rv = .slice p k c) ∧ Hid (Gr w wr) ∧ Hid (W3.heap.size ≤ wr.heap.size) ∧ Hid (∀ g, W.heap.size ≤ g → g < W3.heap.size → wr.heap[g]? = W3.heap[g]?) ∧ Hid (boxAt wr sb [.slice pm nm cm, .slice pd j cd, .slice pr nr cr] ∧ boxAt wr rb [.slice none 0 0, .slice none 0 0, .slice none 0 0] ∧ boxAt wr xb [.slice p4 nm c4', .slice vp vn vc, rv]) ∧
    Hid (Grows RlOwn 71 26 W3.heap.size wr rv k rs ∧ rs.map (·.1) = (rl.take k).map (·.1))) (fun i _ => nr - (intOf i).toNat)
   case atStart => exact ⟨0, .slice none 0 0, [], Nat.zero_le _, rfl, ⟨_, _, _, rfl⟩, HG, Lib.hid (Nat.le_refl _), Lib.hid (fun _ _ _ => rfl), HBO, Lib.hid ⟨Grows.nil _ _ _ _, rfl⟩⟩
   case round =>
    clear HG HBO
    obtain ⟨k, rv, rs, hk, rfl, ⟨vp2, vn2, vc2, rfl⟩, HG, HWR2, HKF, HBO, HL2⟩ := hrel
    have ys := HBO.out.1
    have yr := HBO.out.2.1
    have yx := HBO.out.2.2
    rcases Nat.lt_or_ge k nr with hkn | hkn
    ·
     have hkI : (k : Int) < (nr : Int) := by omega
     have HLT := Lib.hid hkn
     obtain ⟨⟨r, cs⟩, hx⟩ : ∃ x, rl[k]? = some x := ⟨_, List.getElem?_eq_getElem (by rw [HNR.out]; exact hkn)⟩
     obtain ⟨b4, off, hpm, hbl, hc⟩ := elem_at HRS.out (fun x hx => (HRI.out x hx).len) HNR.out hx
     have hok := HRI.out _ (List.mem_of_getElem? hx)
     have HTK := Lib.hid (show (rl.take (k + 1)).map (·.1) = (rl.take k).map (·.1) ++ [r] by rw [List.take_add_one, hx, List.map_append]; rfl)
     dsimp only at hok hc
     obtain ⟨vmr, var, ec, tc, rfl, hee, hte, hmm, hmn2, hmb2, hmo2, haa, han2, hab2, hao2, hll, hpp⟩ := hok.parts
     have HC1 := Lib.hid (fun (cur : World) (h : Gr w cur) => copyExpr_any _ r.head (Nat.le_refl _) ec cur (hee.later h))
     have HC2 := Lib.hid (fun (cur : World) (h : Gr w cur) => copyExpr_any _ r.trail (Nat.le_refl _) tc cur (hte.later h))
     obtain ⟨op, ps, s1, tx, mn, mx, p1, n1, c1, rfl⟩ := hee.formN
     obtain ⟨op2, ps2, s2, tx2, mn2, mx2, p2, n2, c2, rfl⟩ := hte.formN
     unfold exCells at HC1 HC2 hc
     try dsimp only at HC1 HC2
     obtain ⟨num, hnum⟩ : ∃ n, r.modes.length = n := ⟨_, rfl⟩
     obtain ⟨nua, hnua⟩ : ∃ n, r.acts.length = n := ⟨_, rfl⟩
     rw [hnum] at hmm hmb2
     rw [hnua] at haa hab2
     obtain ⟨pum, cum, rfl⟩ := hmm.len
     obtain ⟨pua, cua, rfl⟩ := haa.len
     obtain ⟨aM, kM, hve, hnM, hsM⟩ := src_of hmm hmn2
     injection hve with h1 h2 h3
     subst h1 h3
     obtain ⟨aA, kA, hve, hnA, hsA⟩ := src_of haa han2
     injection hve with h1 h2 h3
     subst h1 h3
     have HPT := Lib.hid (And.intro hmo2 (And.intro hao2 (And.intro hll (And.intro hpp (And.intro hmb2 (And.intro hab2 (And.intro hnum hnua)))))))
     have HSM := Lib.hid (And.intro hmm.1 (And.intro hmm.2.1 hsM))
     have HSA := Lib.hid (And.intro haa.1 (And.intro haa.2.1 hsA))
     obtain ⟨po, hpo⟩ : ∃ x, r.pos = x := ⟨_, rfl⟩
     obtain ⟨al, hal⟩ : ∃ x, r.all = x := ⟨_, rfl⟩
     obtain ⟨ht, hht⟩ : ∃ x, r.hasTrail = x := ⟨_, rfl⟩
     obtain ⟨lb, hlb⟩ : ∃ x, r.label = x := ⟨_, rfl⟩
     rw [hpo, hal, hht, hlb] at hc
     have HNM := Lib.hid (And.intro hpo (And.intro hal (And.intro hht hlb)))
     subst hpm
     have hgr := HG.out
     have HCELL := Lib.hid (fun t u (h : ([.int .i64 po, .bool al, .slice pum num cum, .int .i64 op, .int .i64 ps, .int .u64 (wd s1 0), .int .u64 (wd s1 1), .int .u64 (wd s1 2), .int .u64 (wd s1 3), .string tx, .int .i64 mn, .int .i64 mx, .slice p1 n1 c1, .bool ht, .int .i64 op2, .int .i64 ps2, .int .u64 (wd s2 0), .int .u64 (wd s2 1), .int .u64 (wd s2 2), .int .u64 (wd s2 3), .string tx2, .int .i64 mn2, .int .i64 mx2, .slice p2 n2 c2, .string lb, .slice pua nua cua] : List Value)[t]? = some u) => hgr.cell (hc t u h))
     have hbr := Nat.lt_of_lt_of_le hbl hgr.size
     clear hx hk hkn hok hee hte hmm hmn2 hmb2 hmo2 haa han2 hab2 hao2 hll hpp hsM hsA hnum hnua hpo hal hht hlb hc hbl
     obtain ⟨c_s0, c_s1, c_s2, m_s0, m_s1, m_s2, l_s⟩ := unb3 ys
     go_upto_region 13 with (first | ((with_reducible refine wpList_plain ?_ (fun _ hK => ?_)); (focus rfl); refine wp_load_at 71 (.tmp 57) rfl b4 (off + k * 26) rfl [.int .i64 po, .bool al, .slice pum num cum, .int .i64 op, .int .i64 ps, .int .u64 (wd s1 0), .int .u64 (wd s1 1), .int .u64 (wd s1 2), .int .u64 (wd s1 3), .string tx, .int .i64 mn, .int .i64 mx, .slice p1 n1 c1, .bool ht, .int .i64 op2, .int .i64 ps2, .int .u64 (wd s2 0), .int .u64 (wd s2 1), .int .u64 (wd s2 2), .int .u64 (wd s2 3), .string tx2, .int .i64 mn2, .int .i64 mx2, .slice p2 n2 c2, .string lb, .slice pua nua cua] _ HCELL.out Tryz.underlying71 rfl (by kernel_rfl) (hK _ _ ?_)) | ((with_reducible refine wpList_plain ?_ (fun _ hK => ?_)); (focus rfl); refine wp_store_row 71 (.tmp 6) (.tmp 58) rfl wr.heap.size #[.int .i64 po, .bool al, .slice pum num cum, .int .i64 op, .int .i64 ps, .int .u64 (wd s1 0), .int .u64 (wd s1 1), .int .u64 (wd s1 2), .int .u64 (wd s1 3), .string tx, .int .i64 mn, .int .i64 mx, .slice p1 n1 c1, .bool ht, .int .i64 op2, .int .i64 ps2, .int .u64 (wd s2 0), .int .u64 (wd s2 1), .int .u64 (wd s2 2), .int .u64 (wd s2 3), .string tx2, .int .i64 mn2, .int .i64 mx2, .slice p2 n2 c2, .string lb, .slice pua nua cua] rfl rfl 71 _ (heap_alloc_new wr _) (by kernel_rfl) rfl (all_ones _ rfl) (hK _ _ ?_); clear hK; refine name_wpList (fun xc_w hxc => ?_); obtain ⟨xc, xc_g, xc_s⟩ := new_row (cs := [.int .i64 po, .bool al, .slice pum num cum, .int .i64 op, .int .i64 ps, .int .u64 (wd s1 0), .int .u64 (wd s1 1), .int .u64 (wd s1 2), .int .u64 (wd s1 3), .string tx, .int .i64 mn, .int .i64 mx, .slice p1 n1 c1, .bool ht, .int .i64 op2, .int .i64 ps2, .int .u64 (wd s2 0), .int .u64 (wd s2 1), .int .u64 (wd s2 2), .int .u64 (wd s2 3), .string tx2, .int .i64 mn2, .int .i64 mx2, .slice p2 n2 c2, .string lb, .slice pua nua cua]) hxc; clear hxc; have xc_h := boxAt.row xc))
     have HQ := Lib.hid xc
     obtain ⟨qb, hqb⟩ : ∃ b, wr.heap.size = b := ⟨_, rfl⟩
     rw [hqb] at HQ
     simp only [hqb]
     have HQB := Lib.hid hqb
     have HGX := Lib.hid xc_g
     have HXS := Lib.hid xc_s
     clear c_s0 c_s1 c_s2 m_s0 m_s1 m_s2 l_s
     clear xc_h xc_s xc_g hqb HCELL hbr xc ys yr yx hgr
     try dsimp only [Act.put]
     have HTW := Lib.hid (fun (V : World) (hk : KpR [qb] xc_w V) => KpR.toGr (HG.out.trans HGX.out) hk (fun x hx => by rw [List.mem_singleton.1 hx, ← HQB.out]; exact HG.out.size))
     have HTR := Lib.hid (fun (V : World) (hk : KpR [qb] xc_w V) => KpR.toGr HGX.out hk (fun x hx => by rw [List.mem_singleton.1 hx, ← HQB.out]; exact Nat.le_refl _))
     have hlt := HQ.out.lt (by simp)
     have HLQ := Lib.hid hlt
     have q2 := HQ.out.cell 2 _ rfl
     have m2 := HQ.out.mark 2 _ rfl
     go_upto_region 14 with (at_builtin; refine wpList_append_own_any rfl (.tmp 59) (.tmp 61) 68 rfl xc_w.heap.size 78 i2 _ 2 24 Tryz.underlying68 ui uy0 uy1 uy2 rfl (by decide) _ 0 [] rfl (World.ownsRow_nil _ _ _ _) pum num cum (r.modes.flatMap usC) rfl HSM.out.1 hnM (fun ad h j u hj => (HG.out.trans HGX.out).cell (HSM.out.2.2 ad h j u hj)) (us_ones _) (by rw [Nat.zero_add]; exact HSM.out.2.1) (by rw [Nat.zero_add]; have := HPT.out.2.2.2.2.1; omega) (Nat.le_refl _) ?_; intro v' w5 hown5 hg5 _; rw [Nat.zero_add, List.nil_append] at hown5; obtain ⟨pM, cM, rfl⟩ := (Sl.of_owns hown5).len; have HM5 := Lib.hid hown5; have HG5 := Lib.hid hg5; have hq5 := HQ.out.grown hg5 (by simp) (by show (none : Option Nat) ≠ _; simp); have y2 := hq5.cell 2 _ rfl; have z2 := hq5.mark 2 _ rfl; have zl := hq5.lt (Nat.succ_pos _); clear hown5 hg5)
     refine name_world (fun W6 hW6 => ?_)
     have HQ6 := Lib.hid (show boxAt W6 qb [.int .i64 po, .bool al, .slice pM num cM, .int .i64 op, .int .i64 ps, .int .u64 (wd s1 0), .int .u64 (wd s1 1), .int .u64 (wd s1 2), .int .u64 (wd s1 3), .string tx, .int .i64 mn, .int .i64 mx, .slice p1 n1 c1, .bool ht, .int .i64 op2, .int .i64 ps2, .int .u64 (wd s2 0), .int .u64 (wd s2 1), .int .u64 (wd s2 2), .int .u64 (wd s2 3), .string tx2, .int .i64 mn2, .int .i64 mx2, .slice p2 n2 c2, .string lb, .slice pua nua cua] by rw [hW6]; exact hq5.put 2 _ (by simp))
     have HK6 := Lib.hid (show KpR [qb] xc_w W6 by rw [hW6]; exact ((KpR.refl [qb] xc_w).grown HG5.out (fun k hk => by cases hk)).put (.inr (by simp)) _)
     have HM6 := Lib.hid (show W6.ownsRow xc_w.heap.size 78 2 (.slice pM num cM) num (r.modes.flatMap usC) by
      rw [hW6]
      exact own_far HM5.out _ _ (fun e => by have h1 := (World.ownsRow.lt HM5.out qb e).1; have h2 := HLQ.out; omega))
     clear hW6 hq5 y2 z2 zl q2 m2 hlt HM5 HG5 hnM
     have hlt := HQ6.out.lt (by simp)
     have q2 := HQ6.out.cell 25 _ rfl
     have m2 := HQ6.out.mark 25 _ rfl
     go_upto_region 15 with (at_builtin; refine wpList_append_own_any rfl (.tmp 64) (.tmp 66) 69 rfl W6.heap.size 80 i3 _ 3 32 Tryz.underlying69 ai ay0 ay1 ay2 rfl (by decide) _ 0 [] rfl (World.ownsRow_nil _ _ _ _) pua nua cua (r.acts.flatMap acC) rfl HSA.out.1 hnA (fun ad h j u hj => (HTW.out W6 HK6.out).cell (HSA.out.2.2 ad h j u hj)) (ac_ones _) (by rw [Nat.zero_add]; exact HSA.out.2.1) (by rw [Nat.zero_add]; have := HPT.out.2.2.2.2.2.1; omega) (Nat.le_refl _) ?_; intro v' w7 hown7 hg7 _; rw [Nat.zero_add, List.nil_append] at hown7; obtain ⟨pA, cA, rfl⟩ := (Sl.of_owns hown7).len; have HA7 := Lib.hid hown7; have HG7 := Lib.hid hg7; have hq7 := HQ6.out.grown hg7 (by simp) (by show (none : Option Nat) ≠ _; simp); have y2 := hq7.cell 25 _ rfl; have z2 := hq7.mark 25 _ rfl; have zl := hq7.lt (Nat.succ_pos _); clear hown7 hg7)
     refine name_world (fun W8 hW8 => ?_)
     have HLQ6 := Lib.hid hlt
     have HLS6 := Lib.hid (show wr.heap.size ≤ W6.heap.size from Nat.le_trans HGX.out.size HK6.out.size)
     have HQ8 := Lib.hid (show boxAt W8 qb [.int .i64 po, .bool al, .slice pM num cM, .int .i64 op, .int .i64 ps, .int .u64 (wd s1 0), .int .u64 (wd s1 1), .int .u64 (wd s1 2), .int .u64 (wd s1 3), .string tx, .int .i64 mn, .int .i64 mx, .slice p1 n1 c1, .bool ht, .int .i64 op2, .int .i64 ps2, .int .u64 (wd s2 0), .int .u64 (wd s2 1), .int .u64 (wd s2 2), .int .u64 (wd s2 3), .string tx2, .int .i64 mn2, .int .i64 mx2, .slice p2 n2 c2, .string lb, .slice pA nua cA] by rw [hW8]; exact hq7.put 25 _ (by simp))
     have HK68 := Lib.hid (show KpR [qb] W6 W8 by rw [hW8]; exact ((KpR.refl [qb] W6).grown HG7.out (fun k hk => by cases hk)).put (.inr (by simp)) _)
     have HK8 := Lib.hid (kpr1 HK6.out HK68.out)
     have HM8 := Lib.hid (own_kp HM6.out HK68.out HLQ.out)
     have HA8 := Lib.hid (show W8.ownsRow W6.heap.size 80 3 (.slice pA nua cA) nua (r.acts.flatMap acC) by
      rw [hW8]
      exact own_far HA7.out _ _ (fun e => by have h1 := (World.ownsRow.lt HA7.out qb e).1; have h2 := HLQ6.out; omega))
     clear hW8 hq7 y2 z2 zl q2 m2 hlt HA7 HG7 hnA HM6 HQ6 HK6 HK68
     have xq := HQ8.out
     obtain ⟨c_q0, c_q1, c_q2, c_q3, c_q4, c_q5, c_q6, c_q7, c_q8, c_q9, c_q10, c_q11, c_q12, c_q13, c_q14, c_q15, c_q16, c_q17, c_q18, c_q19, c_q20, c_q21, c_q22, c_q23, c_q24, c_q25, m_q0, m_q1, m_q2, m_q3, m_q4, m_q5, m_q6, m_q7, m_q8, m_q9, m_q10, m_q11, m_q12, m_q13, m_q14, m_q15, m_q16, m_q17, m_q18, m_q19, m_q20, m_q21, m_q22, m_q23, m_q24, m_q25, l_q⟩ := unb26 xq
     go_wp2_with fail
     go_at_call 32
     (with_reducible refine (HC1.out W8 (HTW.out W8 HK8.out)).mono ?_); rintro e' w9 ⟨ds, rfl, ho, hb⟩
     obtain ⟨op3, ps3, s3, tx3, mn3, mx3, p3, n3, c3, rfl⟩ := ho.form
     have HEH := Lib.hid ho
     have HB9 := Lib.hid hb
     have xq9 := xq.later hb
     have HL9 := Lib.hid (xq.lt (by simp))
     clear c_q0 c_q1 c_q2 c_q3 c_q4 c_q5 c_q6 c_q7 c_q8 c_q9 c_q10 c_q11 c_q12 c_q13 c_q14 c_q15 c_q16 c_q17 c_q18 c_q19 c_q20 c_q21 c_q22 c_q23 c_q24 c_q25 m_q0 m_q1 m_q2 m_q3 m_q4 m_q5 m_q6 m_q7 m_q8 m_q9 m_q10 m_q11 m_q12 m_q13 m_q14 m_q15 m_q16 m_q17 m_q18 m_q19 m_q20 m_q21 m_q22 m_q23 m_q24 m_q25 l_q
     clear ho hb xq
     unfold exCells at HEH ⊢
     try dsimp only
     have xl9 := xq9.lt (Nat.succ_pos _)
     go_upto_region 16 with (refine wpList_store_mid rfl 55 (.tmp 72) (.tmp 71) rfl qb 3 #[.int .i64 op3, .int .i64 ps3, .int .u64 (wd s3 0), .int .u64 (wd s3 1), .int .u64 (wd s3 2), .int .u64 (wd s3 3), .string tx3, .int .i64 mn3, .int .i64 mx3, .slice p3 n3 c3] rfl rfl (there_box xq9 (show 3 + 10 ≤ 26 by decide)) (by kernel_rfl) (all_oneCell_toArray (ex_ones _ _ _ _ _ _ _ _ _)) ?_)
     refine name_world (fun W10 hW10 => ?_)
     have HQ10 := Lib.hid (show boxAt W10 qb [.int .i64 po, .bool al, .slice pM num cM, .int .i64 op3, .int .i64 ps3, .int .u64 (wd s3 0), .int .u64 (wd s3 1), .int .u64 (wd s3 2), .int .u64 (wd s3 3), .string tx3, .int .i64 mn3, .int .i64 mx3, .slice p3 n3 c3, .bool ht, .int .i64 op2, .int .i64 ps2, .int .u64 (wd s2 0), .int .u64 (wd s2 1), .int .u64 (wd s2 2), .int .u64 (wd s2 3), .string tx2, .int .i64 mn2, .int .i64 mx2, .slice p2 n2 c2, .string lb, .slice pA nua cA] by rw [hW10]; exact set_mid xq9 (o := 3) (xs := [.int .i64 op3, .int .i64 ps3, .int .u64 (wd s3 0), .int .u64 (wd s3 1), .int .u64 (wd s3 2), .int .u64 (wd s3 3), .string tx3, .int .i64 mn3, .int .i64 mx3, .slice p3 n3 c3]) (show 3 + 10 ≤ 26 by decide))
     have HK810 := Lib.hid (show KpR [qb] W8 W10 by rw [hW10]; exact (KpR.gr HB9.out).setCells _ _ (.inr (by simp)))
     have HK910 := Lib.hid (show KpR [qb] w9 W10 by rw [hW10]; exact (KpR.refl [qb] w9).setCells _ _ (.inr (by simp)))
     have HK10 := Lib.hid (kpr1 HK8.out HK810.out)
     have HM10 := Lib.hid (own_kp HM8.out HK810.out HLQ.out)
     have HA10 := Lib.hid (own_kp HA8.out HK810.out HLQ6.out)
     have HEH10 := Lib.hid (ex_kp HEH.out HK910.out HL9.out (Nat.le_refl _))
     have HS910 := Lib.hid HK910.out.size
     clear hW10 xq9 xl9 HM8 HA8 HEH HK810 HK910 HB9 HQ8
     have xq := HQ10.out
     obtain ⟨c_q0, c_q1, c_q2, c_q3, c_q4, c_q5, c_q6, c_q7, c_q8, c_q9, c_q10, c_q11, c_q12, c_q13, c_q14, c_q15, c_q16, c_q17, c_q18, c_q19, c_q20, c_q21, c_q22, c_q23, c_q24, c_q25, m_q0, m_q1, m_q2, m_q3, m_q4, m_q5, m_q6, m_q7, m_q8, m_q9, m_q10, m_q11, m_q12, m_q13, m_q14, m_q15, m_q16, m_q17, m_q18, m_q19, m_q20, m_q21, m_q22, m_q23, m_q24, m_q25, l_q⟩ := unb26 xq
     go_wp2_with fail
     go_at_call 32
     (with_reducible refine (HC2.out W10 (HTW.out W10 HK10.out)).mono ?_); rintro e' w11 ⟨ds, rfl, ho, hb⟩
     obtain ⟨op5, ps5, s5, tx5, mn5, mx5, p5, n5, c5, rfl⟩ := ho.form
     have HET := Lib.hid ho
     have HB11 := Lib.hid hb
     have xq11 := xq.later hb
     have HL11 := Lib.hid (xq.lt (by simp))
     clear c_q0 c_q1 c_q2 c_q3 c_q4 c_q5 c_q6 c_q7 c_q8 c_q9 c_q10 c_q11 c_q12 c_q13 c_q14 c_q15 c_q16 c_q17 c_q18 c_q19 c_q20 c_q21 c_q22 c_q23 c_q24 c_q25 m_q0 m_q1 m_q2 m_q3 m_q4 m_q5 m_q6 m_q7 m_q8 m_q9 m_q10 m_q11 m_q12 m_q13 m_q14 m_q15 m_q16 m_q17 m_q18 m_q19 m_q20 m_q21 m_q22 m_q23 m_q24 m_q25 l_q
     clear ho hb xq
     unfold exCells at HET ⊢
     try dsimp only
     have xl11 := xq11.lt (Nat.succ_pos _)
     go_upto_region 17 with (refine wpList_store_mid rfl 55 (.tmp 76) (.tmp 75) rfl qb 14 #[.int .i64 op5, .int .i64 ps5, .int .u64 (wd s5 0), .int .u64 (wd s5 1), .int .u64 (wd s5 2), .int .u64 (wd s5 3), .string tx5, .int .i64 mn5, .int .i64 mx5, .slice p5 n5 c5] rfl rfl (there_box xq11 (show 14 + 10 ≤ 26 by decide)) (by kernel_rfl) (all_oneCell_toArray (ex_ones _ _ _ _ _ _ _ _ _)) ?_)
     refine name_world (fun W12 hW12 => ?_)
     have HQ12 := Lib.hid (show boxAt W12 qb [.int .i64 po, .bool al, .slice pM num cM, .int .i64 op3, .int .i64 ps3, .int .u64 (wd s3 0), .int .u64 (wd s3 1), .int .u64 (wd s3 2), .int .u64 (wd s3 3), .string tx3, .int .i64 mn3, .int .i64 mx3, .slice p3 n3 c3, .bool ht, .int .i64 op5, .int .i64 ps5, .int .u64 (wd s5 0), .int .u64 (wd s5 1), .int .u64 (wd s5 2), .int .u64 (wd s5 3), .string tx5, .int .i64 mn5, .int .i64 mx5, .slice p5 n5 c5, .string lb, .slice pA nua cA] by rw [hW12]; exact set_mid xq11 (o := 14) (xs := [.int .i64 op5, .int .i64 ps5, .int .u64 (wd s5 0), .int .u64 (wd s5 1), .int .u64 (wd s5 2), .int .u64 (wd s5 3), .string tx5, .int .i64 mn5, .int .i64 mx5, .slice p5 n5 c5]) (show 14 + 10 ≤ 26 by decide))
     have HKA := Lib.hid (show KpR [qb] W10 W12 by rw [hW12]; exact (KpR.gr HB11.out).setCells _ _ (.inr (by simp)))
     have HKB := Lib.hid (show KpR [qb] w11 W12 by rw [hW12]; exact (KpR.refl [qb] w11).setCells _ _ (.inr (by simp)))
     have HK12 := Lib.hid (kpr1 HK10.out HKA.out)
     have HM12 := Lib.hid (own_kp HM10.out HKA.out HLQ.out)
     have HA12 := Lib.hid (own_kp HA10.out HKA.out HLQ6.out)
     have HEH12 := Lib.hid (ex_kp HEH10.out HKA.out HL9.out HS910.out)
     have HET12 := Lib.hid (ex_kp HET.out HKB.out HL11.out (Nat.le_refl _))
     have hz1 := HGX.out.size
     have hz2 := HK8.out.size
     have hz3 := HK10.out.size
     have hz4 := HK12.out.size
     have hz5 := HKA.out.size
     have hz6 := HKB.out.size
     have hz7 := HS910.out
     have HO := Lib.hid (show RlOwn (fun b => wr.heap.size ≤ b ∧ b < W12.heap.size) W12 r [.int .i64 po, .bool al, .slice pM num cM, .int .i64 op3, .int .i64 ps3, .int .u64 (wd s3 0), .int .u64 (wd s3 1), .int .u64 (wd s3 2), .int .u64 (wd s3 3), .string tx3, .int .i64 mn3, .int .i64 mx3, .slice p3 n3 c3, .bool ht, .int .i64 op5, .int .i64 ps5, .int .u64 (wd s5 0), .int .u64 (wd s5 1), .int .u64 (wd s5 2), .int .u64 (wd s5 3), .string tx5, .int .i64 mn5, .int .i64 mx5, .slice p5 n5 c5, .string lb, .slice pA nua cA] from by
      have h := RlOwn.mk (S := fun b => wr.heap.size ≤ b ∧ b < W12.heap.size) (w := W12) r (.slice pM num cM) (.slice pA nua cA) _ _
       (HEH12.out.keep (S' := fun b => wr.heap.size ≤ b ∧ b < W12.heap.size) (fun _ _ => rfl) (fun b hb => ⟨by have := hb.1; omega, by have := hb.2; omega⟩))
       (HET12.out.keep (S' := fun b => wr.heap.size ≤ b ∧ b < W12.heap.size) (fun _ _ => rfl) (fun b hb => ⟨by have := hb.1; omega, by have := hb.2; omega⟩))
       (by rw [HPT.out.2.2.2.2.2.2.1]; exact Sl.of_owns HM12.out) (nily_own HM12.out) (fun a n c e => by
        have h := World.ownsRow.lt HM12.out a.block (by rw [e]; rfl)
        exact ⟨by have := h.1; omega, h.2⟩) (by rw [HPT.out.2.2.2.2.2.2.1]; exact HPT.out.2.2.2.2.1) HPT.out.1
       (by rw [HPT.out.2.2.2.2.2.2.2]; exact Sl.of_owns HA12.out) (nily_own HA12.out) (fun a n c e => by
        have h := World.ownsRow.lt HA12.out a.block (by rw [e]; rfl)
        exact ⟨by have := h.1; have := HLS6.out; omega, h.2⟩) (by rw [HPT.out.2.2.2.2.2.2.2]; exact HPT.out.2.2.2.2.2.1) HPT.out.2.1 HPT.out.2.2.1 HPT.out.2.2.2.1
      rw [HNM.out.1, HNM.out.2.1, HNM.out.2.2.1, HNM.out.2.2.2] at h
      exact h)
     have HRN := Lib.hid (HTR.out W12 HK12.out)
     have HRW := Lib.hid (HTW.out W12 HK12.out)
     clear hz1 hz2 hz3 hz4 hz5 hz6 hz7 hW12 xq11 xl11 HM10 HA10 HEH10 HET HKA HKB HB11 HQ10 HM12 HA12 HEH12 HET12 HTR HTW HK8 HK10 HK12 HS910 HC1 HC2 HL9 HL11 HLS6
     have HCQ := Lib.hid (fun t u (h : ([.int .i64 po, .bool al, .slice pM num cM, .int .i64 op3, .int .i64 ps3, .int .u64 (wd s3 0), .int .u64 (wd s3 1), .int .u64 (wd s3 2), .int .u64 (wd s3 3), .string tx3, .int .i64 mn3, .int .i64 mx3, .slice p3 n3 c3, .bool ht, .int .i64 op5, .int .i64 ps5, .int .u64 (wd s5 0), .int .u64 (wd s5 1), .int .u64 (wd s5 2), .int .u64 (wd s5 3), .string tx5, .int .i64 mn5, .int .i64 mx5, .slice p5 n5 c5, .string lb, .slice pA nua cA] : List Value)[t]? = some u) => boxAt.row HQ12.out t u h)
     have hql := HQ12.out.lt (by simp)
     have yx12 := HBO.out.2.2.later HRN.out
     have x2 := yx12.cell 2 _ rfl
     have xl := yx12.lt (Nat.succ_pos _)
     have hbs := HBS.out
     have HNX := Lib.hid (fun g (hg : (Value.slice vp2 vn2 vc2).ownBlock = some g) => (World.ownsRow.lt HL2.out.1.2.1 g hg).1)
     go_wp2_with (first
      | ((with_reducible refine wpList_plain ?_ (fun _ hK => ?_)); (focus rfl); refine wp_load_at 71 (.tmp 6) rfl qb (0) rfl [.int .i64 po, .bool al, .slice pM num cM, .int .i64 op3, .int .i64 ps3, .int .u64 (wd s3 0), .int .u64 (wd s3 1), .int .u64 (wd s3 2), .int .u64 (wd s3 3), .string tx3, .int .i64 mn3, .int .i64 mx3, .slice p3 n3 c3, .bool ht, .int .i64 op5, .int .i64 ps5, .int .u64 (wd s5 0), .int .u64 (wd s5 1), .int .u64 (wd s5 2), .int .u64 (wd s5 3), .string tx5, .int .i64 mn5, .int .i64 mx5, .slice p5 n5 c5, .string lb, .slice pA nua cA] _ HCQ.out Tryz.underlying71 rfl (by kernel_rfl) (hK _ _ ?_))
      | (at_builtin; refine wpList_append_own_at _ rfl (.tmp 78) (.tmp 80) 26 rfl W3.heap.size 71 i4 _ 26 296 Tryz.underlying26 ri ry0 ry1 ry2 rfl (by decide) _ k (rs.flatMap (·.2)) rfl (owns_later HL2.out.1.2.1 (HRN.out.trans (Gr.alloc _ _))) ⟨W12.heap.size, 0, none⟩ 1 1 [.int .i64 po, .bool al, .slice pM num cM, .int .i64 op3, .int .i64 ps3, .int .u64 (wd s3 0), .int .u64 (wd s3 1), .int .u64 (wd s3 2), .int .u64 (wd s3 3), .string tx3, .int .i64 mn3, .int .i64 mx3, .slice p3 n3 c3, .bool ht, .int .i64 op5, .int .i64 ps5, .int .u64 (wd s5 0), .int .u64 (wd s5 1), .int .u64 (wd s5 2), .int .u64 (wd s5 3), .string tx5, .int .i64 mn5, .int .i64 mx5, .slice p5 n5 c5, .string lb, .slice pA nua cA] rfl rfl (new_cells _ _ _) (list_ones _ rfl) (by have := HLT.out; have := HRB.out; unfold maxLen; omega) (by have := HLT.out; have := HRB.out; omega) (Nat.le_trans HWR2.out (HRN.out.trans (Gr.alloc _ _)).size) ?_; intro v' w14 hown14 hg14 _ hat14; obtain ⟨gl, capl, rfl, _⟩ := owns_block hown14 (by omega); have HGR := Lib.hid (Grows.push keeps_rl HL2.out.1 HRN.out HWR2.out HO.out rfl (Gr.alloc _ _) hown14 hg14 hat14); have HG14 := Lib.hid hg14; have HGA := Lib.hid (gr_left HRN.out hg14); have yx14 := (yx12.later (Gr.alloc _ _)).grown hg14 (by simp) (fun e => by have h1 := HNX.out xb e; have h2 := HWR.out; have h3 := HBS.out.2.2.1; omega); have y2 := yx14.cell 2 _ rfl; have z2 := yx14.mark 2 _ rfl; have zl := yx14.lt (Nat.succ_pos _); clear hown14 hg14 hat14))
     go_roundw
     case rel =>
      have hs1 := HGW2.out.size
      have hs2 := HWR.out
      have hs3 := HWR2.out
      have hbx := HBX.out
      have hga := HGA.out
      have hgs := hga.size
      refine ⟨k + 1, .slice (some ⟨gl, 0, none⟩) (k + 1) capl, _, HLT.out, by go_num, ⟨_, _, _, rfl⟩, Lib.hid (Below.setCell (p := ⟨xb, 2, none⟩) (Gr.grown (HG.out.trans hga) HG14.out (fun g hg => by have := HNX.out g hg; omega)) (by show w.heap.size ≤ xb; omega) _), Lib.hid (by rw [size_put1']; have := HG14.out.size; omega), Lib.hid (fun g h1 h2 => ?_), Lib.hid ⟨?_, ?_, yx14.put 2 _ (by simp)⟩, Lib.hid ⟨HGR.out.far keeps_rl _ _ (by show xb < W3.heap.size; omega), ?_⟩⟩
      ·
       rw [setCell_far _ _ _ _ (show xb ≠ g by omega), HG14.out.block g (by omega) (fun e => by have := HNX.out g e.symm; omega), Below.block hga g (by omega)]
       exact HKF.out g h1 h2
      · exact (((HBO.out.1.later hga).grown HG14.out (by simp) (fun e => by have := HNX.out sb e; omega)).far _ _ (by show xb ≠ sb; omega))
      · exact (((HBO.out.2.1.later hga).grown HG14.out (by simp) (fun e => by have := HNX.out rb e; omega)).far _ _ (by show xb ≠ rb; omega))
      · rw [List.map_append, HL2.out.2, HTK.out]; rfl
     case measure => have := HLT.out; simp [intOf]; omega
    ·
     have hkI : ¬ (k : Int) < (nr : Int) := by omega
     have hke : k = nr := by omega
     subst hke
     clear hk hkn
     obtain ⟨c_s0, c_s1, c_s2, m_s0, m_s1, m_s2, l_s⟩ := unb3 ys
     obtain ⟨c_r0, c_r1, c_r2, m_r0, m_r1, m_r2, l_r⟩ := unb3 yr
     obtain ⟨c_x0, c_x1, c_x2, m_x0, m_x1, m_x2, l_x⟩ := unb3 yx
     have hbs := HBS.out
     have hn12 : rb ≠ xb := by omega
     go_wp2_with fail
     clear c_s0 c_s1 c_s2 m_s0 m_s1 m_s2 l_s
     refine bodyPost_ret (v := scV (.slice p4 nm c4') (.slice vp vn vc) (.slice vp2 vn2 vc2)) (by simp [scV, results, Tryz.results10, go_sem, c_r0, c_r1, c_r2]) rfl ⟨_, _, _, rfl, ?_, ?_⟩
     ·
      have hbx := HBX.out
      have hs1 := HGW2.out.size
      have hs2 := HWR.out
      have hs3 := HWR2.out
      obtain ⟨V, hV⟩ : ∃ V, (((wr.setCell ⟨rb, 0, none⟩ (.slice p4 nm c4')).setCell ⟨rb, 1, none⟩ (.slice vp vn vc)).setCell ⟨rb, 2, none⟩ (.slice vp2 vn2 vc2)) = V := ⟨_, rfl⟩
      have hk : ∀ g, g ≠ rb → V.heap[g]? = wr.heap[g]? := fun g hg => by
       rw [← hV, setCell_far _ _ _ _ (Ne.symm hg), setCell_far _ _ _ _ (Ne.symm hg), setCell_far _ _ _ _ (Ne.symm hg)]
      have hvs : V.heap.size = wr.heap.size := by rw [← hV, size_put1', size_put1', size_put1']
      rw [hV]
      obtain ⟨⟨hl1, hd2, hd3⟩, hd4⟩ := HL.out
      obtain ⟨⟨hr1, hr2, hr3⟩, hr4⟩ := HL2.out
      rw [HTA.out, HHD.out] at hd4
      rw [List.take_of_length_le (by rw [HNR.out]; exact Nat.le_refl _), HHR.out] at hr4
      have hmr := HMR.out
      have hml := HML.out
      have hvd := HVD.out
      have hvr := fun g hg => World.ownsRow.lt hr2 g hg
      have hvb := fun g hg => World.ownsRow.lt hd2 g hg
      have hmb := fun g hg => World.ownsRow.lt hmr g hg
      have kd : ∀ g, W.heap.size ≤ g → g < W3.heap.size → V.heap[g]? = W3.heap[g]? := fun g h1 h2 => (hk g (by omega)).trans (HKF.out g h1 h2)
      have hbs2 := HBS.out
      exact ⟨⟨ls, rs, hd4, hr4, own_mono (owns_heap (by rw [HNM0.out]; exact hmr) (fun g hg => kd g (hmb g hg).1 (by have := hml g hg; omega))) (by omega), HMO.out, by rw [HNM0.out]; exact HMBB.out,
       own_mono (owns_heap (by rw [hl1]; exact hd2) (fun g hg => kd g (by have := (hvb g hg).1; omega) (hvb g hg).2)) (by omega), by rw [hl1]; exact HNB.out,
       own_mono (owns_heap (by rw [hr1]; exact hr2) (fun g hg => hk g (by have := (hvr g hg).1; omega))) (by omega), by rw [hr1]; exact HRB.out,
       fun p hp => ⟨(hd3 p hp).1, keeps_df _ _ _ _ _ _ (hd3 p hp).2 (fun b hb => kd b (by have := hb.1; omega) hb.2.1) (fun b hb => ⟨by have := hb.1; omega, by have := hb.2.1; omega, hb.2.2, fun e => by have := (hvr b e).1; have := hb.2.1; omega⟩)⟩,
       fun p hp => ⟨(hr3 p hp).1, keeps_rl _ _ _ _ _ _ (hr3 p hp).2 (fun b hb => hk b (by have := hb.1; omega)) (fun b hb => ⟨by have := hb.1; omega, by have := hb.2.1; omega, fun e => by have := hvd b e; have := hb.1; omega, hb.2.2⟩)⟩,
       fun g hg => ⟨fun e => by have h1 := hml g hg; have h2 := (hvb g e).1; omega, fun e => by have h1 := hml g hg; have h2 := (hvr g e).1; omega⟩,
       fun g hg e => by have h1 := hvd g hg; have h2 := (hvr g e).1; omega⟩⟩
     · exact Below.setCell (p := ⟨rb, 2, none⟩) (Below.setCell (p := ⟨rb, 1, none⟩) (Below.setCell (p := ⟨rb, 0, none⟩) HG.out (by show w.heap.size ≤ rb; have := HBX.out; omega) _) (by show w.heap.size ≤ rb; have := HBX.out; omega) _) (by show w.heap.size ≤ rb; have := HBX.out; omega) _
end Go.Proofs.YtkkopdmemjncdaaGreatDoor
