/- Texts of mine, put together: Reg, NmAt, NmL. No condition but what each says. -/
import Derived.Test.YtkkopdmemjncdaaGreatDoorPNmC
import Derived.Test.YtkkopdmemjncdaaGreatDoorPHl

/- Boxes and rows of a call's own, while it goes on. No condition. -/
namespace Go.Proofs.YtkkopdmemjncdaaGreatDoor
open Go Go.RowKit

/-- What a call has laid: boxes, rows that grow. -/
structure Reg (w : World) (X : List (Nat × List Value)) (L : List RwE) (wr : World) : Prop where
  box : ∀ x ∈ X, boxAt wr x.1 x.2 ∧ 0 < x.2.length ∧ w.heap.size ≤ x.1
  rws : Rws wr w.heap.size (X.map (·.1)) L
  kp : KpR [] w wr
section
variable {w wr w' : World} {X : List (Nat × List Value)} {L M : List RwE}
theorem Reg.gr (h : Reg w X L wr) : Gr w wr := KpR.toGr (Gr.refl w) h.kp (fun x hx => by cases hx)
theorem Reg.start (w : World) : Reg w [] [] w := ⟨(fun x hx => by cases hx), Rws.nilX _ _ _, KpR.refl _ _⟩
theorem kprN {a b c : World} (h : KpR [] a b) (k : KpR [] b c) : KpR [] a c := h.trans k (fun x hx => by cases hx)
theorem Reg.later (h : Reg w X L wr) (hG : Gr wr w') : Reg w X L w' :=
  ⟨fun x hx => ⟨(h.box x hx).1.later hG, (h.box x hx).2⟩, h.rws.keep (fun g hg _ _ => Below.block hG g hg), kprN h.kp (KpR.gr hG)⟩
theorem Reg.addBox (h : Reg w X L wr) (hG : Gr wr w') {b : Nat} {cs : List Value} (hb : boxAt w' b cs) (hn : 0 < cs.length) (hl : wr.heap.size ≤ b) : Reg w ((b, cs) :: X) L w' := by
  have h1 := h.later hG
  refine ⟨fun x hx => ?_, ?_, h1.kp⟩
  · rcases List.mem_cons.1 hx with rfl | hx
    · exact ⟨hb, hn, Nat.le_trans h.kp.size hl⟩
    · exact h1.box x hx
  · refine (h.rws.addX (x := b) hl).keep (fun g hg _ _ => Below.block hG g hg)
theorem Reg.fresh (h : Reg w X L wr) (hG : Gr wr w') {e z n : Nat} {u : Value} {xs : List Value} (ho : w'.ownsRow wr.heap.size e z u n xs) : Reg w X (L ++ [⟨u, e, z, n, xs⟩]) w' := by
  have h1 := h.later hG
  refine ⟨h1.box, ?_, h1.kp⟩
  exact Rws.fresh h.rws (fun g hg => Below.block hG g hg) ho h.kp.size (fun x hx => by
    obtain ⟨y, hy, rfl⟩ := List.mem_map.1 hx
    exact (h.box y hy).1.lt (h.box y hy).2.1)
theorem Reg.push (h : Reg w X L wr) (e z : Nat) : Reg w X (L ++ [⟨.slice none 0 0, e, z, 0, []⟩]) wr := ⟨h.box, h.rws.push e z, h.kp⟩
theorem Reg.sub (h : Reg w X L wr) (hs : M.Sublist L) : Reg w X M wr := ⟨h.box, h.rws.sub hs, h.kp⟩
theorem Reg.row (h : Reg w X L wr) {r : RwE} (hr : r ∈ L) : wr.ownsRow w.heap.size r.e r.k r.v r.n r.xs := h.rws.own r hr
/-- One row grows. -/
theorem Reg.grow (h : Reg w X L wr) {i : Nat} {r : RwE} (hi : L[i]? = some r) {v' : Value} {n' : Nat} {xs' : List Value}
    (hg : wr.grownBy w' r.v.ownBlock) (ho : w'.ownsRow w.heap.size r.e r.k v' n' xs') (hat : v'.ownBlock = r.v.ownBlock ∨ v'.ownBlock = some wr.heap.size) : Reg w X (L.set i ⟨v', r.e, r.k, n', xs'⟩) w' := by
  have hm := List.mem_of_getElem? hi
  have hr := h.row hm
  refine ⟨fun x hx => ⟨(h.box x hx).1.grown hg (h.box x hx).2.1 (fun e => h.rws.out r hm x.1 e (List.mem_map.2 ⟨x, hx, rfl⟩)), (h.box x hx).2⟩, ?_, h.kp.grown hg (fun g hg' => .inl (World.ownsRow.lt hr g hg').1)⟩
  exact h.rws.grow hi hg ho hat (fun x hx => by
    obtain ⟨y, hy, rfl⟩ := List.mem_map.1 hx
    exact (h.box y hy).1.lt (h.box y hy).2.1)
/-- The last row grows. -/
theorem Reg.growLast {r : RwE} (h : Reg w X (L ++ [r]) wr) {v' : Value} {n' : Nat} {xs' : List Value}
    (hg : wr.grownBy w' r.v.ownBlock) (ho : w'.ownsRow w.heap.size r.e r.k v' n' xs') (hat : v'.ownBlock = r.v.ownBlock ∨ v'.ownBlock = some wr.heap.size) : Reg w X (L ++ [⟨v', r.e, r.k, n', xs'⟩]) w' := by
  rw [← set_last _ r]
  exact h.grow (get_last _ r) hg ho hat
end

end Go.Proofs.YtkkopdmemjncdaaGreatDoor

/- bolterlaw6.at: the number of a name. No condition. -/
namespace Go.Proofs.YtkkopdmemjncdaaGreatDoor
open Go Go.RowKit

/-- The number of a name; -1: none. -/
def atI (l : List ByteArray) (s : ByteArray) : Int := if memN l s = true then (noOf l s : Int) else -1
theorem atI_none {l : List ByteArray} {s : ByteArray} (h : memN l s = false) : atI l s = -1 := by unfold atI; rw [if_neg (by rw [h]; simp)]
theorem atI_some {l : List ByteArray} {s : ByteArray} (h : memN l s = true) : atI l s = (noOf l s : Int) := by unfold atI; rw [if_pos h]
theorem noOf_at {l : List ByteArray} {k : Nat} {s : ByteArray} (h : memN (l.take k) s = false) (hk : l[k]? = some s) : noOf l s = k := by
  have hkl := (List.getElem?_eq_some_iff.1 hk).1
  have he := (List.getElem?_eq_some_iff.1 hk).2
  unfold noOf
  rw [List.findIdx_eq hkl]
  refine ⟨decide_eq_true he, fun j hj => ?_⟩
  refine decide_eq_false (fun e => ?_)
  have : s ∈ l.take k := by
    rw [List.mem_take_iff_getElem]
    exact ⟨j, by omega, e⟩
  rw [memN_iff.2 this] at h
  cases h
set_option maxRecDepth 100000 in
set_option maxHeartbeats 2000000 in
theorem at_any6 (l : List ByteArray) (v : Value) (n : Nat) (hn : l.length = n) (s : ByteArray) (w : World) (h : Sl w v 1 n (l.map .string)) : Calls Tryz.prog 57 #[v, .string s] w fun e w' => e = .returned (.int .i64 (atI l s)) ∧ w' = w := by
  subst hn
  have hmx := h.2.1
  unfold maxLen at hmx
  obtain ⟨p, c, rfl⟩ := h.len
  have H := Lib.hid h
  obtain ⟨n, hn⟩ : ∃ n, l.length = n := ⟨_, rfl⟩
  have HN := Lib.hid hn
  rw [hn] at hmx ⊢
  clear h hn
  go_enter Tryz.func57, Tryz.ntmps57
  go_wp2_with fail
  go_loopw [5] (fun i wr => ∃ k : Nat, k ≤ n ∧ i = .int .i64 (k : Int) ∧ w = wr ∧ Hid (memN (l.take k) s = false)) (fun i _ => n - (intOf i).toNat)
  case atStart => exact ⟨0, Nat.zero_le _, rfl, rfl, Lib.hid rfl⟩
  case round =>
    obtain ⟨k, hk, rfl, rfl, HA⟩ := hrel
    cases hx : l[k]? with
    | none =>
      have hkl : ¬ (k : Int) < (n : Int) := by
        rcases Nat.lt_or_ge k l.length with h | h
        · rw [List.getElem?_eq_getElem h] at hx; cases hx
        · have := HN.out; omega
      have HA2 := Lib.hid (show memN l s = false by have := HA.out; rw [List.take_of_length_le (by have := HN.out; omega)] at this; exact this)
      clear hx hk HA
      go_wp2_with fail
      go_ret
      exact ⟨ret_int (atI_none HA2.out).symm, rfl⟩
    | some y =>
      have hkl : k < l.length := (List.getElem?_eq_some_iff.1 hx).1
      have hkn : k < n := by rw [← HN.out]; exact hkl
      obtain ⟨b, off, rfl, hb, hc⟩ := txt_at H.out hx
      have HX := Lib.hid hx
      have HKN := Lib.hid hkn
      have hkI : (k : Int) < (n : Int) := by omega
      clear hx hk hkl hkn
      by_cases he : y = s
      · subst he
        have heb : (y.toList == y.toList) = true := by simp
        have HF := Lib.hid (show atI l y = (k : Int) by rw [atI_some (memN_iff.2 (List.mem_of_getElem? HX.out)), noOf_at HA.out HX.out])
        go_wp2_with fail
        go_ret
        exact ⟨ret_int HF.out.symm, rfl⟩
      · have heb : (y.toList == s.toList) = false := by rw [beq_eq_false_iff_ne]; exact fun e => he (toList_inj e)
        have HF := Lib.hid (show memN (l.take (k + 1)) s = false by
          have h1 := HA.out
          unfold memN at h1 ⊢
          rw [List.take_add_one, HX.out]
          simp only [Option.toList_some, List.any_append, h1, List.any_cons, List.any_nil, decide_eq_false he, Bool.or_self])
        clear he
        go_wp2_with fail
        go_roundw
        case rel => exact ⟨k + 1, HKN.out, by go_num, by first | rfl | trivial, HF⟩
        case measure => have := HKN.out; simp [intOf]; omega

end Go.Proofs.YtkkopdmemjncdaaGreatDoor

/- bolterlaw6.links: which definitions each uses. Printed by gen_nml.py. A bound of how many there are. -/
namespace Go.Proofs.YtkkopdmemjncdaaGreatDoor
open Go Go.RowKit Go.Maps

/-- Names stand for one definition each. -/
structure Linked (s : Sc) : Prop where
  nodup : (defsN s).Nodup
  uses : ∀ d ∈ s.defs, ∀ x ∈ usesN d.ex, x ∈ defsN s
/-- Rows of numbers in memory, none of them a nil with room. -/
structure RowsY (w : World) (v : Value) (U : List (List Nat)) : Prop where
  sl : ∃ vs : List Value, vs.length = U.length ∧ Sl w v 1 U.length vs ∧ ∀ (k : Nat) (r : List Nat), U[k]? = some r → ∃ u, vs[k]? = some u ∧ Sl w u 1 r.length (r.map natV) ∧ Nily u
theorem RowsY.rows {w : World} {v : Value} {U : List (List Nat)} (h : RowsY w v U) : RowsN w v U := by
  obtain ⟨vs, h1, h2, h3⟩ := h.sl
  exact ⟨vs, h1, h2, fun k r hk => by
    obtain ⟨u, h4, h5, _⟩ := h3 k r hk
    exact ⟨u, h4, h5⟩⟩
theorem RowsY.later {w w' : World} {v : Value} {U : List (List Nat)} (h : RowsY w v U) (hG : Gr w w') : RowsY w' v U := by
  obtain ⟨vs, h1, h2, h3⟩ := h.sl
  exact ⟨vs, h1, h2.later hG, fun k r hk => by
    obtain ⟨u, h4, h5, h6⟩ := h3 k r hk
    exact ⟨u, h4, h5.later hG, h6⟩⟩
theorem nily_own {w : World} {B e k n : Nat} {v : Value} {xs : List Value} (h : w.ownsRow B e k v n xs) : Nily v := by
  obtain ⟨_, ⟨rfl, _⟩ | ⟨g, cap, cur, rfl, _⟩⟩ := h
  · exact .inl rfl
  · exact .inr ⟨_, _, _, rfl⟩
/-- A row, and where its numbers lie. -/
theorem RowsY.row {w : World} {p : Option Addr} {c n : Nat} {U : List (List Nat)} (h : RowsY w (.slice p n c) U) {k : Nat} {r : List Nat} (hk : U[k]? = some r) : ∃ b off u, p = some ⟨b, off, none⟩ ∧ b < w.heap.size ∧ w.cell? ⟨b, off + k, none⟩ = some u ∧ Sl w u 1 r.length (r.map natV) ∧ Nily u := by
  obtain ⟨vs, hl, hs, hr⟩ := h.sl
  obtain ⟨u, hu, hsu, hn⟩ := hr k r hk
  have hkl := (List.getElem?_eq_some_iff.1 hk).1
  obtain ⟨_, _, ⟨_, h0⟩ | ⟨b, off, cap, hv, hb, hc⟩⟩ := hs
  · omega
  · injection hv with hp _ _
    exact ⟨b, off, u, hp, hb (by omega), hc k u hu, hsu, hn⟩
/-- What links answers. -/
def LkE (s : Sc) (w' : World) (e : Ending) : Prop := (e = .returned (.tuple #[.slice none 0 0, .bool false]) ∧ ¬ Linked s) ∨ (Linked s ∧ ∃ v, e = .returned (.tuple #[v, .bool true]) ∧ RowsY w' v (linksN s))
theorem linksN_get {s : Sc} {k : Nat} {d : Df} (h : s.defs[k]? = some d) : (linksN s)[k]? = some ((usesN d.ex).map (noOf (defsN s))) := by
  unfold linksN
  rw [List.getElem?_map, h]; rfl
theorem linksN_len (s : Sc) : (linksN s).length = s.defs.length := by unfold linksN; simp
theorem defsN_get {s : Sc} {k : Nat} {d : Df} (h : s.defs[k]? = some d) : (defsN s)[k]? = some d.name := by
  unfold defsN
  rw [List.getElem?_map, h]; rfl
theorem take_snoc {α : Type} {l : List α} {k : Nat} {x : α} (h : l[k]? = some x) : l.take (k + 1) = l.take k ++ [x] := by rw [List.take_add_one, h]; rfl
theorem nodup_snoc {l : List ByteArray} {x : ByteArray} (h : l.Nodup) (hx : memN l x = false) : (l ++ [x]).Nodup := by
  rw [List.nodup_append]
  refine ⟨h, by simp, fun a ha b hb => ?_⟩
  rw [List.mem_singleton] at hb
  subst hb
  intro e
  subst e
  rw [memN_iff.2 ha] at hx
  cases hx
theorem not_nodup {l : List ByteArray} {k : Nat} {x : ByteArray} (hx : l[k]? = some x) (h : memN (l.take k) x = true) : ¬ l.Nodup := fun hn => by
  have h1 := List.mem_take_iff_getElem.1 (memN_iff.1 h)
  obtain ⟨i, hi, he⟩ := h1
  have hkl := (List.getElem?_eq_some_iff.1 hx)
  obtain ⟨hk, hke⟩ := hkl
  rw [List.nodup_iff_pairwise_ne, List.pairwise_iff_getElem] at hn
  exact hn i k (by omega) hk (by omega) (he.trans hke.symm)
/-- A row is laid into the rows. -/
theorem lk_outer {U : List (List Nat)} {k m : Nat} {A : RwE} {v' u : Value} {vs : List Value} {r : List Nat} (hm : r.length = m) (hr : U[k]? = some r) (hl : vs.length = k) (x : RwE) :
    ((A :: x :: rowsE (U.take k) vs) ++ [(⟨u, 3, 1, m, r.map natV⟩ : RwE)]).set 1 ⟨v', 32, 1, k + 1, vs ++ [u]⟩ = A :: ⟨v', 32, 1, k + 1, vs ++ [u]⟩ :: rowsE (U.take (k + 1)) (vs ++ [u]) := by
  subst hm
  have hkl := (List.getElem?_eq_some_iff.1 hr).1
  rw [take_snoc hr, rowsE_snoc _ _ _ _ (by rw [List.length_take, hl]; omega)]
  rfl

set_option maxRecDepth 100000 in
set_option maxHeartbeats 16000000 in
theorem links_any (s : Sc) (w : World) (vm vd vr : Value) (hs : ScIn w s vm vd vr) (hdl : s.defs.length ≤ 1048576) (hru : ∀ d ∈ s.defs, (refsE d.ex).length ≤ 1048576) :
    Calls Tryz.prog 22 #[scV vm vd vr] w fun e w' => LkE s w' e ∧ Gr w w' := by
  obtain ⟨i0, si, sy0, sy1, sy2⟩ := info_parts info_strN
  obtain ⟨i1, ki, ky0, ky1, ky2⟩ := info_parts info_intN
  obtain ⟨i2, ri, ry0, ry1, ry2⟩ := info_parts info_rowN
  obtain ⟨dl, rl, hd, hr, hm', hmo, hmn, hmb, hds, hdi, hdn, hdb, hrs, hri, hrn, hrb⟩ := hs
  obtain ⟨pm, cm, evm⟩ := hm'.len
  obtain ⟨pd, cd, evd⟩ := hds.len
  obtain ⟨pr, cr, evr⟩ := hrs.len
  have hdl2 : dl.length ≤ 1048576 := by rw [← hd, List.length_map] at hdl; exact hdl
  obtain ⟨nm, hnm⟩ : ∃ n, s.modes.length = n := ⟨_, rfl⟩
  obtain ⟨nr, hnr⟩ : ∃ n, rl.length = n := ⟨_, rfl⟩
  obtain ⟨n, hn⟩ : ∃ n, dl.length = n := ⟨_, rfl⟩
  have HLS := Lib.hid (show s.defs.length = n by rw [← hd, List.length_map]; exact hn)
  have HLD := Lib.hid (show (defsN s).length = n by unfold defsN; rw [List.length_map]; exact HLS.out)
  have HLU := Lib.hid (show (linksN s).length = n from (linksN_len s).trans HLS.out)
  rw [hn] at evd hdl2 hds
  rw [hnm] at evm
  rw [hnr] at evr
  have HD := Lib.hid hds
  have HDI := Lib.hid hdi
  have HHD := Lib.hid hd
  have HN := Lib.hid hn
  have HRU := Lib.hid hru
  have HNB := Lib.hid hdl2
  have hnI : (n : Int) ≤ 1048576 := by omega
  subst evm evd evr
  clear hd hr hm' hmo hmn hmb hds hdi hdn hdb hrs hri hrn hrb hdl hdl2 hn hru hnm hnr
  unfold scV LkE
  go_enter Tryz.func22, Tryz.ntmps22
  go_upto_block 0 with fail
  refine name_world (fun W hW => ?_)
  have xp : boxAt W w.heap.size [.slice pm nm cm, .slice pd n cd, .slice pr nr cr] := by rw [hW]; exact boxAt.new_atN _ _ _ rfl rfl
  have hgW : Gr w W := by rw [hW]; exact Gr.alloc _ _
  have HR0 := Lib.hid (((Reg.start w).addBox hgW xp (by simp) (Nat.le_refl _)).push 9 1)
  obtain ⟨sb, hsb⟩ : ∃ b, w.heap.size = b := ⟨_, rfl⟩
  rw [hsb] at HR0
  simp only [hsb]
  clear hW xp hgW hsb
  go_wp2_with fail
  go_loopw [4, 5] (fun va i wr => ∃ k : Nat, k ≤ n ∧ i = .int .i64 (k : Int) ∧ Hid (Reg w [(sb, [.slice pm nm cm, .slice pd n cd, .slice pr nr cr])] [⟨va, 9, 1, k, ((defsN s).take k).map .string⟩] wr) ∧ Hid (((defsN s).take k).Nodup)) (fun _ i _ => n - (intOf i).toNat)
  case atStart => exact ⟨0, Nat.zero_le _, rfl, HR0, Lib.hid (by simp)⟩
  case round =>
    clear HR0
    obtain ⟨k, hk, rfl, HRG, HND⟩ := hrel
    have xp := (HRG.out.box _ (List.mem_singleton.2 rfl)).1
    dsimp only at xp
    have hrow := HRG.out.row (List.mem_singleton.2 rfl)
    dsimp only at hrow
    obtain ⟨pa, ca, rfl⟩ := (Sl.of_owns hrow).len
    have HROW := Lib.hid hrow
    clear hrow
    have c_p0 := xp.cell 0 _ rfl
    have c_p1 := xp.cell 1 _ rfl
    have c_p2 := xp.cell 2 _ rfl
    have m_p0 := xp.mark 0 _ rfl
    have m_p1 := xp.mark 1 _ rfl
    have m_p2 := xp.mark 2 _ rfl
    have l_p := xp.lt (Nat.succ_pos _)
    rcases Nat.lt_or_ge k n with hkn | hkn
    · have hkI : (k : Int) < (n : Int) := by omega
      have HKN := Lib.hid hkn
      obtain ⟨⟨d, cs⟩, hx⟩ : ∃ x, dl[k]? = some x := ⟨_, List.getElem?_eq_getElem (by rw [HN.out]; exact hkn)⟩
      have hg : Gr w wr := HRG.out.gr
      obtain ⟨b2, off, hpm, hbl, hc⟩ := elem_at HD.out (fun x hx => (HDI.out x hx).len) HN.out hx
      have hok := HDI.out _ (List.mem_of_getElem? hx)
      have hsd : s.defs[k]? = some d := by rw [← HHD.out, List.getElem?_map, hx]; rfl
      dsimp only at hok hc
      cases hok with
      | mk ec hee hnn hpp =>
      have HDN := Lib.hid (defsN_get hsd)
      obtain ⟨nmd, po, ex⟩ := d
      dsimp only at hee hnn hpp hc HDN
      subst hpm
      have k0 : wr.cell? ⟨b2, off + k * 12, none⟩ = some (.string nmd) := hg.cell (hc 0 _ rfl)
      have hbr := Nat.lt_of_lt_of_le hbl hg.size
      have HAT := Lib.hid (at_any6 ((defsN s).take k) (.slice pa k ca) k (by rw [List.length_take, HLD.out]; omega) nmd wr (Sl.of_owns HROW.out))
      obtain ⟨XS, hXS⟩ : ∃ X : List Value, ((defsN s).take k).map .string = X := ⟨_, rfl⟩
      have HXS := Lib.hid hXS
      rw [hXS] at HROW
      clear hx hk hkn hc hee hnn hpp hsd hbl hg hXS
      cases hq : memN ((defsN s).take k) nmd with
      | true =>
        have HQ := Lib.hid hq
        have HAI := Lib.hid (atI_some hq)
        obtain ⟨c, hcc⟩ : ∃ c, noOf ((defsN s).take k) nmd = c := ⟨_, rfl⟩
        rw [hcc] at HAI
        have hc0 : ¬ (c : Int) < 0 := by omega
        clear hq hcc
        go_wp2_with fail
        go_at_call 57
        (with_reducible refine HAT.out.mono ?_); rintro e w2 ⟨rfl, rfl⟩
        rw [HAI.out]
        go_wp2_with fail
        exact bodyPost_ret (v := .tuple #[.slice none 0 0, .bool false]) (by simp [results, Tryz.results22, go_sem]) rfl ⟨.inl ⟨rfl, fun hL => not_nodup HDN.out HQ.out hL.nodup⟩, HRG.out.gr⟩
      | false =>
        have HQ := Lib.hid hq
        have HAI := Lib.hid (atI_none hq)
        clear hq
        go_wp2_with fail
        go_at_call 57
        (with_reducible refine HAT.out.mono ?_); rintro e w2 ⟨rfl, rfl⟩
        rw [HAI.out]
        go_wp2_with (at_builtin; refine wpList_append_own_at _ rfl (.tmp 28) (.tmp 35) 30 rfl w.heap.size 9 i0 (.string ⟨#[]⟩) 1 16 Tryz.underlying30 si sy0 sy1 sy2 rfl (by decide) _ k XS rfl (HROW.out.alloc _) ⟨w2.heap.size, 0, none⟩ 1 1 [.string nmd] rfl rfl (new_cells _ _ _) (by intro u hu; simp at hu; subst hu; rfl) (by have := HKN.out; have := HNB.out; unfold maxLen; omega) (by have := HKN.out; have := HNB.out; omega) (Nat.le_trans HRG.out.kp.size (Gr.alloc _ _).size) ?_; intro v' w4 hown4 hg4 _ hloc; obtain ⟨p4, c4', rfl⟩ := (Sl.of_owns hown4).len; have HOW4 := Lib.hid hown4; have HG4 := Lib.hid hg4; have HLOC := Lib.hid hloc; clear hown4 hg4 hloc)
        clear c_p0 c_p1 c_p2 m_p0 m_p1 m_p2 l_p
        clear xp k0
        go_roundw
        case rel => exact ⟨k + 1, HKN.out, by go_num, Lib.hid (by
          rw [take_snoc HDN.out, List.map_append, HXS.out]
          exact (HRG.out.later (Gr.alloc w2 _)).grow (i := 0) rfl HG4.out HOW4.out HLOC.out), Lib.hid (by
          rw [take_snoc HDN.out]
          exact nodup_snoc HND.out HQ.out)⟩
        case measure => have := HKN.out; simp [intOf]; omega
    · have hkI : ¬ (k : Int) < (n : Int) := by omega
      have hke : n = k := by omega
      subst hke
      have HTA := Lib.hid (show (defsN s).take n = defsN s from List.take_of_length_le (by rw [HLD.out]; exact Nat.le_refl _))
      rw [HTA.out] at HRG HROW HND
      have HR1 := Lib.hid (HRG.out.push 32 1)
      have HAT := Lib.hid (fun x W (hG : Gr wr W) => at_any6 (defsN s) (.slice pa n ca) n HLD.out x W ((Sl.of_owns HROW.out).later hG))
      have HGW := Lib.hid HRG.out.gr
      clear hk hkn
      go_wp2_with fail
      clear c_p0 c_p1 c_p2 m_p0 m_p1 m_p2 l_p
      clear xp HROW HRG HTA
      go_loopw [6, 7] (fun vl i wz => ∃ k : Nat, k ≤ n ∧ i = .int .i64 (k : Int) ∧ (∃ vs : List Value, vs.length = k ∧ Hid (Reg w [(sb, [.slice pm nm cm, .slice pd n cd, .slice pr nr cr])] (⟨.slice pa n ca, 9, 1, n, (defsN s).map .string⟩ :: ⟨vl, 32, 1, k, vs⟩ :: rowsE ((linksN s).take k) vs) wz)) ∧ Hid (∀ d ∈ s.defs.take k, ∀ x ∈ usesN d.ex, x ∈ defsN s)) (fun _ i _ => n - (intOf i).toNat)
      case atStart => exact ⟨0, Nat.zero_le _, rfl, ⟨[], rfl, by simpa [rowsE] using HR1⟩, Lib.hid (by simp)⟩
      case round =>
        clear HR1 HAT HGW
        obtain ⟨k, hk, rfl, ⟨vs, hvs, HRG⟩, HUS⟩ := hrel
        have HVS := Lib.hid hvs
        have xp := (HRG.out.box _ (List.mem_singleton.2 rfl)).1
        dsimp only at xp
        have hrow := HRG.out.row (List.mem_cons_of_mem _ (List.Mem.head _))
        dsimp only at hrow
        obtain ⟨pl, cl, rfl⟩ := (Sl.of_owns hrow).len
        have hrow0 := HRG.out.row (List.Mem.head _)
        dsimp only at hrow0
        have HROW := Lib.hid hrow0
        clear hrow hrow0 hvs
        have c_p0 := xp.cell 0 _ rfl
        have c_p1 := xp.cell 1 _ rfl
        have c_p2 := xp.cell 2 _ rfl
        have m_p0 := xp.mark 0 _ rfl
        have m_p1 := xp.mark 1 _ rfl
        have m_p2 := xp.mark 2 _ rfl
        have l_p := xp.lt (Nat.succ_pos _)
        rcases Nat.lt_or_ge k n with hkn | hkn
        · have hkI : (k : Int) < (n : Int) := by omega
          have HKN := Lib.hid hkn
          obtain ⟨⟨d, cs⟩, hx⟩ : ∃ x, dl[k]? = some x := ⟨_, List.getElem?_eq_getElem (by rw [HN.out]; exact hkn)⟩
          have hg : Gr w wr := HRG.out.gr
          obtain ⟨b2, off, hpm, hbl, hc⟩ := elem_at HD.out (fun x hx => (HDI.out x hx).len) HN.out hx
          have hok := HDI.out _ (List.mem_of_getElem? hx)
          have hsd : s.defs[k]? = some d := by rw [← HHD.out, List.getElem?_map, hx]; rfl
          dsimp only at hok hc
          cases hok with
          | mk ec hee hnn hpp =>
          have hT := HRU.out d (List.mem_of_getElem? hsd)
          have HUK := Lib.hid (linksN_get hsd)
          have HMD := Lib.hid (List.mem_of_getElem? hsd)
          have HTK := Lib.hid (take_snoc hsd)
          have HUL := Lib.hid (show (usesN d.ex).length ≤ 1048576 from Nat.le_trans (by rw [usesN_eq]; exact usesL_len _) hT)
          obtain ⟨nmd, po, ex⟩ := d
          dsimp only at hee hnn hpp hc hT HUK HUL
          obtain ⟨op, ps, s1, tx, mn, mx, p1, n1, c1, rfl⟩ := hee.formN
          subst hpm
          have k0 : wr.cell? ⟨b2, off + k * 12, none⟩ = some (.string nmd) := hg.cell (hc 0 _ rfl)
          have k1 : wr.cell? ⟨b2, off + k * 12 + 1, none⟩ = some (.int .i64 po) := hg.cell (hc 1 _ rfl)
          have k2 : wr.cell? ⟨b2, off + k * 12 + 2, none⟩ = some (.int .i64 op) := hg.cell (hc 2 _ rfl)
          have k3 : wr.cell? ⟨b2, off + k * 12 + 3, none⟩ = some (.int .i64 ps) := hg.cell (hc 3 _ rfl)
          have k4 : wr.cell? ⟨b2, off + k * 12 + 4, none⟩ = some (.int .u64 (wd s1 0)) := hg.cell (hc 4 _ rfl)
          have k5 : wr.cell? ⟨b2, off + k * 12 + 5, none⟩ = some (.int .u64 (wd s1 1)) := hg.cell (hc 5 _ rfl)
          have k6 : wr.cell? ⟨b2, off + k * 12 + 6, none⟩ = some (.int .u64 (wd s1 2)) := hg.cell (hc 6 _ rfl)
          have k7 : wr.cell? ⟨b2, off + k * 12 + 7, none⟩ = some (.int .u64 (wd s1 3)) := hg.cell (hc 7 _ rfl)
          have k8 : wr.cell? ⟨b2, off + k * 12 + 8, none⟩ = some (.string tx) := hg.cell (hc 8 _ rfl)
          have k9 : wr.cell? ⟨b2, off + k * 12 + 9, none⟩ = some (.int .i64 mn) := hg.cell (hc 9 _ rfl)
          have k10 : wr.cell? ⟨b2, off + k * 12 + 10, none⟩ = some (.int .i64 mx) := hg.cell (hc 10 _ rfl)
          have k11 : wr.cell? ⟨b2, off + k * 12 + 11, none⟩ = some (.slice p1 n1 c1) := hg.cell (hc 11 _ rfl)
          have hbr := Nat.lt_of_lt_of_le hbl hg.size
          have HCU := Lib.hid (fun W (hG : Gr wr W) => uses_any ex _ W (hee.later (hg.trans hG)) hT)
          unfold exCells at HCU
          try dsimp only at HCU
          clear hx hk hkn hc hee hnn hpp hsd hT hbl hg
          go_wp2_with fail
          go_at_call 18
          refine name_calls (fun W1 hW1 => ?_)
          have hb1 : Gr wr W1 := by rw [hW1]; first | exact Gr.refl _ | exact Gr.alloc _ _
          clear hW1
          (with_reducible refine (HCU.out W1 hb1).mono ?_); rintro e w2 ⟨nv, rfl, hnv, hg2⟩
          obtain ⟨pn, cn, rfl⟩ := (Sl.of_owns hnv).len
          obtain ⟨NM, hNM⟩ : ∃ N, usesN ex = N := ⟨_, rfl⟩
          rw [hNM] at hnv HUK HUL ⊢
          have HNM := Lib.hid hNM
          obtain ⟨mN, hmN⟩ : ∃ m, NM.length = m := ⟨_, rfl⟩
          rw [hmN] at hnv HUL ⊢
          have HMN := Lib.hid hmN
          have hmI : (mN : Int) ≤ 1048576 := by have := HUL.out; omega
          have HR2 := Lib.hid (((HRG.out.later hb1).fresh hg2 hnv).push 3 1)
          obtain ⟨LB, hLB⟩ : ∃ L : List RwE, (⟨.slice pa n ca, 9, 1, n, (defsN s).map .string⟩ :: ⟨.slice pl k cl, 32, 1, k, vs⟩ :: rowsE ((linksN s).take k) vs) = L := ⟨_, rfl⟩
          rw [hLB] at HR2
          have HLB := Lib.hid hLB
          have HM0 := Lib.hid (show (⟨.slice pa n ca, 9, 1, n, (defsN s).map .string⟩ : RwE) ∈ LB by rw [← hLB]; exact List.Mem.head _)
          clear c_p0 c_p1 c_p2 m_p0 m_p1 m_p2 l_p
          clear xp hb1 hg2 hnv hNM hmN hLB HRG HROW HCU
          go_wp2_with fail
          go_loopw [8, 10] (fun lv i wr => ∃ j : Nat, j ≤ mN ∧ i = .int .i64 (j : Int) ∧ Hid (Reg w [(sb, [.slice pm nm cm, .slice (some ⟨b2, off, none⟩) n cd, .slice pr nr cr])] (LB ++ [⟨.slice pn mN cn, 9, 1, mN, NM.map .string⟩] ++ [⟨lv, 3, 1, j, ((NM.map (noOf (defsN s))).take j).map natV⟩]) wr) ∧ Hid (∀ x ∈ NM.take j, x ∈ defsN s)) (fun _ i _ => mN - (intOf i).toNat)
          case atStart => exact ⟨0, Nat.zero_le _, rfl, by simpa using HR2, Lib.hid (by simp)⟩
          case round =>
            clear HR2
            obtain ⟨j, hj, rfl, HRJ, HUJ⟩ := hrel
            have hlast := HRJ.out.row (List.mem_append_right _ (List.mem_singleton.2 rfl))
            dsimp only at hlast
            obtain ⟨pl2, cl2, rfl⟩ := (Sl.of_owns hlast).len
            clear hlast
            rcases Nat.lt_or_ge j mN with hjn | hjn
            · have hjI : (j : Int) < (mN : Int) := by omega
              have HJN := Lib.hid hjn
              obtain ⟨nmx, hx⟩ : ∃ x, NM[j]? = some x := ⟨_, List.getElem?_eq_getElem (by rw [HMN.out]; exact hjn)⟩
              have hon := HRJ.out.row (r := ⟨.slice pn mN cn, 9, 1, mN, NM.map .string⟩) (by simp)
              dsimp only at hon
              obtain ⟨gn, capn, hvn, _, hgn, _⟩ := owns_block hon (by omega)
              injection hvn with e1 _ e3
              subst e1 e3
              have kn := owns_cell hon j (.string nmx) (by rw [List.getElem?_map, hx]; rfl)
              have hall := HRJ.out.row (r := ⟨.slice pa n ca, 9, 1, n, (defsN s).map .string⟩) (List.mem_append_left _ (List.mem_append_left _ HM0.out))
              dsimp only at hall
              have HAT := Lib.hid (at_any6 (defsN s) (.slice pa n ca) n HLD.out nmx wr (Sl.of_owns hall))
              have HROW := Lib.hid (HRJ.out.row (r := ⟨.slice pl2 j cl2, 3, 1, j, ((NM.map (noOf (defsN s))).take j).map natV⟩) (by simp))
              try dsimp only at HROW
              have HMX := Lib.hid (List.mem_of_getElem? hx)
              have HTJ := Lib.hid (take_snoc hx)
              obtain ⟨XS, hXS⟩ : ∃ X : List Value, ((NM.map (noOf (defsN s))).take j).map natV = X := ⟨_, rfl⟩
              rw [hXS] at HROW
              have HXS := Lib.hid hXS
              have HNX := Lib.hid (show (NM.map (noOf (defsN s)))[j]? = some (noOf (defsN s) nmx) by rw [List.getElem?_map, hx]; rfl)
              clear hx hj hjn hon hall hXS
              cases hq : memN (defsN s) nmx with
              | false =>
                have HQ := Lib.hid hq
                have HAI := Lib.hid (atI_none hq)
                clear hq
                go_wp2_with fail
                go_at_call 57
                (with_reducible refine HAT.out.mono ?_); rintro e w3 ⟨rfl, rfl⟩
                rw [HAI.out]
                go_wp2_with fail
                exact bodyPost_ret (v := .tuple #[.slice none 0 0, .bool false]) (by simp [results, Tryz.results22, go_sem]) rfl ⟨.inl ⟨rfl, fun hL => by
                  have := hL.uses _ HMD.out nmx (by rw [HNM.out]; exact HMX.out)
                  rw [memN_iff.2 this] at HQ
                  cases HQ.out⟩, HRJ.out.gr⟩
              | true =>
                have HQ := Lib.hid hq
                have HAI := Lib.hid (atI_some hq)
                obtain ⟨c, hcc⟩ : ∃ c, noOf (defsN s) nmx = c := ⟨_, rfl⟩
                rw [hcc] at HAI HNX
                have hc0 : ¬ (c : Int) < 0 := by omega
                clear hq hcc
                go_wp2_with fail
                go_at_call 57
                (with_reducible refine HAT.out.mono ?_); rintro e w3 ⟨rfl, rfl⟩
                rw [HAI.out]
                go_wp2_with (at_builtin; refine wpList_append_own_at _ rfl (.tmp 65) (.tmp 67) 32 rfl w.heap.size 3 i1 (.int .i64 0) 1 8 Tryz.underlying32 ki ky0 ky1 ky2 rfl (by decide) _ j XS rfl (HROW.out.alloc _) ⟨w3.heap.size, 0, none⟩ 1 1 [.int .i64 (c : Int)] rfl rfl (new_cells _ _ _) (by intro u hu; simp at hu; subst hu; rfl) (by have := HJN.out; have := HUL.out; unfold maxLen; omega) (by have := HJN.out; have := HUL.out; omega) (Nat.le_trans HRJ.out.kp.size (Gr.alloc _ _).size) ?_; intro v' w4 hown4 hg4 _ hloc; obtain ⟨p4, c4', rfl⟩ := (Sl.of_owns hown4).len; have HOW4 := Lib.hid hown4; have HG4 := Lib.hid hg4; have HLOC := Lib.hid hloc; clear hown4 hg4 hloc)
                clear kn
                go_roundw
                case rel => exact ⟨j + 1, HJN.out, by go_num, Lib.hid (by
                  rw [take_snoc HNX.out, List.map_append, HXS.out]
                  exact (HRJ.out.later (Gr.alloc w3 _)).growLast HG4.out HOW4.out HLOC.out), Lib.hid (fun x hx => by
                  rw [HTJ.out] at hx
                  rcases List.mem_append.1 hx with hx | hx
                  · exact HUJ.out x hx
                  · rw [List.mem_singleton.1 hx]; exact memN_iff.1 HQ.out)⟩
                case measure => have := HJN.out; simp [intOf]; omega
            · have hjI : ¬ (j : Int) < (mN : Int) := by omega
              have hje : mN = j := by omega
              subst hje
              have HRJ2 := Lib.hid (HRJ.out.sub (M := LB ++ [⟨.slice pl2 mN cl2, 3, 1, mN, ((NM.map (noOf (defsN s))).take mN).map natV⟩]) (by rw [List.append_assoc]; exact (List.Sublist.refl _).append (List.sublist_cons_self _ _)))
              rw [List.take_of_length_le (i := mN) (l := NM.map (noOf (defsN s))) (by rw [List.length_map, HMN.out]; exact Nat.le_refl _), ← HLB.out] at HRJ2
              rw [List.take_of_length_le (by rw [HMN.out]; exact Nat.le_refl _)] at HUJ
              have HROW := Lib.hid (HRJ2.out.row (r := ⟨.slice pl k cl, 32, 1, k, vs⟩) (by simp))
              try dsimp only at HROW
              clear hj hjn HRJ HLB HM0
              go_wp2_with (at_builtin; refine wpList_append_own_at _ rfl (.tmp 69) (.tmp 71) 31 rfl w.heap.size 32 i2 (.slice none 0 0) 1 24 Tryz.underlying31 ri ry0 ry1 ry2 rfl (by decide) _ k vs rfl (HROW.out.alloc _) ⟨wr.heap.size, 0, none⟩ 1 1 [.slice pl2 mN cl2] rfl rfl (new_cells _ _ _) (by intro u hu; simp at hu; subst hu; rfl) (by have := HKN.out; have := HNB.out; unfold maxLen; omega) (by have := HKN.out; have := HNB.out; omega) (Nat.le_trans HRJ2.out.kp.size (Gr.alloc _ _).size) ?_; intro v' w4 hown4 hg4 _ hloc; obtain ⟨p4, c4', rfl⟩ := (Sl.of_owns hown4).len; have HOW4 := Lib.hid hown4; have HG4 := Lib.hid hg4; have HLOC := Lib.hid hloc; clear hown4 hg4 hloc)
              go_roundw
              case rel => exact ⟨k + 1, HKN.out, by go_num, ⟨vs ++ [.slice pl2 mN cl2], by rw [List.length_append, HVS.out]; rfl, Lib.hid (by
                have h5 := (HRJ2.out.later (Gr.alloc wr (.cells #[.slice pl2 mN cl2] 32))).grow (i := 1) rfl HG4.out HOW4.out HLOC.out
                rw [lk_outer (by rw [List.length_map]; exact HMN.out) HUK.out HVS.out] at h5
                exact h5)⟩, Lib.hid (fun d hd x hx => by
                rw [HTK.out] at hd
                rcases List.mem_append.1 hd with hd | hd
                · exact HUS.out d hd x hx
                · rw [List.mem_singleton.1 hd] at hx
                  rw [HNM.out] at hx
                  exact HUJ.out x hx)⟩
              case measure => have := HKN.out; simp [intOf]; omega
        · have hkI : ¬ (k : Int) < (n : Int) := by omega
          have hke : n = k := by omega
          subst hke
          have HTU := Lib.hid (show (linksN s).take n = linksN s from List.take_of_length_le (by rw [HLU.out]; exact Nat.le_refl _))
          rw [HTU.out] at HRG
          have HRW := Lib.hid (RowsY.mk (w := wr) (v := .slice pl n cl) (U := linksN s) ⟨vs, by rw [HVS.out, HLU.out], by
            rw [HLU.out]
            exact Sl.of_owns (HRG.out.rws.own ⟨.slice pl n cl, 32, 1, n, vs⟩ (by simp)), fun i r hi => by
            obtain ⟨u, h1, h2⟩ := rowsE_get (linksN s) vs i r (by rw [HVS.out, HLU.out]) hi
            exact ⟨u, h1, Sl.of_owns (HRG.out.rws.own _ (List.mem_cons_of_mem _ (List.mem_cons_of_mem _ h2))), nily_own (HRG.out.rws.own _ (List.mem_cons_of_mem _ (List.mem_cons_of_mem _ h2)))⟩⟩)
          clear hk hkn
          go_wp2_with fail
          exact bodyPost_ret (v := .tuple #[.slice pl n cl, .bool true]) (by simp [results, Tryz.results22, go_sem]) rfl ⟨.inr ⟨⟨HND.out, fun d hd => HUS.out d (by rw [List.take_of_length_le (by rw [HLS.out]; exact Nat.le_refl _)]; exact hd)⟩, _, rfl, HRW.out⟩, HRG.out.gr⟩

end Go.Proofs.YtkkopdmemjncdaaGreatDoor
