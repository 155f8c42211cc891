/- Texts of mine, put together: N6B, N6C, N6D. No condition but what each says. -/
import Derived.Test.YtkkopdmemjncdaaGreatDoorPN6A
import Derived.Test.YtkkopdmemjncdaaGreatDoorPHp
namespace Go.Proofs.YtkkopdmemjncdaaGreatDoor
open Go Go.RowKit
def gathP (l : List ByteArray) (p : List Nt) : List ByteArray := p.foldl (fun l x => withN l x.1) l
theorem gathP_app (l : List ByteArray) (p q : List Nt) : gathP l (p ++ q) = gathP (gathP l p) q := by unfold gathP; rw [List.foldl_append]
theorem gathP_len : ∀ (p : List Nt) (l : List ByteArray), (gathP l p).length ≤ l.length + p.length
 | [], l => Nat.le_refl _
 |
  x :: p, l => by
  have h1 := gathP_len p (withN l x.1)
  have h2 : (withN l x.1).length ≤ l.length + 1 := by unfold withN; split <;> simp
  show (gathP (withN l x.1) p).length ≤ _
  rw [List.length_cons]; omega
theorem refsL_take (l : List Ex) (j : Nat) (a : Ex) (h : l[j]? = some a) : refsL (l.take (j + 1)) = refsL (l.take j) ++ refsE a := by
 rw [List.take_add_one, h, refsL_flat, refsL_flat, List.flatMap_append]
 simp
theorem refsL_le (l : List Ex) (j : Nat) : (refsL (l.take j)).length ≤ (refsL l).length := by
 conv => rhs; rw [← List.take_append_drop j l, refsL_flat, List.flatMap_append, List.length_append]
 rw [refsL_flat]
 omega
theorem gr_grown {w0 w w' : World} {v v' : Value} {e n : Nat} {xs : List Value} (h0 : Gr w0 w) (ho : w.ownsRow w0.heap.size e 1 v n xs) (h : GrownL w w' v v') : Gr w0 w' :=
 Gr.grown h0 h.1 (fun k hk => (World.ownsRow.lt ho k hk).1)
set_option maxRecDepth 100000 in
set_option maxHeartbeats 8000000 in
theorem
    gather6_any (w0 : World) : ∀ k, ∀ (e : Ex), SizeOf.sizeOf e ≤ k → ∀ (cs : List Value) (w : World) (lv : Value) (L : List ByteArray), ExIn w0 e cs → Gr w0 w → w.ownsRow w0.heap.size 9 1 lv L.length (L.map .string) → L.length + (refsE e).length ≤ 1048576 →
  Calls Tryz.prog 52 #[lv, .agg cs.toArray] w fun e' w' => ∃ v', e' = .returned v' ∧ w'.ownsRow w0.heap.size 9 1 v' (gathP L (refsE e)).length ((gathP L (refsE e)).map .string) ∧ GrownL w w' lv v' := by
 intro k
 induction k with
 | zero => intro e h; cases e; simp only [Ex.mk.sizeOf_spec] at h; omega
 |
  succ k ih =>
  intro e hk cs w lv L he hg0 hrow hT
  cases he with
  |
   mk op
      pos s text mn mx v l h1 h2 h3 h4 h5 hlen hs hn hb hargs =>
   have HK := Lib.hid (fun p (hp : p ∈ l) => by
    have := Ex.size_arg (.mk op pos s text mn mx (l.map (·.1))) p.1 (List.mem_map.2 ⟨p, hp, rfl⟩)
    exact (show SizeOf.sizeOf p.1 ≤ k by omega))
   have HIH := Lib.hid ih
   have HS := Lib.hid hs
   have HA := Lib.hid hargs
   have HLEN := Lib.hid hlen
   obtain ⟨own, hown⟩ : ∃ o, (if op = 4 then [(text, pos)] else []) = o := ⟨_, rfl⟩
   have HOWN := Lib.hid hown
   have hE : refsE (.mk op pos s text mn mx (l.map (·.1))) = own ++ refsL (l.map (·.1)) := by rw [refsE, hown]
   have HT := Lib.hid hT
   rw [hE] at HT ⊢
   have HG0 := Lib.hid hg0
   have HROW := Lib.hid hrow
   obtain ⟨pl, cl, rfl⟩ := (Sl.of_owns hrow).len
   obtain ⟨pv, cv, rfl⟩ := hs.len
   have hll : l.length ≤ 140737488351232 := by omega
   obtain ⟨nl, hnl⟩ : ∃ n, L.length = n := ⟨_, rfl⟩
   have HNL := Lib.hid hnl
   rw [hnl] at HROW HT ⊢
   have HLW := Lib.hid (show ∀ g, (Value.slice pl nl cl).ownBlock = some g → g < w.heap.size from fun g hg => (World.ownsRow.lt HROW.out g hg).2)
   clear ih hk h1 h2 h3 h4 h5 hn hs hargs hlen hb hrow hT hE hown hnl hg0
   unfold exCells
   go_enter Tryz.func52, Tryz.ntmps52
   go_upto_region 1 with fail
   refine name_world (fun W hW => ?_)
   have xe : boxAt W (w.heap.size) [.int .i64 op, .int .i64 pos, .int .u64 (wd s 0), .int .u64 (wd s 1), .int .u64 (wd s 2), .int .u64 (wd s 3), .string text, .int .i64 mn, .int .i64 mx, (.slice pv l.length cv)] := by
    subst hW; intro j u hj
    match j, hj with
    | 0, hj => simp at hj; subst hj; constructor <;> go_simp
    | 1, hj => simp at hj; subst hj; constructor <;> go_simp
    | 2, hj => simp at hj; subst hj; constructor <;> go_simp
    | 3, hj => simp at hj; subst hj; constructor <;> go_simp
    | 4, hj => simp at hj; subst hj; constructor <;> go_simp
    | 5, hj => simp at hj; subst hj; constructor <;> go_simp
    | 6, hj => simp at hj; subst hj; constructor <;> go_simp
    | 7, hj => simp at hj; subst hj; constructor <;> go_simp
    | 8, hj => simp at hj; subst hj; constructor <;> go_simp
    | 9, hj => simp at hj; subst hj; constructor <;> go_simp
   have hgW : Gr w W := by rw [hW]; exact Gr.alloc _ _
   clear hW
   have HGW := Lib.hid hgW
   have HG1 := Lib.hid (HG0.out.trans hgW)
   have XE := Lib.hid xe
   obtain ⟨eb, heb⟩ : ∃ b, w.heap.size = b := ⟨_, rfl⟩
   rw [heb] at XE HLW
   simp only [heb]
   clear xe hgW heb
   have xe := XE.out
   obtain ⟨c_e0, c_e1, c_e2, c_e3, c_e4, c_e5, c_e6, c_e7, c_e8, c_e9, m_e0, m_e1, m_e2, m_e3, m_e4, m_e5, m_e6, m_e7, m_e8, m_e9, l_e⟩ := unb10 xe
   go_upto_if 8 with fail
   go_cut [0] from 9 to 12 (fun v wx => (∃ p n c, v = .slice p n c) ∧ wx.ownsRow w0.heap.size 9 1 v (gathP L own).length ((gathP L own).map .string) ∧ GrownL W wx (.slice pl nl cl) v)
   case first =>
    by_cases q1 : op = 4
    ·
     have hz := HOWN.out
     rw [if_pos q1] at hz
     subst q1
     have HWI := Lib.hid (with6_any L (.slice pl nl cl) nl w0.heap.size text W HNL.out (owns_later HROW.out HGW.out) HG1.out.size (by have := HT.out; omega))
     subst hz
     go_wp2_with fail
     go_at_call 89
     (with_reducible refine HWI.out.mono ?_); rintro e' w2 ⟨v', rfl, ho, hgl⟩
     obtain ⟨p', c', rfl⟩ := (Sl.of_owns ho).len
     have HO := Lib.hid ho
     have HGL := Lib.hid hgl
     clear ho hgl
     go_wp2_with fail
     go_meet
     case rel => exact ⟨⟨_, _, _, rfl⟩, HO.out, HGL.out⟩
    ·
     have q1b : (op == 4) = false := by rw [beq_eq_false_iff_ne]; exact q1
     have hz := HOWN.out
     rw [if_neg q1] at hz
     subst hz
     clear q1
     go_wp2_with fail
     go_meet
     case rel => exact ⟨⟨_, _, _, rfl⟩, by show W.ownsRow _ _ _ _ L.length (L.map .string); rw [HNL.out]; exact owns_later HROW.out HGW.out, GrownL.refl _ _⟩
   case rest =>
   clear c_e0 c_e1 c_e2 c_e3 c_e4 c_e5 c_e6 c_e7 c_e8 c_e9 m_e0 m_e1 m_e2 m_e3 m_e4 m_e5 m_e6 m_e7 m_e8 m_e9 l_e
   clear xe
   obtain ⟨⟨p1, n1, c1, rfl⟩, ho, hgl⟩ := hcut
   have HO := Lib.hid ho
   have HGL := Lib.hid hgl
   clear ho hgl
   go_wp2_with fail
   go_loopw [0, 5] (fun lv i wr => ∃ j : Nat, j ≤ l.length ∧ i = .int .i64 (j : Int) ∧ (∃ p n c, lv = .slice p n c) ∧ Hid (wr.ownsRow w0.heap.size 9 1 lv (gathP L (own ++ refsL ((l.map (·.1)).take j))).length ((gathP L (own ++ refsL ((l.map (·.1)).take j))).map .string)) ∧ Hid (GrownL W wr (.slice pl nl cl) lv)) (fun _ i _ => l.length - (intOf i).toNat)
   case atStart => exact ⟨0, Nat.zero_le _, rfl, ⟨_, _, _, rfl⟩, by simpa [refsL] using HO, HGL⟩
   case round =>
    clear HO HGL
    obtain ⟨j, hj, rfl, ⟨p2, n2, c2, rfl⟩, HO, HGL⟩ := hrel
    have hgr : Gr w0 wr := gr_grown HG1.out (owns_later HROW.out HGW.out) HGL.out
    have ye := XE.out.grown HGL.out.1 (by simp) (fun e => by have := HLW.out _ e; omega)
    by_cases hlt : j < l.length
    ·
     obtain ⟨b, off, op2, pos2, s2, text2, mn2, mx2, p3, n3, c3, a, rfl, hbW, ha, hin, hat⟩ := args_at HS.out HLEN.out HA.out j hlt
     have haj : (l.map (·.1))[j]? = some a := by rw [List.getElem?_map, ha]; rfl
     have HSA := Lib.hid (HK.out _ (List.mem_of_getElem? ha))
     obtain ⟨hbr, hcell⟩ := hat wr hgr
     unfold exCells at hcell
     have d0 := hcell 0 _ (by omega) rfl
     have d1 := hcell 1 _ (by omega) rfl
     have d2 := hcell 2 _ (by omega) rfl
     have d3 := hcell 3 _ (by omega) rfl
     have d4 := hcell 4 _ (by omega) rfl
     have d5 := hcell 5 _ (by omega) rfl
     have d6 := hcell 6 _ (by omega) rfl
     have d7 := hcell 7 _ (by omega) rfl
     have d8 := hcell 8 _ (by omega) rfl
     have d9 := hcell 9 _ (by omega) rfl
     simp only [Nat.add_zero] at d0
     have HTK := Lib.hid (refsL_take _ _ _ haj)
     have HC := Lib.hid (HIH.out a HSA.out _ wr (.slice p2 n2 c2) (gathP L (own ++ refsL ((l.map (·.1)).take j))) hin hgr HO.out (by
      have h1 := gathP_len (own ++ refsL ((l.map (·.1)).take j)) L
      have h2 := refsL_le (l.map (·.1)) (j + 1)
      have h3 := HT.out
      rw [HTK.out] at h2
      rw [List.length_append] at h1 h2 h3
      rw [HNL.out] at h1
      omega))
     unfold exCells at HC
     have hjI : (j : Int) < (l.length : Int) := by omega
     have HLT := Lib.hid hlt
     clear hlt hcell hin hat ha hj hbW haj hgr
     obtain ⟨c_e0, c_e1, c_e2, c_e3, c_e4, c_e5, c_e6, c_e7, c_e8, c_e9, m_e0, m_e1, m_e2, m_e3, m_e4, m_e5, m_e6, m_e7, m_e8, m_e9, l_e⟩ := unb10 ye
     go_wp2_with fail
     clear c_e0 c_e1 c_e2 c_e3 c_e4 c_e5 c_e6 c_e7 c_e8 c_e9 m_e0 m_e1 m_e2 m_e3 m_e4 m_e5 m_e6 m_e7 m_e8 m_e9 l_e
     go_at_call 52
     refine HC.out.mono ?_; rintro e' w2 ⟨v', rfl, ho2, hgl2⟩
     obtain ⟨p4, c4, rfl⟩ := (Sl.of_owns ho2).len
     rw [← gathP_app, List.append_assoc, ← HTK.out] at ho2 hgl2 ⊢
     have HO2 := Lib.hid ho2
     obtain ⟨n4, hn4⟩ : ∃ n, (gathP L (own ++ refsL ((l.map (·.1)).take (j + 1)))).length = n := ⟨_, rfl⟩
     rw [hn4] at HO2 hgl2 ⊢
     have HN4 := Lib.hid hn4
     have HGL2 := Lib.hid (HGL.out.trans hgl2)
     clear ho2 hgl2 hn4 d0 d1 d2 d3 d4 d5 d6 d7 d8 d9 hbr ye
     go_wp2_with fail
     go_roundw
     case rel => exact ⟨j + 1, by have := HLT.out; omega, by go_num, ⟨_, _, _, rfl⟩, Lib.hid (by rw [HN4.out]; exact HO2.out), HGL2⟩
     case measure => have := HLT.out; simp [intOf]; omega
    ·
     have hjE : j = l.length := by omega
     subst hjE
     have HTA := Lib.hid (show (l.map (·.1)).take l.length = l.map (·.1) from List.take_of_length_le (by rw [List.length_map]; exact Nat.le_refl _))
     rw [HTA.out] at HO
     have HGF := Lib.hid ((GrownL.gr _ HGW.out).trans HGL.out)
     clear hlt hj hgr
     obtain ⟨c_e0, c_e1, c_e2, c_e3, c_e4, c_e5, c_e6, c_e7, c_e8, c_e9, m_e0, m_e1, m_e2, m_e3, m_e4, m_e5, m_e6, m_e7, m_e8, m_e9, l_e⟩ := unb10 ye
     go_wp2_with fail
     go_ret
     exact ⟨_, rfl, HO.out, HGF.out⟩
theorem uses6r_any (e : Ex) (cs : List Value) (w : World) (he : ExIn w e cs) (hT : (refsE e).length ≤ 1048576) :
  Calls Tryz.prog 19 #[.agg cs.toArray] w fun e' w' => ∃ v, e' = .returned v ∧ w'.ownsRow w.heap.size 9 1 v (usesN e).length ((usesN e).map .string) ∧ Gr w w' := by
 have HC := Lib.hid (fun (W : World) (hG : Gr w W) => gather6_any w _ e (Nat.le_refl _) cs W (.slice none 0 0) [] he hG (World.ownsRow_nil _ _ _ _) (by simpa using hT))
 obtain ⟨op, ps, s1, tx, mn, mx, p1, n1, c1, rfl⟩ := he.formN
 unfold exCells at HC ⊢
 try dsimp only at HC
 clear he hT
 go_enter Tryz.func19, Tryz.ntmps19
 go_wp2_with fail
 go_at_call 52
 refine name_calls (fun W hW => ?_)
 have hgW : Gr w W := by rw [hW]; exact Gr.alloc _ _
 clear hW
 (with_reducible refine (HC.out W hgW).mono ?_); rintro e' w2 ⟨v', rfl, ho, hgl⟩
 have HG := Lib.hid (gr_grown hgW (World.ownsRow_nil W w.heap.size 9 1) hgl)
 have HO := Lib.hid ho
 clear ho hgl hgW
 go_wp2_with fail
 go_ret
 exact ⟨_, rfl, HO.out, HG.out⟩
end Go.Proofs.YtkkopdmemjncdaaGreatDoor
namespace Go.Proofs.YtkkopdmemjncdaaGreatDoor
open Go Go.RowKit
def FoundIn (w : World) (fb : Nat) : Option Nt → Prop
 | none => boxAt w fb [.int .i64 0, .int .i64 0, .int .i64 0, .int .i64 0, .slice none 0 0, .bool false]
 | some x => ∃ p c, boxAt w fb [.int .i64 6, .int .i64 0, .int .i64 0, .int .i64 x.2, .slice p 1 c, .bool true] ∧ Sl w (.slice p 1 c) 1 1 [.string x.1] ∧ ∃ g, p = some ⟨g, 0, none⟩ ∧ g ≠ fb
theorem FoundIn.later {w w' : World} {fb : Nat} : ∀ {b : Option Nt}, FoundIn w fb b → Gr w w' → FoundIn w' fb b
 | none, h, hG => boxAt.later h hG
 | some _, ⟨p, c, h1, h2, h3⟩, hG => ⟨p, c, h1.later hG, h2.later hG, h3⟩
theorem FoundIn.lt {w : World} {fb : Nat} : ∀ {b : Option Nt}, FoundIn w fb b → fb < w.heap.size
 | none, h => boxAt.lt h (by simp)
 | some x, ⟨p, c, h1, h2, h3⟩ => boxAt.lt h1 (by simp)
theorem note1_new {b : Option Nt} {x : Nt} (h : ∀ y, b = some y → x.2 < y.2) : note1 b x = some x := by
 cases b with
 | none => rfl
 | some y => unfold note1; simp only [if_pos (h y rfl)]
theorem note1_old {y x : Nt} (h : ¬ x.2 < y.2) : note1 (some y) x = some y := by unfold note1; simp only [if_neg h]
theorem sl_one {w : World} {s : ByteArray} {b : Nat} (h : w.cell? ⟨b, 0, none⟩ = some (.string s)) : Sl w (.slice (some ⟨b, 0, none⟩) 1 1) 1 1 [.string s] := by
 refine ⟨rfl, by unfold maxLen; omega, .inr ⟨b, 0, 1, rfl, fun _ => World.block_lt_of_cell? w _ h, fun j u hj => ?_⟩⟩
 cases j with
 | zero => simp at hj; subst hj; exact h
 | succ j => simp at hj
theorem found_new {w W1 : World} {fb : Nat} {cd am : Int} {vn : Value} (x1 : boxAt W1 fb [.int .i64 cd, .int .i64 0, .int .i64 0, .int .i64 am, vn, .bool true]) (hk : KpR [fb] w W1) (nm : ByteArray) (po : Int) (e : TypeId) :
  FoundIn ((((((W1.setCell ⟨fb, 0, none⟩ (.int .i64 6)).setCell ⟨fb, 1, none⟩ (.int .i64 0)).setCell ⟨fb, 2, none⟩ (.int .i64 0)).setCell ⟨fb, 3, none⟩ (.int .i64 po)).setCell ⟨fb, 4, none⟩ (.slice (some ⟨W1.heap.size, 0, none⟩) 1 1)).alloc (.cells #[.string nm] e)) fb (some (nm, po)) ∧
  KpR [fb] w ((((((W1.setCell ⟨fb, 0, none⟩ (.int .i64 6)).setCell ⟨fb, 1, none⟩ (.int .i64 0)).setCell ⟨fb, 2, none⟩ (.int .i64 0)).setCell ⟨fb, 3, none⟩ (.int .i64 po)).setCell ⟨fb, 4, none⟩ (.slice (some ⟨W1.heap.size, 0, none⟩) 1 1)).alloc (.cells #[.string nm] e)) := by
 have hlt := x1.lt (by simp)
 have hx := ((((x1.put 0 (.int .i64 6) (by simp)).put 1 (.int .i64 0) (by simp)).put 2 (.int .i64 0) (by simp)).put 3 (.int .i64 po) (by simp)).put 4 (.slice (some ⟨W1.heap.size, 0, none⟩) 1 1) (by simp)
 have hk2 := ((((hk.put (a := ⟨fb, 0, none⟩) (.inr (by simp)) (.int .i64 6)).put (a := ⟨fb, 1, none⟩) (.inr (by simp)) (.int .i64 0)).put (a := ⟨fb, 2, none⟩) (.inr (by simp)) (.int .i64 0)).put (a := ⟨fb, 3, none⟩) (.inr (by simp)) (.int .i64 po)).put (a := ⟨fb, 4, none⟩) (.inr (by simp)) (.slice (some ⟨W1.heap.size, 0, none⟩) 1 1)
 generalize hV : (((((W1.setCell ⟨fb, 0, none⟩ (.int .i64 6)).setCell ⟨fb, 1, none⟩ (.int .i64 0)).setCell ⟨fb, 2, none⟩ (.int .i64 0)).setCell ⟨fb, 3, none⟩ (.int .i64 po)).setCell ⟨fb, 4, none⟩ (.slice (some ⟨W1.heap.size, 0, none⟩) 1 1)) = V at hx hk2 ⊢
 have hs : V.heap.size = W1.heap.size := by rw [← hV]; simp [World.setCell]
 refine ⟨⟨_, _, hx.later (Gr.alloc _ _), sl_one ?_, _, rfl, by omega⟩, kpr1 hk2 (KpR.gr (Gr.alloc _ _))⟩
 have := new_cells V [.string nm] e 0 _ rfl
 rw [hs] at this
 exact this
set_option maxRecDepth 100000 in
set_option maxHeartbeats 8000000 in
theorem at6f_any (fb : Nat) (b : Option Nt) (x : Nt) (w : World) (h : FoundIn w fb b) :
  Calls Tryz.prog 66 #[.pointer (some ⟨fb, 0, none⟩), .int .i64 x.2, .string x.1] w fun e w' => e = .returned (.tuple #[]) ∧ FoundIn w' fb (note1 b x) ∧ KpR [fb] w w' := by
 obtain ⟨nm, po⟩ := x
 dsimp only
 have HF := Lib.hid h
 have hlt := h.lt
 obtain ⟨cd, am, vn, th, hbx, hnew, hold⟩ : ∃ (cd am : Int) (vn : Value) (th : Bool), boxAt w fb [.int .i64 cd, .int .i64 0, .int .i64 0, .int .i64 am, vn, .bool th] ∧ (th = false ∨ po < am → note1 b (nm, po) = some (nm, po)) ∧ (th = true → ¬ po < am → note1 b (nm, po) = b) := by
  cases b with
  | none => exact ⟨_, _, _, _, h, fun _ => rfl, fun h => by cases h⟩
  |
   some y =>
   obtain ⟨p, c, h1, h2, h3⟩ := h
   refine ⟨_, _, _, _, h1, fun h => ?_, fun _ h => note1_old h⟩
   rcases h with h | h
   · cases h
   · exact note1_new (fun z hz => by injection hz with hz; subst hz; exact h)
 have HNW := Lib.hid hnew
 have HOL := Lib.hid hold
 have HBX := Lib.hid hbx
 clear h hnew hold
 go_enter Tryz.func66, Tryz.ntmps66
 obtain ⟨c_f0, c_f1, c_f2, c_f3, c_f4, c_f5, m_f0, m_f1, m_f2, m_f3, m_f4, m_f5, l_f⟩ := unb6 hbx
 cases th with
 |
  false =>
  have HNN := Lib.hid (HNW.out (.inl rfl))
  go_upto_region 1 with fail
  go_upto_region 2 with fail
  refine name_world (fun W1 hW1 => ?_)
  have x1 : boxAt W1 fb [.int .i64 cd, .int .i64 0, .int .i64 0, .int .i64 am, vn, .bool true] := by rw [hW1]; exact HBX.out.put 5 _ (by simp)
  have hk1 : KpR [fb] w W1 := by rw [hW1]; exact (KpR.refl [fb] w).put (.inr (by simp)) _
  clear c_f0 c_f1 c_f2 c_f3 c_f4 c_f5 m_f0 m_f1 m_f2 m_f3 m_f4 m_f5 l_f
  clear hW1 hbx
  obtain ⟨c_f0, c_f1, c_f2, c_f3, c_f4, c_f5, m_f0, m_f1, m_f2, m_f3, m_f4, m_f5, l_f⟩ := unb6 x1
  go_wp2_with fail
  go_end0
  exact ⟨rfl, by rw [HNN.out]; exact found_new x1 hk1 nm po _⟩
 |
  true =>
  by_cases hp : po < am
  ·
   have HNN := Lib.hid (HNW.out (.inr hp))
   go_upto_region 1 with fail
   go_upto_region 2 with fail
   refine name_world (fun W1 hW1 => ?_)
   have x1 : boxAt W1 fb [.int .i64 cd, .int .i64 0, .int .i64 0, .int .i64 am, vn, .bool true] := by rw [hW1]; exact HBX.out.put 5 _ (by simp)
   have hk1 : KpR [fb] w W1 := by rw [hW1]; exact (KpR.refl [fb] w).put (.inr (by simp)) _
   clear c_f0 c_f1 c_f2 c_f3 c_f4 c_f5 m_f0 m_f1 m_f2 m_f3 m_f4 m_f5 l_f
   clear hW1 hbx
   obtain ⟨c_f0, c_f1, c_f2, c_f3, c_f4, c_f5, m_f0, m_f1, m_f2, m_f3, m_f4, m_f5, l_f⟩ := unb6 x1
   go_wp2_with fail
   go_end0
   exact ⟨rfl, by rw [HNN.out]; exact found_new x1 hk1 nm po _⟩
  ·
   have HNN := Lib.hid (HOL.out rfl hp)
   go_wp2_with fail
   go_end0
   exact ⟨rfl, by rw [HNN.out]; exact HF.out, KpR.refl _ _⟩
end Go.Proofs.YtkkopdmemjncdaaGreatDoor
namespace Go.Proofs.YtkkopdmemjncdaaGreatDoor
open Go Go.RowKit
theorem lost_take (K : List ByteArray) (l : List Ex) (j : Nat) (a : Ex) (h : l[j]? = some a) (b : Option Nt) (own : List Nt) : (lost K (refsE a)).foldl note1 ((lost K (own ++ refsL (l.take j))).foldl note1 b) = (lost K (own ++ refsL (l.take (j + 1)))).foldl note1 b := by
 rw [refsL_take l j a h, ← List.append_assoc, lost_append K (own ++ refsL (l.take j)), List.foldl_append]
set_option maxRecDepth 100000 in
set_option maxHeartbeats 8000000 in
theorem
    refsf_any (s : Sc) (w0 : World) (vm vd vr : Value) (hs : ScIn w0 s vm vd vr) (fb : Nat) (hfb : w0.heap.size ≤ fb) : ∀ k, ∀ (e : Ex), SizeOf.sizeOf e ≤ k → ∀ (cs : List Value) (w : World) (b : Option Nt), ExIn w0 e cs → Gr w0 w → FoundIn w fb b →
  Calls Tryz.prog 68 #[.pointer (some ⟨fb, 0, none⟩), scV vm vd vr, .agg cs.toArray] w fun e' w' => e' = .returned (.tuple #[]) ∧ FoundIn w' fb ((lost (defsN s) (refsE e)).foldl note1 b) ∧ KpR [fb] w w' := by
 have HDF := Lib.hid (fun W (hG : Gr w0 W) x => def6_any s W vm vd vr (hs.later hG) x)
 obtain ⟨dl, rl, hd, hr, hm, hmo, hmn, hmb, hds, hdi, hdn, hdb, hrs, hri, hrn, hrb⟩ := hs
 obtain ⟨pm, cm, rfl⟩ := hm.len
 obtain ⟨pd, cd, rfl⟩ := hds.len
 obtain ⟨pr, cr, rfl⟩ := hrs.len
 obtain ⟨nm, hnm⟩ : ∃ n, s.modes.length = n := ⟨_, rfl⟩
 obtain ⟨nd, hnd⟩ : ∃ n, dl.length = n := ⟨_, rfl⟩
 obtain ⟨nr, hnr⟩ : ∃ n, rl.length = n := ⟨_, rfl⟩
 rw [hnm, hnd, hnr] at HDF ⊢
 unfold scV at HDF ⊢
 have HFB := Lib.hid hfb
 clear hd hr hm hmo hmn hmb hds hdi hdn hdb hrs hri hrn hrb hnm hnd hnr hfb
 intro k
 induction k with
 | zero => intro e h; cases e; simp only [Ex.mk.sizeOf_spec] at h; omega
 |
  succ k ih =>
  intro e hk cs w b he hg0 hf
  cases he with
  |
   mk op
      pos st text mn mx v l h1 h2 h3 h4 h5 hlen hs hn hb hargs =>
   have HK := Lib.hid (fun p (hp : p ∈ l) => by
    have := Ex.size_arg (.mk op pos st text mn mx (l.map (·.1))) p.1 (List.mem_map.2 ⟨p, hp, rfl⟩)
    exact (show SizeOf.sizeOf p.1 ≤ k by omega))
   have HIH := Lib.hid ih
   have HS := Lib.hid hs
   have HA := Lib.hid hargs
   have HLEN := Lib.hid hlen
   obtain ⟨own, hown⟩ : ∃ o, (if op = 4 then [(text, pos)] else []) = o := ⟨_, rfl⟩
   have hE : refsE (.mk op pos st text mn mx (l.map (·.1))) = own ++ refsL (l.map (·.1)) := by rw [refsE, hown]
   rw [hE]
   obtain ⟨b1, hb1⟩ : ∃ x, (lost (defsN s) own).foldl note1 b = x := ⟨_, rfl⟩
   have HB1 := Lib.hid hb1
   have HOWN := Lib.hid hown
   have HG0 := Lib.hid hg0
   have HF := Lib.hid hf
   obtain ⟨pv, cv, rfl⟩ := hs.len
   have hll : l.length ≤ 140737488351232 := by omega
   clear ih hk h1 h2 h3 h4 h5 hn hs hargs hlen hb hE hown hb1 hg0 hf
   unfold exCells
   go_enter Tryz.func68, Tryz.ntmps68
   go_upto_region 1 with fail
   refine name_world (fun W hW => ?_)
   have xs : boxAt W w.heap.size [.slice pm nm cm, .slice pd nd cd, .slice pr nr cr] := by rw [hW]; exact (boxAt.new_atN _ _ _ rfl rfl).later (Gr.alloc _ _)
   have xe : boxAt W (w.heap.size + 1) [.int .i64 op, .int .i64 pos, .int .u64 (wd st 0), .int .u64 (wd st 1), .int .u64 (wd st 2), .int .u64 (wd st 3), .string text, .int .i64 mn, .int .i64 mx, (.slice pv l.length cv)] := by rw [hW]; exact boxAt.new_atN _ _ _ rfl (by simp)
   have hgW : Gr w W := by rw [hW]; exact (Gr.alloc _ _).trans (Gr.alloc _ _)
   clear hW
   have HGW := Lib.hid hgW
   have HG1 := Lib.hid (HG0.out.trans hgW)
   have HF1 := Lib.hid (HF.out.later hgW)
   have HFL := Lib.hid HF.out.lt
   obtain ⟨sb, hsb⟩ : ∃ b, w.heap.size = b := ⟨_, rfl⟩
   obtain ⟨eb, heb⟩ : ∃ b, sb + 1 = b := ⟨_, rfl⟩
   rw [hsb] at xs xe HFL
   rw [heb] at xe
   simp only [hsb, heb]
   have XS := Lib.hid xs
   have XE := Lib.hid xe
   have HEB := Lib.hid heb
   clear hgW hsb heb
   obtain ⟨c_s0, c_s1, c_s2, m_s0, m_s1, m_s2, l_s⟩ := unb3 xs
   obtain ⟨c_e0, c_e1, c_e2, c_e3, c_e4, c_e5, c_e6, c_e7, c_e8, c_e9, m_e0, m_e1, m_e2, m_e3, m_e4, m_e5, m_e6, m_e7, m_e8, m_e9, l_e⟩ := unb10 xe
   rcases (show op ≠ 4 ∨ (op = 4 ∧ memN (defsN s) text = true) ∨ (op = 4 ∧ memN (defsN s) text = false) by
    by_cases q1 : op = 4
    ·
     cases hq : memN (defsN s) text with
     | true => exact .inr (.inl ⟨q1, rfl⟩)
     | false => exact .inr (.inr ⟨q1, rfl⟩)
    · exact .inl q1) with q1 | ⟨q1, hq⟩ | ⟨q1, hq⟩
   focus
    have q1b : (op == 4) = false := by rw [beq_eq_false_iff_ne]; exact q1
    have hz := HOWN.out
    rw [if_neg q1] at hz
    have HFC := Lib.hid (show FoundIn W fb b1 by rw [← HB1.out, ← hz]; exact HF1.out)
    have HKC := Lib.hid (KpR.refl [fb] W)
    clear q1 hz xs xe
    go_wp2_with fail
    clear c_s0 c_s1 c_s2 m_s0 m_s1 m_s2 l_s
    clear c_e0 c_e1 c_e2 c_e3 c_e4 c_e5 c_e6 c_e7 c_e8 c_e9 m_e0 m_e1 m_e2 m_e3 m_e4 m_e5 m_e6 m_e7 m_e8 m_e9 l_e
   rotate_left
   focus
    have hz := HOWN.out
    rw [if_pos q1] at hz
    have HD1 := Lib.hid (HDF.out W HG1.out text)
    have HAI := Lib.hid (atI_some hq)
    obtain ⟨c, hcc⟩ : ∃ c, noOf (defsN s) text = c := ⟨_, rfl⟩
    rw [hcc] at HAI
    have hc0 : ¬ (c : Int) < 0 := by omega
    have HZ := Lib.hid (show b = b1 by
     rw [← HB1.out, ← hz, lost_one]
     rw [if_pos (show memN (defsN s) (text, pos).1 = true from hq)]; rfl)
    subst q1
    clear hz hq hcc
    go_wp2_with fail
    go_at_call 67
    (with_reducible refine HD1.out.mono ?_); rintro e' w2 ⟨rfl, hg2⟩
    rw [HAI.out]
    have HFC := Lib.hid (show FoundIn w2 fb b1 by rw [← HZ.out]; exact HF1.out.later hg2)
    have HKC := Lib.hid (KpR.gr (R := [fb]) hg2)
    clear c_s0 c_s1 c_s2 m_s0 m_s1 m_s2 l_s
    clear c_e0 c_e1 c_e2 c_e3 c_e4 c_e5 c_e6 c_e7 c_e8 c_e9 m_e0 m_e1 m_e2 m_e3 m_e4 m_e5 m_e6 m_e7 m_e8 m_e9 l_e
    replace xe := xe.later hg2
    obtain ⟨c_e0, c_e1, c_e2, c_e3, c_e4, c_e5, c_e6, c_e7, c_e8, c_e9, m_e0, m_e1, m_e2, m_e3, m_e4, m_e5, m_e6, m_e7, m_e8, m_e9, l_e⟩ := unb10 xe
    clear hg2 xs HD1
    go_wp2_with fail
    clear c_e0 c_e1 c_e2 c_e3 c_e4 c_e5 c_e6 c_e7 c_e8 c_e9 m_e0 m_e1 m_e2 m_e3 m_e4 m_e5 m_e6 m_e7 m_e8 m_e9 l_e
    clear xe hc0
   rotate_left
   focus
    have hz := HOWN.out
    rw [if_pos q1] at hz
    have HD1 := Lib.hid (HDF.out W HG1.out text)
    have HAI := Lib.hid (atI_none hq)
    have HZ := Lib.hid (show note1 b (text, pos) = b1 by
     rw [← HB1.out, ← hz, lost_one]
     rw [if_neg (show ¬ memN (defsN s) (text, pos).1 = true by rw [show memN (defsN s) (text, pos).1 = false from hq]; simp)]; rfl)
    subst q1
    clear hz hq
    go_wp2_with fail
    go_at_call 67
    (with_reducible refine HD1.out.mono ?_); rintro e' w2 ⟨rfl, hg2⟩
    rw [HAI.out]
    have HF2 := Lib.hid (HF1.out.later hg2)
    have HG2 := Lib.hid hg2
    clear c_s0 c_s1 c_s2 m_s0 m_s1 m_s2 l_s
    clear c_e0 c_e1 c_e2 c_e3 c_e4 c_e5 c_e6 c_e7 c_e8 c_e9 m_e0 m_e1 m_e2 m_e3 m_e4 m_e5 m_e6 m_e7 m_e8 m_e9 l_e
    replace xe := xe.later hg2
    obtain ⟨c_e0, c_e1, c_e2, c_e3, c_e4, c_e5, c_e6, c_e7, c_e8, c_e9, m_e0, m_e1, m_e2, m_e3, m_e4, m_e5, m_e6, m_e7, m_e8, m_e9, l_e⟩ := unb10 xe
    have HAT := Lib.hid (at6f_any fb b (text, pos) w2 HF2.out)
    dsimp only at HAT
    clear hg2 xs HD1
    go_wp2_with fail
    go_at_call 66
    (with_reducible refine HAT.out.mono ?_); rintro e' w3 ⟨rfl, hf3, hk3⟩
    rw [HZ.out] at hf3
    have HFC := Lib.hid hf3
    have HKC := Lib.hid ((KpR.gr (R := [fb]) HG2.out).trans hk3 (fun x hx => .inl hx))
    clear c_e0 c_e1 c_e2 c_e3 c_e4 c_e5 c_e6 c_e7 c_e8 c_e9 m_e0 m_e1 m_e2 m_e3 m_e4 m_e5 m_e6 m_e7 m_e8 m_e9 l_e
    clear hf3 hk3 HAT xe
    go_wp2_with fail
   rotate_left
   all_goals
    go_loopw [6] (fun i wr => ∃ j : Nat, j ≤ l.length ∧ i = .int .i64 (j : Int) ∧ Hid (FoundIn wr fb ((lost (defsN s) (own ++ refsL ((l.map (·.1)).take j))).foldl note1 b)) ∧ Hid (KpR [fb] W wr)) (fun i _ => l.length - (intOf i).toNat)
    case atStart => exact ⟨0, Nat.zero_le _, rfl, Lib.hid (by rw [List.take_zero, refsL, List.append_nil, HB1.out]; exact HFC.out), HKC⟩
    case round =>
     clear HFC HKC
     obtain ⟨j, hj, rfl, HFJ, HKJ⟩ := hrel
     have hgr : Gr w0 wr := KpR.toGr HG1.out HKJ.out (fun x hx => by rw [List.mem_singleton.1 hx]; exact HFB.out)
     have ys := HKJ.out.box XS.out (fun hm => by have h1 := List.mem_singleton.1 hm; have h2 := HFL.out; omega) (by simp)
     have ye := HKJ.out.box XE.out (fun hm => by have h1 := List.mem_singleton.1 hm; have h2 := HFL.out; have h3 := HEB.out; omega) (by simp)
     by_cases hlt : j < l.length
     ·
      obtain ⟨b2, off, op2, pos2, s2, text2, mn2, mx2, p3, n3, c3, a, rfl, hbW, ha, hin, hat⟩ := args_at HS.out HLEN.out HA.out j hlt
      have haj : (l.map (·.1))[j]? = some a := by rw [List.getElem?_map, ha]; rfl
      have HSA := Lib.hid (HK.out _ (List.mem_of_getElem? ha))
      obtain ⟨hbr, hcell⟩ := hat wr hgr
      unfold exCells at hcell
      have d0 := hcell 0 _ (by omega) rfl
      have d1 := hcell 1 _ (by omega) rfl
      have d2 := hcell 2 _ (by omega) rfl
      have d3 := hcell 3 _ (by omega) rfl
      have d4 := hcell 4 _ (by omega) rfl
      have d5 := hcell 5 _ (by omega) rfl
      have d6 := hcell 6 _ (by omega) rfl
      have d7 := hcell 7 _ (by omega) rfl
      have d8 := hcell 8 _ (by omega) rfl
      have d9 := hcell 9 _ (by omega) rfl
      simp only [Nat.add_zero] at d0
      have HLK := Lib.hid (lost_take (defsN s) _ j a haj b own)
      have HC := Lib.hid (fun W (hG : Gr wr W) => HIH.out a HSA.out _ W _ hin (hgr.trans hG) (HFJ.out.later hG))
      rw [HLK.out] at HC
      unfold exCells at HC
      have hjI : (j : Int) < (l.length : Int) := by omega
      have HLT := Lib.hid hlt
      clear hlt hcell hin hat ha hj hbW haj hgr
      obtain ⟨c_s0, c_s1, c_s2, m_s0, m_s1, m_s2, l_s⟩ := unb3 ys
      obtain ⟨c_e0, c_e1, c_e2, c_e3, c_e4, c_e5, c_e6, c_e7, c_e8, c_e9, m_e0, m_e1, m_e2, m_e3, m_e4, m_e5, m_e6, m_e7, m_e8, m_e9, l_e⟩ := unb10 ye
      go_wp2_with fail
      refine wp_region_T (fun _ _ => False) (fun w' => Gr wr w') (.take 0 (.take 1 (.take 2 (.take 3 (.take 4 (.take 5 (.take 6 (.run 7 true .nil)))))))) (fun _ _ _ _ h => h.elim) (Gr.drew _) (by kernel_rfl) (by kernel_rfl) ?_
      simp only [pickOps, nthOp]
      intro wq hG hSq
      clear hSq
      repeat (first | (refine wpP_skip_take ?_ ?_; (focus rfl); try simp only [Act.put, List.setIfInBounds_toArray, List.set_cons_zero, List.set_cons_succ]) | (refine wpP_skip_run ?_ ?_; (focus rfl); try simp only [Act.put, List.setIfInBounds_toArray, List.set_cons_zero, List.set_cons_succ]) | (refine wpP_take ?_ ?_; (focus rfl); apply Exists.intro; refine ⟨fun w' hw' => ?_, ?_⟩; (focus (have hc := Gr.cells hw'; go_simp; (try rfl); done)); try simp only [Act.put, List.setIfInBounds_toArray, List.set_cons_zero, List.set_cons_succ]))
      refine wpP_last ?_ (fun K hK => ?_); (focus rfl)
      go_simp
      go_at_call 68
      refine (HC.out wq hG).mono ?_; rintro e' w5 ⟨rfl, hf5, hk5⟩
      (try dsimp only)
      refine hK.out _ _ ?_
      try simp only [Act.put, List.setIfInBounds_toArray, List.set_cons_zero, List.set_cons_succ]
      clear hK K
      refine wpP_done ?_
      have HF5 := Lib.hid hf5
      have HK5 := Lib.hid ((HKJ.out.trans (KpR.gr (R := [fb]) hG) (fun x hx => .inl hx)).trans hk5 (fun x hx => .inl hx))
      clear c_s0 c_s1 c_s2 m_s0 m_s1 m_s2 l_s
      clear c_e0 c_e1 c_e2 c_e3 c_e4 c_e5 c_e6 c_e7 c_e8 c_e9 m_e0 m_e1 m_e2 m_e3 m_e4 m_e5 m_e6 m_e7 m_e8 m_e9 l_e
      clear hf5 hk5 hG d0 d1 d2 d3 d4 d5 d6 d7 d8 d9 hbr ys ye HC
      go_wp2_with fail
      go_roundw
      case rel => exact ⟨j + 1, by have := HLT.out; omega, by go_num, HF5, HK5⟩
      case measure => have := HLT.out; simp [intOf]; omega
     ·
      have hjE : j = l.length := by omega
      subst hjE
      have HTA := Lib.hid (show (l.map (·.1)).take l.length = l.map (·.1) from List.take_of_length_le (by rw [List.length_map]; exact Nat.le_refl _))
      rw [HTA.out] at HFJ
      have HKF := Lib.hid ((KpR.gr (R := [fb]) HGW.out).trans HKJ.out (fun x hx => .inl hx))
      clear hlt hj hgr
      obtain ⟨c_e0, c_e1, c_e2, c_e3, c_e4, c_e5, c_e6, c_e7, c_e8, c_e9, m_e0, m_e1, m_e2, m_e3, m_e4, m_e5, m_e6, m_e7, m_e8, m_e9, l_e⟩ := unb10 ye
      go_wp2_with fail
      go_end0
      exact ⟨rfl, HFJ.out, HKF.out⟩
end Go.Proofs.YtkkopdmemjncdaaGreatDoor
