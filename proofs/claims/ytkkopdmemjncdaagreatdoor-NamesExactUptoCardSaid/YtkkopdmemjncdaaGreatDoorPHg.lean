/- Texts of mine, put together: TellG, TellH, ErrNew, Chain, SaysP, WrapF. No condition but what each says. -/
import Derived.Test.YtkkopdmemjncdaaGreatDoorPGh
import Derived.Test.YtkkopdmemjncdaaGreatDoorPHd
import Derived.Test.YtkkopdmemjncdaaGreatDoorPGb
import Derived.Deep.DeepCutAuto
import Derived.Lib.ItoaNum
import Derived.Lib.Join
import Derived.Test.YtkkopdmemjncdaaGreatDoorPGc
namespace Go.Proofs.YtkkopdmemjncdaaGreatDoor
open Go Go.RowKit
def NamesOf (W : World) (e : Er) (ns : List (List UInt8)) : Prop := match e.first .named with
 | none => ns = []
 | some b => ∃ x, W.cell? ⟨b, 1, none⟩ = some x ∧ Sl W x 1 ns.length (ns.map vS) ∧ ns.length * 16 ≤ 140737488355328
theorem NamesOf.later {W W' : World} {e : Er} {ns : List (List UInt8)} (h : NamesOf W e ns) (hG : Gr W W') : NamesOf W' e ns := by
 unfold NamesOf at h ⊢
 split at h
 · exact h
 ·
  obtain ⟨x, h1, h2, h3⟩ := h
  exact ⟨x, hG.cell h1, h2.later hG, h3⟩
theorem clone_any (v : Value) (ns : List (List UInt8)) (w : World) (h : Sl w v 1 ns.length (ns.map vS)) (hb : ns.length * 16 ≤ 140737488355328) :
  Calls Tryz.prog 61 #[v] w fun e w' => ∃ v', e = .returned v' ∧ w'.ownsRow w.heap.size 9 1 v' ns.length (ns.map vS) ∧ Gr w w' := by
 obtain ⟨_, _, ⟨⟨p0, c0, rfl⟩, h0⟩ | ⟨b, off, cap, rfl, hbl, hc⟩⟩ := h
 ·
  obtain rfl := List.eq_nil_of_length_eq_zero h0
  cases p0 with
  |
   none =>
   refine (Tryz.slices_Clone_string_nil 0 c0 w).mono ?_
   rintro e w' ⟨rfl, rfl⟩
   exact ⟨_, rfl, World.ownsRow_nil _ _ _ _, Gr.refl _⟩
  |
   some a =>
   refine (Tryz.slices_Clone_string_zero a c0 w).mono ?_
   rintro e w' ⟨v', rfl, h1, _, h2⟩
   exact ⟨v', rfl, h1, h2⟩
 ·
  have hz : ∀ j, j < (ns.map st).length → w.cell? ⟨b, off + j, none⟩ = some (.string ((ns.map st).getD j ByteArray.empty)) := fun j hj => by
   rw [List.length_map] at hj
   rw [hc j (vS (ns[j])) (by rw [List.getElem?_map, List.getElem?_eq_getElem hj]; rfl), List.getD_eq_getElem?_getD, List.getElem?_map, List.getElem?_eq_getElem hj]
   rfl
  refine (Tryz.slices_Clone_string b off ns.length cap (ns.map st) w (by simp) hb hz).mono ?_
  rintro e w' ⟨v', rfl, h1, _, h2⟩
  refine ⟨v', rfl, ?_, h2⟩
  rw [List.take_of_length_le (by simp), List.map_map] at h1
  exact h1
end Go.Proofs.YtkkopdmemjncdaaGreatDoor
namespace Go.Proofs.YtkkopdmemjncdaaGreatDoor
open Go Go.RowKit
theorem owns_mono1 {w : World} {B B' e n k : Nat} {v : Value} {xs : List Value} (h : w.ownsRow B e k v n xs) (hB : B' ≤ B) : w.ownsRow B' e k v n xs := by
 obtain ⟨h1, h2⟩ := h
 refine ⟨h1, h2.imp id ?_⟩
 rintro ⟨g, cap, cur, hv, hb, r⟩
 exact ⟨g, cap, cur, hv, Nat.le_trans hB hb, r⟩
theorem owns_kp1 {w : World} {B e n k b : Nat} {v : Value} {xs : List Value} (h : w.ownsRow B e k v n xs) (hb : b < B) (i : Nat) (u : Value) : (w.setCell ⟨b, i, none⟩ u).ownsRow B e k v n xs :=
 owns_heap h (fun g hg => Below.heap_setCell w ⟨b, i, none⟩ u g (by have := (World.ownsRow.lt h g hg).1; show g ≠ b; omega))
set_option maxRecDepth 100000 in
set_option maxHeartbeats 8000000 in
theorem
    tell_gen {W
          : World} {s : Nat → Addr} (hF : FaultsIn W s) (e : Er) (he : e.In W) (hok : e.ok) (ns : List (List UInt8)) (hns : NamesOf W e ns) (c : Int) (hcode : ∀ W', Gr W W' → Calls Tryz.prog 59 #[e.val] W' fun x w' => x = .returned (.int .i64 c) ∧ Gr W' w') :
  Calls Tryz.prog 28 #[e.val] W fun x w' => Gr W w' ∧ ∃ nv, x = .returned (.agg #[.int .i64 c, .int .i64 (e.say .staged), .int .i64 (e.say .ruled), .int .i64 (e.say .placed), nv]) ∧ w'.ownsRow W.heap.size 9 1 nv ns.length (ns.map vS) := by
 have HF := Lib.hid hF
 have HE := Lib.hid he
 have HOK := Lib.hid hok
 have HN := Lib.hid hns
 have HCO := Lib.hid hcode
 obtain ⟨t0, p0, hv0⟩ := e.val_iface
 have HV := Lib.hid hv0
 obtain ⟨pa, hpa⟩ : ∃ x, e.say .placed = x := ⟨_, rfl⟩
 obtain ⟨pr, hpr⟩ : ∃ x, e.say .ruled = x := ⟨_, rfl⟩
 obtain ⟨ps, hps⟩ : ∃ x, e.say .staged = x := ⟨_, rfl⟩
 have HSAY := Lib.hid (show e.say .placed = pa ∧ e.say .ruled = pr ∧ e.say .staged = ps from ⟨hpa, hpr, hps⟩)
 rw [hv0] at HCO ⊢
 rw [hpa, hpr, hps]
 clear hv0 he hF hns hok hcode hpa hpr hps
 go_enter Tryz.func28, Tryz.ntmps28
 go_wp2_with fail
 go_at_call 59
 refine name_calls (fun W0 hW => ?_)
 have xr : boxAt W0 W.heap.size [.int .i64 0, .int .i64 0, .int .i64 0, .int .i64 0, .slice none 0 0] := boxAt.new _ _ hW
 have hg := Gr.of_alloc hW
 clear hW
 refine (HCO.out W0 hg).mono ?_; rintro e' w1 ⟨rfl, hb⟩
 replace xr := xr.later hb
 replace hg := hg.trans hb
 clear hb
 have hRF : W.heap.size < w1.heap.size := xr.lt (by simp)
 go_upto_region 3 with fail
 refine name_world (fun W2 hW => ?_)
 obtain ⟨xf, xp, hb, _⟩ : boxAt W2 w1.heap.size [.int .i64 c, .int .i64 0, .int .i64 0, .int .i64 0, .slice none 0 0] ∧ boxAt W2 (w1.heap.size + 1) [.pointer none] ∧ Gr w1 W2 ∧ _ := by rw [hW]; exact bx2 w1 [.int .i64 c, .int .i64 0, .int .i64 0, .int .i64 0, .slice none 0 0] [.pointer none] 37 114
 clear hW
 replace xr := xr.later hb
 replace hg := hg.trans hb
 clear hb
 obtain ⟨B, hB⟩ : ∃ B, w1.heap.size + 1 = B := ⟨_, rfl⟩
 rw [hB] at xp ⊢
 have hFB : w1.heap.size < B := by omega
 clear hB
 go_cut [13] from 11 to 12 (fun v wx => v = .bool (e.first .placed).isSome ∧ Hid (∀ b, e.first .placed = some b → boxAt wx B [.pointer (some ⟨b, 0, none⟩)]) ∧ boxAt wx w1.heap.size [.int .i64 c, .int .i64 0, .int .i64 0, .int .i64 0, .slice none 0 0] ∧ boxAt wx W.heap.size [.int .i64 0, .int .i64 0, .int .i64 0, .int .i64 0, .slice none 0 0] ∧ Gr W wx)
 case first =>
  go_wp2_with fail
  go_at_call 60
  have HC := asTop_placed (w := W2) e (HE.out.later hg) B (.pointer none) (xp.cell 0 _ rfl) (xp.mark 0 _ rfl) (HF.out.later hg).type
  rw [HV.out] at HC
  refine HC.mono ?_; clear HC; rintro e' w3 ⟨wa, hb, hm⟩
  replace xr := xr.later hb
  replace xf := xf.later hb
  replace xp := xp.later hb
  have hg3 := hg.trans hb
  skip
  clear hb
  cases hfi : e.first .placed with
  |
   none =>
   rw [hfi] at hm
   obtain ⟨rfl, rfl⟩ := hm
   go_wp2_with fail
   go_meet
   case rel => exact ⟨by first | rfl | (rw [hfi]; rfl), fun b h => (by first | cases h | (rw [hfi] at h; cases h)), xf, xr, hg3⟩
  |
   some b =>
   rw [hfi] at hm
   obtain ⟨rfl, hw3⟩ := hm
   have y1 : boxAt w3 B [.pointer (some ⟨b, 0, none⟩)] := by rw [hw3]; exact xp.put 0 _ (by simp)
   have y2 : boxAt w3 w1.heap.size [.int .i64 c, .int .i64 0, .int .i64 0, .int .i64 0, .slice none 0 0] := by rw [hw3]; exact xf.far _ _ (Nat.ne_of_gt hFB)
   have y3 : boxAt w3 W.heap.size [.int .i64 0, .int .i64 0, .int .i64 0, .int .i64 0, .slice none 0 0] := by rw [hw3]; exact xr.far _ _ (Nat.ne_of_gt (Nat.lt_trans hRF hFB))
   have y4 : Gr W w3 := by rw [hw3]; exact Below.setCell (p := ⟨B, 0, none⟩) hg3 (Nat.le_of_lt (Nat.lt_trans hRF hFB)) _
   skip
   clear hw3 xp xf xr hg3
   go_wp2_with fail
   go_meet
   case rel => exact ⟨by first | rfl | (rw [hfi]; rfl), fun b' h => (by first | (injection h with h; subst h; exact y1) | (rw [hfi] at h; injection h with h; subst h; exact y1)), y2, y3, y4⟩
 case rest
      =>
  clear xp xf xr hg
  obtain ⟨rfl, hbx, xf, xr, hg⟩ := hcut
  go_upto_if 13 with fail
  go_cut [13, 14] from 15 to 18 (fun _ _ wx => boxAt wx w1.heap.size [.int .i64 c, .int .i64 0, .int .i64 0, .int .i64 pa, .slice none 0 0] ∧ boxAt wx W.heap.size [.int .i64 0, .int .i64 0, .int .i64 0, .int .i64 0, .slice none 0 0] ∧ Gr W wx)
  case first =>
   cases hfi : e.first .placed with
   |
    none =>
    have hp : pa = 0 := by rw [← HSAY.out.1]; exact Er.first_none hfi
    rw [show (none : Option Nat).isSome = false from rfl]
    go_wp2_with fail
    go_meet
    case rel => exact ⟨by rw [hp]; exact xf, xr, hg⟩
   |
    some b =>
    rw [show (some b : Option Nat).isSome = true from rfl]
    have xp := hbx.out b hfi
    have hc0 := Er.first_some (k := .placed) (by decide) HE.out HOK.out hfi
    rw [HSAY.out.1] at hc0
    have hcb := hg.cell hc0
    have hbl : b < wc.heap.size := World.block_lt_of_cell? _ _ hcb
    clear hc0
    obtain ⟨c_f0, c_f1, c_f2, c_f3, c_f4, m_f0, m_f1, m_f2, m_f3, m_f4, l_f⟩ := unb5 xf
    have c_p0 := xp.cell 0 _ rfl
    have m_p0 := xp.mark 0 _ rfl
    have l_p := xp.lt (Nat.succ_pos _)
    go_wp2_with fail
    go_meet
    case rel => exact ⟨xf.put 3 _ (by simp), xr.far _ _ (Nat.ne_of_gt hRF), Below.setCell (p := ⟨w1.heap.size, 3, none⟩) hg (Nat.le_of_lt hRF) _⟩
  case rest
       =>
   clear hbx xf xr hg
   obtain ⟨xf, xr, hg⟩ := hcut
   obtain ⟨W1, hW1⟩ : ∃ W1, W1 = wc := ⟨_, rfl⟩
   subst hW1
   go_upto_region 6 with fail
   refine name_world (fun W2 hW => ?_)
   have hb : Gr W1 W2 := Gr.of_alloc hW
   have xp : boxAt W2 W1.heap.size [.pointer none] := boxAt.new _ _ hW
   have hFB : w1.heap.size < W1.heap.size := xf.lt (by simp)
   clear hW
   replace xf := xf.later hb
   replace xr := xr.later hb
   replace hg := hg.trans hb
   skip
   clear hb
   obtain ⟨B, hB⟩ : ∃ B, W1.heap.size = B := ⟨_, rfl⟩
   rw [hB] at xp hFB ⊢
   clear hB
   go_cut [21] from 19 to 20 (fun v wx => v = .bool (e.first .named).isSome ∧ Hid (∀ b, e.first .named = some b → boxAt wx B [.pointer (some ⟨b, 0, none⟩)]) ∧ boxAt wx w1.heap.size [.int .i64 c, .int .i64 0, .int .i64 0, .int .i64 pa, .slice none 0 0] ∧ boxAt wx W.heap.size [.int .i64 0, .int .i64 0, .int .i64 0, .int .i64 0, .slice none 0 0] ∧ Gr W wx)
   case first =>
    go_wp2_with fail
    go_at_call 60
    have HC := asTop_named (w := W2) e (HE.out.later hg) B (.pointer none) (xp.cell 0 _ rfl) (xp.mark 0 _ rfl) (HF.out.later hg).type
    rw [HV.out] at HC
    refine HC.mono ?_; clear HC; rintro e' w3 ⟨wa, hb, hm⟩
    replace xr := xr.later hb
    replace xf := xf.later hb
    replace xp := xp.later hb
    have hg3 := hg.trans hb
    skip
    clear hb
    cases hfi : e.first .named with
    |
     none =>
     rw [hfi] at hm
     obtain ⟨rfl, rfl⟩ := hm
     go_wp2_with fail
     go_meet
     case rel => exact ⟨by first | rfl | (rw [hfi]; rfl), fun b h => (by first | cases h | (rw [hfi] at h; cases h)), xf, xr, hg3⟩
    |
     some b =>
     rw [hfi] at hm
     obtain ⟨rfl, hw3⟩ := hm
     have y1 : boxAt w3 B [.pointer (some ⟨b, 0, none⟩)] := by rw [hw3]; exact xp.put 0 _ (by simp)
     have y2 : boxAt w3 w1.heap.size [.int .i64 c, .int .i64 0, .int .i64 0, .int .i64 pa, .slice none 0 0] := by rw [hw3]; exact xf.far _ _ (Nat.ne_of_gt hFB)
     have y3 : boxAt w3 W.heap.size [.int .i64 0, .int .i64 0, .int .i64 0, .int .i64 0, .slice none 0 0] := by rw [hw3]; exact xr.far _ _ (Nat.ne_of_gt (Nat.lt_trans hRF hFB))
     have y4 : Gr W w3 := by rw [hw3]; exact Below.setCell (p := ⟨B, 0, none⟩) hg3 (Nat.le_of_lt (Nat.lt_trans hRF hFB)) _
     skip
     clear hw3 xp xf xr hg3
     go_wp2_with fail
     go_meet
     case rel => exact ⟨by first | rfl | (rw [hfi]; rfl), fun b' h => (by first | (injection h with h; subst h; exact y1) | (rw [hfi] at h; injection h with h; subst h; exact y1)), y2, y3, y4⟩
   case rest
        =>
    clear xp xf xr hg
    obtain ⟨rfl, hbx, xf, xr, hg⟩ := hcut
    go_upto_if 21 with fail
    go_cut [21, 22] from 23 to 27 (fun _ _ wx => ∃ nv : Value, boxAt wx w1.heap.size [.int .i64 c, .int .i64 0, .int .i64 0, .int .i64 pa, nv] ∧ boxAt wx W.heap.size [.int .i64 0, .int .i64 0, .int .i64 0, .int .i64 0, .slice none 0 0] ∧ Gr W wx ∧ wx.ownsRow (w1.heap.size + 1) 9 1 nv ns.length (ns.map vS))
    case first =>
     cases hfi : e.first .named with
     |
      none =>
      have hns0 : ns = [] := by have h := HN.out; unfold NamesOf at h; rw [hfi] at h; exact h
      rw [show (none : Option Nat).isSome = false from rfl]
      go_wp2_with fail
      go_meet
      case rel => exact ⟨.slice none 0 0, xf, xr, hg, by rw [hns0]; exact World.ownsRow_nil _ _ _ _⟩
     |
      some b =>
      rw [show (some b : Option Nat).isSome = true from rfl]
      have xp := hbx.out b hfi
      have hn0 := HN.out
      unfold NamesOf at hn0
      rw [hfi] at hn0
      obtain ⟨x, hc0, hsl, hbd⟩ := hn0
      have hcb := hg.cell hc0
      have hbl : b < wc.heap.size := World.block_lt_of_cell? _ _ hcb
      have HCL := Lib.hid (clone_any x ns wc (hsl.later hg) hbd)
      have hlF : w1.heap.size + 1 ≤ wc.heap.size := xf.lt (by simp)
      clear hc0 hsl
      have c_p0 := xp.cell 0 _ rfl
      have m_p0 := xp.mark 0 _ rfl
      have l_p := xp.lt (Nat.succ_pos _)
      go_wp2_with fail
      go_at_call 61
      refine (HCL.out).mono ?_; rintro e' w5 ⟨nv, rfl, hnv, hb⟩
      replace hnv := owns_mono1 hnv hlF
      replace xf := xf.later hb
      replace xr := xr.later hb
      replace hg := hg.trans hb
      clear hb
      obtain ⟨c_f0, c_f1, c_f2, c_f3, c_f4, m_f0, m_f1, m_f2, m_f3, m_f4, l_f⟩ := unb5 xf
      obtain ⟨p1, c1, hp1⟩ := (Sl.of_owns hnv).len
      have HNV := Lib.hid hnv
      clear hnv
      subst hp1
      go_wp2_with fail
      go_meet
      case rel => exact ⟨_, xf.put 4 _ (by simp), xr.far _ _ (Nat.ne_of_gt hRF), Below.setCell (p := ⟨w1.heap.size, 4, none⟩) hg (Nat.le_of_lt hRF) _, owns_kp1 HNV.out (b := w1.heap.size) (Nat.lt_succ_self _) 4 _⟩
    case rest
         =>
     clear hbx xf xr hg
     obtain ⟨nv, xf, xr, hg, hnv⟩ := hcut
     obtain ⟨W1, hW1⟩ : ∃ W1, W1 = wc := ⟨_, rfl⟩
     subst hW1
     go_upto_region 9 with fail
     refine name_world (fun W2 hW => ?_)
     have hb : Gr W1 W2 := Gr.of_alloc hW
     have xp : boxAt W2 W1.heap.size [.pointer none] := boxAt.new _ _ hW
     have hFB : w1.heap.size < W1.heap.size := xf.lt (by simp)
     clear hW
     replace xf := xf.later hb
     replace xr := xr.later hb
     replace hg := hg.trans hb
     have hgb : ∀ g, nv.ownBlock = some g → g < W1.heap.size := fun g h => (World.ownsRow.lt hnv g h).2
     replace hnv := owns_later hnv hb
     clear hb
     obtain ⟨B, hB⟩ : ∃ B, W1.heap.size = B := ⟨_, rfl⟩
     rw [hB] at xp hFB ⊢
     rw [hB] at hgb
     clear hB
     go_cut [30] from 28 to 29 (fun v wx => v = .bool (e.first .ruled).isSome ∧ Hid (∀ b, e.first .ruled = some b → boxAt wx B [.pointer (some ⟨b, 0, none⟩)]) ∧ boxAt wx w1.heap.size [.int .i64 c, .int .i64 0, .int .i64 0, .int .i64 pa, nv] ∧ boxAt wx W.heap.size [.int .i64 0, .int .i64 0, .int .i64 0, .int .i64 0, .slice none 0 0] ∧ Gr W wx ∧ wx.ownsRow (w1.heap.size + 1) 9 1 nv ns.length (ns.map vS))
     case first =>
      go_wp2_with fail
      go_at_call 60
      have HC := asTop_ruled (w := W2) e (HE.out.later hg) B (.pointer none) (xp.cell 0 _ rfl) (xp.mark 0 _ rfl) (HF.out.later hg).type
      rw [HV.out] at HC
      refine HC.mono ?_; clear HC; rintro e' w3 ⟨wa, hb, hm⟩
      replace xr := xr.later hb
      replace xf := xf.later hb
      replace xp := xp.later hb
      have hg3 := hg.trans hb
      have hnv3 := owns_later hnv hb
      clear hb
      cases hfi : e.first .ruled with
      |
       none =>
       rw [hfi] at hm
       obtain ⟨rfl, rfl⟩ := hm
       go_wp2_with fail
       go_meet
       case rel => exact ⟨by first | rfl | (rw [hfi]; rfl), fun b h => (by first | cases h | (rw [hfi] at h; cases h)), xf, xr, hg3, hnv3⟩
      |
       some b =>
       rw [hfi] at hm
       obtain ⟨rfl, hw3⟩ := hm
       have y1 : boxAt w3 B [.pointer (some ⟨b, 0, none⟩)] := by rw [hw3]; exact xp.put 0 _ (by simp)
       have y2 : boxAt w3 w1.heap.size [.int .i64 c, .int .i64 0, .int .i64 0, .int .i64 pa, nv] := by rw [hw3]; exact xf.far _ _ (Nat.ne_of_gt hFB)
       have y3 : boxAt w3 W.heap.size [.int .i64 0, .int .i64 0, .int .i64 0, .int .i64 0, .slice none 0 0] := by rw [hw3]; exact xr.far _ _ (Nat.ne_of_gt (Nat.lt_trans hRF hFB))
       have y4 : Gr W w3 := by rw [hw3]; exact Below.setCell (p := ⟨B, 0, none⟩) hg3 (Nat.le_of_lt (Nat.lt_trans hRF hFB)) _
       have y5 : w3.ownsRow (w1.heap.size + 1) 9 1 nv ns.length (ns.map vS) := by
        rw [hw3]
        exact owns_heap hnv3 (fun g h => Below.heap_setCell wa ⟨B, 0, none⟩ _ g (by have := hgb g h; show g ≠ B; omega))
       clear hw3 xp xf xr hg3
       go_wp2_with fail
       go_meet
       case rel => exact ⟨by first | rfl | (rw [hfi]; rfl), fun b' h => (by first | (injection h with h; subst h; exact y1) | (rw [hfi] at h; injection h with h; subst h; exact y1)), y2, y3, y4, y5⟩
     case rest
          =>
      clear xp xf xr hg hnv hgb
      obtain ⟨rfl, hbx, xf, xr, hg, hnv⟩ := hcut
      go_upto_if 30 with fail
      go_cut [30, 31] from 32 to 35 (fun _ _ wx => boxAt wx w1.heap.size [.int .i64 c, .int .i64 0, .int .i64 pr, .int .i64 pa, nv] ∧ boxAt wx W.heap.size [.int .i64 0, .int .i64 0, .int .i64 0, .int .i64 0, .slice none 0 0] ∧ Gr W wx ∧ wx.ownsRow (w1.heap.size + 1) 9 1 nv ns.length (ns.map vS))
      case first =>
       cases hfi : e.first .ruled with
       |
        none =>
        have hp : pr = 0 := by rw [← HSAY.out.2.1]; exact Er.first_none hfi
        rw [show (none : Option Nat).isSome = false from rfl]
        go_wp2_with fail
        go_meet
        case rel => exact ⟨by rw [hp]; exact xf, xr, hg, hnv⟩
       |
        some b =>
        rw [show (some b : Option Nat).isSome = true from rfl]
        have xp := hbx.out b hfi
        have hc0 := Er.first_some (k := .ruled) (by decide) HE.out HOK.out hfi
        rw [HSAY.out.2.1] at hc0
        have hcb := hg.cell hc0
        have hbl : b < wc.heap.size := World.block_lt_of_cell? _ _ hcb
        clear hc0
        obtain ⟨c_f0, c_f1, c_f2, c_f3, c_f4, m_f0, m_f1, m_f2, m_f3, m_f4, l_f⟩ := unb5 xf
        have c_p0 := xp.cell 0 _ rfl
        have m_p0 := xp.mark 0 _ rfl
        have l_p := xp.lt (Nat.succ_pos _)
        go_wp2_with fail
        go_meet
        case rel => exact ⟨xf.put 2 _ (by simp), xr.far _ _ (Nat.ne_of_gt hRF), Below.setCell (p := ⟨w1.heap.size, 2, none⟩) hg (Nat.le_of_lt hRF) _, owns_kp1 hnv (b := w1.heap.size) (Nat.lt_succ_self _) 2 _⟩
      case rest =>
       clear hbx xf xr hg hnv
       obtain ⟨xf, xr, hg, hnv⟩ := hcut
       obtain ⟨W1, hW1⟩ : ∃ W1, W1 = wc := ⟨_, rfl⟩
       subst hW1
       go_upto_region 12 with fail
       refine name_world (fun W2 hW => ?_)
       have hb : Gr W1 W2 := Gr.of_alloc hW
       have xp : boxAt W2 W1.heap.size [.pointer none] := boxAt.new _ _ hW
       have hFB : w1.heap.size < W1.heap.size := xf.lt (by simp)
       clear hW
       replace xf := xf.later hb
       replace xr := xr.later hb
       replace hg := hg.trans hb
       have hgb : ∀ g, nv.ownBlock = some g → g < W1.heap.size := fun g h => (World.ownsRow.lt hnv g h).2
       replace hnv := owns_later hnv hb
       clear hb
       obtain ⟨B, hB⟩ : ∃ B, W1.heap.size = B := ⟨_, rfl⟩
       rw [hB] at xp hFB ⊢
       rw [hB] at hgb
       clear hB
       go_cut [38] from 36 to 37 (fun v wx => v = .bool (e.first .staged).isSome ∧ Hid (∀ b, e.first .staged = some b → boxAt wx B [.pointer (some ⟨b, 0, none⟩)]) ∧ boxAt wx w1.heap.size [.int .i64 c, .int .i64 0, .int .i64 pr, .int .i64 pa, nv] ∧ boxAt wx W.heap.size [.int .i64 0, .int .i64 0, .int .i64 0, .int .i64 0, .slice none 0 0] ∧ Gr W wx ∧ wx.ownsRow (w1.heap.size + 1) 9 1 nv ns.length (ns.map vS))
       case first =>
        go_wp2_with fail
        go_at_call 60
        have HC := asTop_staged (w := W2) e (HE.out.later hg) B (.pointer none) (xp.cell 0 _ rfl) (xp.mark 0 _ rfl) (HF.out.later hg).type
        rw [HV.out] at HC
        refine HC.mono ?_; clear HC; rintro e' w3 ⟨wa, hb, hm⟩
        replace xr := xr.later hb
        replace xf := xf.later hb
        replace xp := xp.later hb
        have hg3 := hg.trans hb
        have hnv3 := owns_later hnv hb
        clear hb
        cases hfi : e.first .staged with
        |
         none =>
         rw [hfi] at hm
         obtain ⟨rfl, rfl⟩ := hm
         go_wp2_with fail
         go_meet
         case rel => exact ⟨by first | rfl | (rw [hfi]; rfl), fun b h => (by first | cases h | (rw [hfi] at h; cases h)), xf, xr, hg3, hnv3⟩
        |
         some b =>
         rw [hfi] at hm
         obtain ⟨rfl, hw3⟩ := hm
         have y1 : boxAt w3 B [.pointer (some ⟨b, 0, none⟩)] := by rw [hw3]; exact xp.put 0 _ (by simp)
         have y2 : boxAt w3 w1.heap.size [.int .i64 c, .int .i64 0, .int .i64 pr, .int .i64 pa, nv] := by rw [hw3]; exact xf.far _ _ (Nat.ne_of_gt hFB)
         have y3 : boxAt w3 W.heap.size [.int .i64 0, .int .i64 0, .int .i64 0, .int .i64 0, .slice none 0 0] := by rw [hw3]; exact xr.far _ _ (Nat.ne_of_gt (Nat.lt_trans hRF hFB))
         have y4 : Gr W w3 := by rw [hw3]; exact Below.setCell (p := ⟨B, 0, none⟩) hg3 (Nat.le_of_lt (Nat.lt_trans hRF hFB)) _
         have y5 : w3.ownsRow (w1.heap.size + 1) 9 1 nv ns.length (ns.map vS) := by
          rw [hw3]
          exact owns_heap hnv3 (fun g h => Below.heap_setCell wa ⟨B, 0, none⟩ _ g (by have := hgb g h; show g ≠ B; omega))
         clear hw3 xp xf xr hg3
         go_wp2_with fail
         go_meet
         case rel => exact ⟨by first | rfl | (rw [hfi]; rfl), fun b' h => (by first | (injection h with h; subst h; exact y1) | (rw [hfi] at h; injection h with h; subst h; exact y1)), y2, y3, y4, y5⟩
       case rest =>
        clear xp xf xr hg hnv hgb
        obtain ⟨rfl, hbx, xf, xr, hg, hnv⟩ := hcut
        go_upto_if 38 with fail
        go_cut [38, 39] from 40 to 43 (fun _ _ wx => boxAt wx w1.heap.size [.int .i64 c, .int .i64 ps, .int .i64 pr, .int .i64 pa, nv] ∧ boxAt wx W.heap.size [.int .i64 0, .int .i64 0, .int .i64 0, .int .i64 0, .slice none 0 0] ∧ Gr W wx ∧ wx.ownsRow (w1.heap.size + 1) 9 1 nv ns.length (ns.map vS))
        case first =>
         cases hfi : e.first .staged with
         |
          none =>
          have hp : ps = 0 := by rw [← HSAY.out.2.2]; exact Er.first_none hfi
          rw [show (none : Option Nat).isSome = false from rfl]
          go_wp2_with fail
          go_meet
          case rel => exact ⟨by rw [hp]; exact xf, xr, hg, hnv⟩
         |
          some b =>
          rw [show (some b : Option Nat).isSome = true from rfl]
          have xp := hbx.out b hfi
          have hc0 := Er.first_some (k := .staged) (by decide) HE.out HOK.out hfi
          rw [HSAY.out.2.2] at hc0
          have hcb := hg.cell hc0
          have hbl : b < wc.heap.size := World.block_lt_of_cell? _ _ hcb
          clear hc0
          obtain ⟨c_f0, c_f1, c_f2, c_f3, c_f4, m_f0, m_f1, m_f2, m_f3, m_f4, l_f⟩ := unb5 xf
          have c_p0 := xp.cell 0 _ rfl
          have m_p0 := xp.mark 0 _ rfl
          have l_p := xp.lt (Nat.succ_pos _)
          go_wp2_with fail
          go_meet
          case rel => exact ⟨xf.put 1 _ (by simp), xr.far _ _ (Nat.ne_of_gt hRF), Below.setCell (p := ⟨w1.heap.size, 1, none⟩) hg (Nat.le_of_lt hRF) _, owns_kp1 hnv (b := w1.heap.size) (Nat.lt_succ_self _) 1 _⟩
        case rest =>
         clear hbx xf xr hg hnv
         obtain ⟨xf, xr, hg, hnv⟩ := hcut
         obtain ⟨p9, c9, hp9⟩ := (Sl.of_owns hnv).len
         subst hp9
         obtain ⟨c_f0, c_f1, c_f2, c_f3, c_f4, m_f0, m_f1, m_f2, m_f3, m_f4, l_f⟩ := unb5 xf
         obtain ⟨c_r0, c_r1, c_r2, c_r3, c_r4, m_r0, m_r1, m_r2, m_r3, m_r4, l_r⟩ := unb5 xr
         go_wp2_with fail
         refine name_body (fun We hW => ?_)
         have yr : boxAt We W.heap.size [.int .i64 c, .int .i64 ps, .int .i64 pr, .int .i64 pa, .slice p9 ns.length c9] := by rw [hW]; exact ((((xr.put 0 _ (by simp)).put 1 _ (by simp)).put 2 _ (by simp)).put 3 _ (by simp)).put 4 _ (by simp)
         have hge : Gr W We := by rw [hW]; exact ((((Below.setCell (p := ⟨W.heap.size, 0, none⟩) hg (Nat.le_refl _) _).setCell (p := ⟨W.heap.size, 1, none⟩) (Nat.le_refl _) _).setCell (p := ⟨W.heap.size, 2, none⟩) (Nat.le_refl _) _).setCell (p := ⟨W.heap.size, 3, none⟩) (Nat.le_refl _) _).setCell (p := ⟨W.heap.size, 4, none⟩) (Nat.le_refl _) _
         have hl : W.heap.size < w1.heap.size + 1 := by omega
         have hne : We.ownsRow W.heap.size 9 1 (.slice p9 ns.length c9) ns.length (ns.map vS) := by
          rw [hW]
          exact owns_mono1 (owns_kp1 (owns_kp1 (owns_kp1 (owns_kp1 (owns_kp1 hnv hl 0 _) hl 1 _) hl 2 _) hl 3 _) hl 4 _) (Nat.le_of_lt hl)
         clear hW
         exact bodyPost_ret (v := .agg #[.int .i64 c, .int .i64 ps, .int .i64 pr, .int .i64 pa, .slice p9 ns.length c9]) (by simp [results, Tryz.results28, go_sem, yr.cell 0 _ rfl, yr.cell 1 _ rfl, yr.cell 2 _ rfl, yr.cell 3 _ rfl, yr.cell 4 _ rfl]) rfl ⟨hge, _, rfl, hne⟩
end Go.Proofs.YtkkopdmemjncdaaGreatDoor
namespace Go.Proofs.YtkkopdmemjncdaaGreatDoor
open Go Go.RowKit
end Go.Proofs.YtkkopdmemjncdaaGreatDoor
namespace Go.Proofs.YtkkopdmemjncdaaGreatDoor
open Go Go.RowKit
structure WrP where
 kind : Int
 n : Int
 names : List (List UInt8)
instance : Inhabited WrP := ⟨⟨0, 0, []⟩⟩
instance : DecidableEq Wr := fun a b => by cases a <;> cases b <;> first | exact .isTrue rfl | exact .isFalse (by intro h; cases h)
def kindOf (k : Int) : Option Wr := if k = 1 then some .placed else if k = 2 then some .named else if k = 3 then some .ruled else if k = 4 then some .staged else none
def sayP (k : Wr) (l : List WrP) : Int := l.foldl (fun acc x => if kindOf x.kind = some k then x.n else acc) 0
def namesP (l : List WrP) : List (List UInt8) := l.foldl (fun acc x => if kindOf x.kind = some .named then x.names else acc) []
theorem sayP_snoc (k : Wr) (l : List WrP) (x : WrP) : sayP k (l ++ [x]) = if kindOf x.kind = some k then x.n else sayP k l := by unfold sayP; rw [List.foldl_append]; rfl
theorem namesP_snoc (l : List WrP) (x : WrP) : namesP (l ++ [x]) = if kindOf x.kind = some .named then x.names else namesP l := by unfold namesP; rw [List.foldl_append]; rfl
structure Chain (W : World) (s : Addr) (l : List WrP) (e : Er) : Prop where
 base : e.base = s
 inn : e.In W
 ok : e.ok
 say : ∀ k, k ≠ .named → e.say k = sayP k l
 names : NamesOf W e (namesP l)
theorem Chain.leaf {W : World} {s : Addr} (h : (Er.leaf s).In W) : Chain W s [] (.leaf s) := ⟨rfl, h, trivial, fun _ _ => rfl, rfl⟩
theorem Chain.later {W W' : World} {s : Addr} {l : List WrP} {e : Er} (h : Chain W s l e) (hG : Gr W W') : Chain W' s l e := ⟨h.base, h.inn.later hG, h.ok, h.say, h.names.later hG⟩
theorem Chain.skip {W : World} {s : Addr} {l : List WrP} {e : Er} {x : WrP} (h : Chain W s l e) (hk : kindOf x.kind = none) : Chain W s (l ++ [x]) e := by
 refine ⟨h.base, h.inn, h.ok, fun k hn => ?_, ?_⟩
 · rw [sayP_snoc, hk, if_neg (by simp)]; exact h.say k hn
 · rw [namesP_snoc, hk, if_neg (by simp)]; exact h.names
theorem Chain.num {W W' : World} {s : Addr} {l : List WrP} {e : Er} {x : WrP} {k : Wr} {b : Nat} (h : Chain W s l e) (hn : k ≠ .named) (hk : kindOf x.kind = some k) (hG : Gr W W') (hb : boxAt W' b [e.val, .int .i64 x.n]) :
  Chain W' s (l ++ [x]) (.wrap k b (.int .i64 x.n) e) := by
 refine ⟨h.base, ⟨hb.cell 0 _ rfl, hb.cell 1 _ rfl, h.inn.later hG⟩, ⟨fun _ => ⟨_, rfl⟩, h.ok⟩, fun k' hn' => ?_, ?_⟩
 ·
  rw [sayP_snoc, hk]
  unfold Er.say
  by_cases hkk : k = k'
  · subst hkk; rw [if_pos rfl, if_pos rfl]
  · rw [if_neg hkk, if_neg (by intro h; injection h with h; exact hkk h)]; exact h.say k' hn'
 ·
  rw [namesP_snoc, hk, if_neg (by intro h; injection h with h; exact hn h)]
  have := h.names.later hG
  unfold NamesOf at this ⊢
  unfold Er.first
  rw [if_neg hn]; exact this
end Go.Proofs.YtkkopdmemjncdaaGreatDoor
namespace Go.Proofs.YtkkopdmemjncdaaGreatDoor
open Go Go.RowKit
def joinN (ns : List (List UInt8)) : List UInt8 := Lib.join ns [44, 32]
def headW : Wr → List UInt8
 | .placed => [97, 116, 32]
 | .named => []
 | .ruled => [114, 117, 108, 101, 32]
 | .staged => [115, 116, 97, 103, 101, 32]
def sayW (x : WrP) : List UInt8 := match kindOf x.kind with
 | none => []
 | some .named => joinN x.names ++ [58, 32]
 | some k => headW k ++ (Lib.itoa x.n ++ [58, 32])
def textP (s : List UInt8) (l : List WrP) : List UInt8 := l.foldl (fun a x => sayW x ++ a) s
theorem textP_snoc (s : List UInt8) (l : List WrP) (x : WrP) : textP s (l ++ [x]) = sayW x ++ textP s l := by unfold textP; rw [List.foldl_append]; rfl
def Says (W : World) : Er → List UInt8 → Prop
 | .leaf a, t => W.cell? a = some (.string (st t))
 | .wrap k _ x e, t => ∃ t', Says W e t' ∧ ((k = .named ∧ ∃ ns : List (List UInt8), Sl W x 1 ns.length (ns.map vS) ∧ t = joinN ns ++ ([58, 32] ++ t')) ∨ (k ≠ .named ∧ ∃ n : Int, (-9223372036854775808 ≤ n ∧ n ≤ 9223372036854775807) ∧ x = .int .i64 n ∧ t = headW k ++ (Lib.itoa n ++ ([58, 32] ++ t'))))
theorem Says.later {W W' : World} (hG : Gr W W') : ∀ {e : Er} {t : List UInt8}, Says W e t → Says W' e t
 | .leaf _, _, h => hG.cell h
 |
  .wrap _ _ _ _, _, ⟨t', h1, h2⟩ => ⟨t', h1.later hG, by
  rcases h2 with ⟨hk, ns, h3, h4⟩ | h3
  · exact .inl ⟨hk, ns, h3.later hG, h4⟩
  · exact .inr h3⟩
structure Ch (W : World) (s : Addr) (t : List UInt8) (l : List WrP) (e : Er) : Prop where
 chain : Chain W s l e
 says : Says W e (textP t l)
theorem Ch.later {W W' : World} {s : Addr} {t : List UInt8} {l : List WrP} {e : Er} (h : Ch W s t l e) (hG : Gr W W') : Ch W' s t l e := ⟨h.chain.later hG, h.says.later hG⟩
theorem Ch.leaf {W : World} {s : Addr} {t : List UInt8} (h : (Er.leaf s).In W) (ht : W.cell? s = some (.string (st t))) : Ch W s t [] (.leaf s) := ⟨Chain.leaf h, ht⟩
theorem Ch.skip {W : World} {s : Addr} {t : List UInt8} {l : List WrP} {e : Er} {x : WrP} (h : Ch W s t l e) (hk : kindOf x.kind = none) : Ch W s t (l ++ [x]) e :=
 ⟨h.chain.skip hk, by rw [textP_snoc]; unfold sayW; rw [hk]; exact h.says⟩
theorem Ch.num {W W' : World} {s : Addr} {t : List UInt8} {l : List WrP} {e : Er} {x : WrP} {k : Wr} {b : Nat} (h : Ch W s t l e) (hn : k ≠ .named) (hk : kindOf x.kind = some k) (hi : -9223372036854775808 ≤ x.n ∧ x.n ≤ 9223372036854775807) (hG : Gr W W') (hb : boxAt W' b [e.val, .int .i64 x.n]) :
  Ch W' s t (l ++ [x]) (.wrap k b (.int .i64 x.n) e) := by
 refine ⟨h.chain.num hn hk hG hb, ?_⟩
 refine ⟨_, h.says.later hG, .inr ⟨hn, x.n, hi, rfl, ?_⟩⟩
 rw [textP_snoc]; unfold sayW; rw [hk]
 cases k
 · simp
 · exact absurd rfl hn
 · simp
 · simp
end Go.Proofs.YtkkopdmemjncdaaGreatDoor
namespace Go.Proofs.YtkkopdmemjncdaaGreatDoor
open Go Go.RowKit
set_option maxRecDepth 100000 in
theorem placeF_any (t : TypeId) (x : Value) (i : Int) (w : World) : Calls Tryz.prog 107 #[.iface t x, .int .i64 i] w fun e' w' => e' = .returned (.iface 114 (.pointer (some ⟨w.heap.size, 0, none⟩))) ∧ boxAt w' w.heap.size [.iface t x, .int .i64 i] ∧ Gr w w' := by
 go_enter Tryz.func107, Tryz.ntmps107
 go_wp2_with fail
 go_ret
 exact ⟨rfl, boxAt.new _ _ rfl, Gr.alloc _ _⟩
set_option maxRecDepth 100000 in
set_option maxHeartbeats 1000000 in
theorem named_any (t : TypeId) (x v : Value) (ns : List (List UInt8)) (w : World) (h : Sl w v 1 ns.length (ns.map vS)) (hb : ns.length * 16 ≤ 140737488355328) :
  Calls Tryz.prog 84 #[.iface t x, v] w fun e' w' => ∃ (b : Nat) (nv : Value), e' = .returned (.iface 119 (.pointer (some ⟨b, 0, none⟩))) ∧ w.heap.size ≤ b ∧ boxAt w' b [.iface t x, nv] ∧ w'.ownsRow w.heap.size 9 1 nv ns.length (ns.map vS) ∧ Gr w w' := by
 have HC := Lib.hid (clone_any v ns w h hb)
 obtain ⟨p, c, rfl⟩ := h.len
 clear h hb
 go_enter Tryz.func84, Tryz.ntmps84
 go_wp2_with fail
 go_at_call 61
 refine HC.out.mono ?_; rintro e w1 ⟨nv, rfl, hnv, hg⟩
 obtain ⟨p1, c1, hp1⟩ := (Sl.of_owns hnv).len
 have HNV := Lib.hid hnv
 clear hnv
 subst hp1
 go_wp2_with fail
 go_ret
 exact ⟨_, _, rfl, hg.size, boxAt.new _ _ rfl, owns_later HNV.out (Gr.alloc _ _), hg.trans (Gr.alloc _ _)⟩
end Go.Proofs.YtkkopdmemjncdaaGreatDoor
