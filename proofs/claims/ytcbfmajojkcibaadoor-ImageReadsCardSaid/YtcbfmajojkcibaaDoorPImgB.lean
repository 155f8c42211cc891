/- image, bolterref17: numbers and texts laid behind bytes. No condition but bounds of lengths. -/
import Derived.Test.YtcbfmajojkcibaaDoorPImgA
import Derived.Lib.AppendStr
import Derived.OwnWalk
import Derived.Lib.Bytes
import Derived.Maps.AppendAt
namespace Go.Proofs.YtcbfmajojkcibaaDoor
open Go Go.RowKit

/-- Bytes of the call's own. -/
def OwnB (w : World) (B : Nat) (v : Value) (l : List UInt8) : Prop := w.ownsRow B 5 1 v l.length (l.map vB)
set_option maxRecDepth 100000 in
theorem info_byte : (Tryd.prog.info? 5).map (fun i => (i.zero, i.size, i.bytes)) = some (some (.int .u8 0), 1, 1) := by kernel_rfl
theorem OwnB.snoc {w : World} {B n : Nat} {v : Value} {l : List UInt8} {c : UInt8} (h : w.ownsRow B 5 1 v n (l.map vB ++ [.int .u8 (c.toNat : Int)])) (hn : n = l.length + 1) : OwnB w B v (l ++ [c]) := by
  subst hn
  unfold OwnB
  rw [List.length_append, List.map_append]; exact h
theorem or128 (x : Nat) : bits .or .u8 (((x % 256 : Nat) : Int)) 128 = ((128 + x % 128 : Nat) : Int) := by
  have h : ∀ r : Fin 256, bits .or .u8 (((r.val : Nat) : Int)) 128 = ((128 + r.val % 128 : Nat) : Int) := by decide +kernel
  have := h ⟨x % 256, Nat.mod_lt _ (by omega)⟩
  rw [this]; simp only; congr 2; omega

set_option maxRecDepth 100000 in
set_option maxHeartbeats 4000000 in
theorem layI_any (B n : Nat) (v : Value) (l : List UInt8) (w : World) (h : OwnB w B v l) (hB : B ≤ w.heap.size) (hn : n < 4611686018427387904) (hl : l.length + 20 ≤ 70368744177664) :
    Calls Tryd.prog 33 #[v, .int .i64 (n : Int)] w fun e w' => ∃ v', e = .returned v' ∧ OwnB w' B v' (l ++ varB n) ∧ Below B w w' := by
  obtain ⟨i0, hi, hz0, hz1, hz2⟩ := info_parts info_byte
  have hk : (varB n).length ≤ 10 := by
    have aux : ∀ (k m : Nat), m < 128 ^ k → 0 < k → (varB m).length ≤ k := fun k => by
      induction k with
      | zero => intro m _ h; omega
      | succ k ih =>
        intro m hm _
        by_cases h : m < 128
        · rw [varB_small h]; simp
        · rw [varB_big h]
          rw [Nat.pow_succ] at hm
          rcases Nat.eq_zero_or_pos k with hk | hk
          · subst hk; omega
          · have := ih (m / 128) (by omega) hk
            simp only [List.length_cons]; omega
    exact aux 10 n (by omega) (by omega)
  have H := Lib.hid h
  obtain ⟨p, c, rfl⟩ := (Sl.of_owns h).len
  clear h
  go_enter Tryd.func33, Tryd.ntmps33
  go_wp2_with fail
  go_loopw [0, 5] (fun b x wr => ∃ (m : Nat) (l' : List UInt8), m ≤ n ∧ x = .int .u64 (m : Int) ∧ Hid (OwnB wr B b l') ∧ Hid (l' ++ varB m = l ++ varB n) ∧ Below B w wr ∧ (∃ p' c', b = .slice p' l'.length c')) (fun _ x _ => (intOf x).toNat)
  case atStart => exact ⟨n, l, Nat.le_refl _, rfl, H, Lib.hid rfl, Below.refl _ _, p, c, rfl⟩
  case round =>
    obtain ⟨m, l', hm, rfl, HO, HE, hb, p', c', rfl⟩ := hrel
    have hll : l'.length + (varB m).length = l.length + (varB n).length := by rw [← List.length_append, ← List.length_append, HE.out]
    have hBw := Nat.le_trans hB hb.size
    by_cases hm1 : 128 ≤ (m : Int)
    · obtain ⟨d, hd⟩ : ∃ d : UInt8, d = UInt8.ofNat (128 + m % 128) := ⟨_, rfl⟩
      have hdn : d.toNat = 128 + m % 128 := by rw [hd, UInt8.toNat_ofNat_of_lt' (by show _ < 256; omega)]
      have hor : bits .or .u8 ((m : Int) % 256) 128 = (d.toNat : Int) := by
        have := or128 m
        rw [show (((m % 256 : Nat)) : Int) = (m : Int) % 256 by omega] at this
        rw [this, hdn]
      have hv : varB m = d :: varB (m / 128) := by rw [varB_big (by omega), hd]
      have HV := Lib.hid hv
      have HD := Lib.hid hd
      have hvl : (varB m).length = (varB (m / 128)).length + 1 := by rw [hv]; rfl
      have hvp := varB_pos (m / 128)
      clear hv hd hdn
      go_wp2_with (at_builtin; refine wpList_append_own _ rfl (.tmp 12) (.tmp 16) 32 rfl B 5 i0 (.int .u8 0) 1 1 Tryd.underlying32 hi hz0 hz1 hz2 rfl (by decide) _ _ _ rfl (World.ownsRow.alloc HO.out _) ⟨wr.heap.size, 0, none⟩ 1 1 [.int .u8 (d.toNat : Int)] rfl rfl ?c1 ?c2 ?c3 ?c4 ?c5 ?_)
      case c1 => exact new_cells _ [.int .u8 (d.toNat : Int)] _
      case c2 => first | rfl | (intro u hu; simp at hu; subst hu; rfl)
      case c3 => unfold maxLen; omega
      case c4 => omega
      case c5 => first | omega | (simp; omega)
      intro v' w2 hown' hgrow _
      have ho2 : OwnB w2 B v' (l' ++ [d]) := OwnB.snoc hown' rfl
      have HO2 := Lib.hid ho2
      obtain ⟨p2, c2, rfl⟩ := (Sl.of_owns ho2).len
      have hb2 : Below B w w2 := (hb.alloc hBw _).grown hgrow (by simp; omega) (fun k hk => (World.ownsRow.lt HO.out k hk).1)
      clear ho2 hown' hgrow
      go_wp2_with fail
      go_roundw
      case rel => exact ⟨m / 128, l' ++ [d], by omega, by first | rfl | (congr 1; done), HO2, Lib.hid (by rw [List.append_assoc, ← HE.out, HV.out]; rfl), hb2, p2, c2, rfl⟩
      case measure => simp [intOf]; omega
    · obtain ⟨d, hd⟩ : ∃ d : UInt8, d = UInt8.ofNat m := ⟨_, rfl⟩
      have hdn : d.toNat = m := by rw [hd, UInt8.toNat_ofNat_of_lt' (by show _ < 256; omega)]
      have hv : varB m = [d] := by rw [varB_small (by omega), hd]
      have HV := Lib.hid hv
      have hvl : (varB m).length = 1 := by rw [hv]; rfl
      have HDN := Lib.hid hdn
      clear hv hd hdn
      go_wp2_with (at_builtin; refine wpList_append_own _ rfl (.tmp 18) (.tmp 21) 32 rfl B 5 i0 (.int .u8 0) 1 1 Tryd.underlying32 hi hz0 hz1 hz2 rfl (by decide) _ _ _ rfl (World.ownsRow.alloc HO.out _) ⟨wr.heap.size, 0, none⟩ 1 1 [.int .u8 (m : Int)] rfl rfl ?c1 ?c2 ?c3 ?c4 ?c5 ?_)
      case c2 => first | rfl | (intro u hu; simp at hu; subst hu; rfl)
      case c3 => unfold maxLen; omega
      case c4 => omega
      case c5 => first | omega | (simp; omega)
      intro v' w2 hown' hgrow _
      have ho2 : OwnB w2 B v' (l' ++ [d]) := OwnB.snoc (by rw [HDN.out]; exact hown') rfl
      have HO2 := Lib.hid ho2
      obtain ⟨p2, c2, rfl⟩ := (Sl.of_owns ho2).len
      have hb2 : Below B w w2 := (hb.alloc hBw _).grown hgrow (by simp; omega) (fun k hk => (World.ownsRow.lt HO.out k hk).1)
      clear ho2 hown' hgrow
      go_wp2_with fail
      go_ret
      exact ⟨_, rfl, by rw [← HE.out, HV.out]; exact HO2.out, hb2⟩

/-- All blocks but a row's are as they were. -/
def KpB (v : Value) (w w' : World) : Prop := ∀ k, k < w.heap.size → v.ownBlock ≠ some k → w'.heap[k]? = w.heap[k]?
/-- A row lies where another one did, or in a new block. -/
def OwnAt (v v' : Value) (w : World) : Prop := v'.ownBlock = v.ownBlock ∨ ∃ g, v'.ownBlock = some g ∧ w.heap.size ≤ g
theorem KpB.step {v b : Value} {w wr w2 : World} {o : Obj} (h : KpB v w wr) (hat : OwnAt v b w) (hs : w.heap.size ≤ wr.heap.size) (hg : (wr.alloc o).grownBy w2 b.ownBlock) : KpB v w w2 := fun k hk hne => by
  rw [← h k hk hne]
  have h1 : (wr.alloc o).heap[k]? = wr.heap[k]? := heap_alloc_old wr o (by omega)
  rw [← h1]
  refine hg.block k ?_ (fun e => ?_)
  · show k < (wr.heap.push o).size
    rw [Array.size_push]; omega
  · rcases hat with h2 | ⟨g, h2, h3⟩
    · rw [h2] at e; exact hne e.symm
    · rw [h2] at e; injection e with e; omega
theorem OwnAt.step {v b v' : Value} {w wr : World} (hat : OwnAt v b w) (hs : w.heap.size ≤ wr.heap.size) (h : v'.ownBlock = b.ownBlock ∨ v'.ownBlock = some (wr.heap.size + 1)) : OwnAt v v' w := by
  rcases h with h | h
  · rcases hat with h2 | ⟨g, h2, h3⟩
    · exact .inl (h.trans h2)
    · exact .inr ⟨g, h.trans h2, h3⟩
  · exact .inr ⟨_, h, by omega⟩
set_option maxRecDepth 100000 in
set_option maxHeartbeats 4000000 in
theorem layK_any (B n : Nat) (v : Value) (l : List UInt8) (w : World) (h : OwnB w B v l) (hB : B ≤ w.heap.size) (hn : n < 4611686018427387904) (hl : l.length + 20 ≤ 70368744177664) :
    Calls Tryd.prog 33 #[v, .int .i64 (n : Int)] w fun e w' => ∃ v', e = .returned v' ∧ OwnB w' B v' (l ++ varB n) ∧ Below B w w' ∧ KpB v w w' ∧ OwnAt v v' w := by
  obtain ⟨i0, hi, hz0, hz1, hz2⟩ := info_parts info_byte
  have hk : (varB n).length ≤ 10 := by
    have aux : ∀ (k m : Nat), m < 128 ^ k → 0 < k → (varB m).length ≤ k := fun k => by
      induction k with
      | zero => intro m _ h; omega
      | succ k ih =>
        intro m hm _
        by_cases h : m < 128
        · rw [varB_small h]; simp
        · rw [varB_big h]
          rw [Nat.pow_succ] at hm
          rcases Nat.eq_zero_or_pos k with hk | hk
          · subst hk; omega
          · have := ih (m / 128) (by omega) hk
            simp only [List.length_cons]; omega
    exact aux 10 n (by omega) (by omega)
  have H := Lib.hid h
  obtain ⟨p, c, rfl⟩ := (Sl.of_owns h).len
  clear h
  go_enter Tryd.func33, Tryd.ntmps33
  go_wp2_with fail
  go_loopw [0, 5] (fun b x wr => ∃ (m : Nat) (l' : List UInt8), m ≤ n ∧ x = .int .u64 (m : Int) ∧ Hid (OwnB wr B b l') ∧ Hid (l' ++ varB m = l ++ varB n) ∧ Below B w wr ∧ (∃ p' c', b = .slice p' l'.length c') ∧ Hid (KpB (.slice p l.length c) w wr) ∧ Hid (OwnAt (.slice p l.length c) b w)) (fun _ x _ => (intOf x).toNat)
  case atStart => exact ⟨n, l, Nat.le_refl _, rfl, H, Lib.hid rfl, Below.refl _ _, ⟨p, c, rfl⟩, Lib.hid (fun _ _ _ => rfl), Lib.hid (.inl rfl)⟩
  case round =>
    obtain ⟨m, l', hm, rfl, HO, HE, hb, ⟨p', c', rfl⟩, HK, HAT⟩ := hrel
    have hll : l'.length + (varB m).length = l.length + (varB n).length := by rw [← List.length_append, ← List.length_append, HE.out]
    have hBw := Nat.le_trans hB hb.size
    by_cases hm1 : 128 ≤ (m : Int)
    · obtain ⟨d, hd⟩ : ∃ d : UInt8, d = UInt8.ofNat (128 + m % 128) := ⟨_, rfl⟩
      have hdn : d.toNat = 128 + m % 128 := by rw [hd, UInt8.toNat_ofNat_of_lt' (by show _ < 256; omega)]
      have hor : bits .or .u8 ((m : Int) % 256) 128 = (d.toNat : Int) := by
        have := or128 m
        rw [show (((m % 256 : Nat)) : Int) = (m : Int) % 256 by omega] at this
        rw [this, hdn]
      have hv : varB m = d :: varB (m / 128) := by rw [varB_big (by omega), hd]
      have HV := Lib.hid hv
      have HD := Lib.hid hd
      have hvl : (varB m).length = (varB (m / 128)).length + 1 := by rw [hv]; rfl
      have hvp := varB_pos (m / 128)
      clear hv hd hdn
      go_wp2_with (at_builtin; refine wpList_append_own_at _ rfl (.tmp 12) (.tmp 16) 32 rfl B 5 i0 (.int .u8 0) 1 1 Tryd.underlying32 hi hz0 hz1 hz2 rfl (by decide) _ _ _ rfl (World.ownsRow.alloc HO.out _) ⟨wr.heap.size, 0, none⟩ 1 1 [.int .u8 (d.toNat : Int)] rfl rfl ?c1 ?c2 ?c3 ?c4 ?c5 ?_)
      case c1 => exact new_cells _ [.int .u8 (d.toNat : Int)] _
      case c2 => first | rfl | (intro u hu; simp at hu; subst hu; rfl)
      case c3 => unfold maxLen; omega
      case c4 => omega
      case c5 => first | omega | (simp; omega)
      intro v' w2 hown' hgrow _ hat
      have HK2 := Lib.hid (KpB.step HK.out HAT.out hb.size hgrow)
      have HAT2 := Lib.hid (OwnAt.step HAT.out hb.size hat)
      have ho2 : OwnB w2 B v' (l' ++ [d]) := OwnB.snoc hown' rfl
      have HO2 := Lib.hid ho2
      obtain ⟨p2, c2, rfl⟩ := (Sl.of_owns ho2).len
      have hb2 : Below B w w2 := (hb.alloc hBw _).grown hgrow (by simp; omega) (fun k hk => (World.ownsRow.lt HO.out k hk).1)
      clear ho2 hown' hgrow hat
      go_wp2_with fail
      go_roundw
      case rel => exact ⟨m / 128, l' ++ [d], by omega, by first | rfl | (congr 1; done), HO2, Lib.hid (by rw [List.append_assoc, ← HE.out, HV.out]; rfl), hb2, ⟨p2, c2, rfl⟩, HK2, HAT2⟩
      case measure => simp [intOf]; omega
    · obtain ⟨d, hd⟩ : ∃ d : UInt8, d = UInt8.ofNat m := ⟨_, rfl⟩
      have hdn : d.toNat = m := by rw [hd, UInt8.toNat_ofNat_of_lt' (by show _ < 256; omega)]
      have hv : varB m = [d] := by rw [varB_small (by omega), hd]
      have HV := Lib.hid hv
      have hvl : (varB m).length = 1 := by rw [hv]; rfl
      have HDN := Lib.hid hdn
      clear hv hd hdn
      go_wp2_with (at_builtin; refine wpList_append_own_at _ rfl (.tmp 18) (.tmp 21) 32 rfl B 5 i0 (.int .u8 0) 1 1 Tryd.underlying32 hi hz0 hz1 hz2 rfl (by decide) _ _ _ rfl (World.ownsRow.alloc HO.out _) ⟨wr.heap.size, 0, none⟩ 1 1 [.int .u8 (m : Int)] rfl rfl ?c1 ?c2 ?c3 ?c4 ?c5 ?_)
      case c2 => first | rfl | (intro u hu; simp at hu; subst hu; rfl)
      case c3 => unfold maxLen; omega
      case c4 => omega
      case c5 => first | omega | (simp; omega)
      intro v' w2 hown' hgrow _ hat
      have HK2 := Lib.hid (KpB.step HK.out HAT.out hb.size hgrow)
      have HAT2 := Lib.hid (OwnAt.step HAT.out hb.size hat)
      have ho2 : OwnB w2 B v' (l' ++ [d]) := OwnB.snoc (by rw [HDN.out]; exact hown') rfl
      have HO2 := Lib.hid ho2
      obtain ⟨p2, c2, rfl⟩ := (Sl.of_owns ho2).len
      have hb2 : Below B w w2 := (hb.alloc hBw _).grown hgrow (by simp; omega) (fun k hk => (World.ownsRow.lt HO.out k hk).1)
      clear ho2 hown' hgrow hat
      go_wp2_with fail
      go_ret
      exact ⟨_, rfl, by rw [← HE.out, HV.out]; exact HO2.out, hb2, HK2.out, HAT2.out⟩

set_option maxRecDepth 100000 in
set_option maxHeartbeats 4000000 in
theorem var17_any (B n : Nat) (v : Value) (l : List UInt8) (w : World) (h : OwnB w B v l) (hB : B ≤ w.heap.size) (hn : n < 4611686018427387904) (hl : l.length + 20 ≤ 70368744177664) :
    Calls Tryd.prog 31 #[v, .int .i64 (n : Int)] w fun e w' => ∃ v', e = .returned v' ∧ OwnB w' B v' (l ++ varB n) ∧ Below B w w' := by
  obtain ⟨i0, hi, hz0, hz1, hz2⟩ := info_parts info_byte
  have hk : (varB n).length ≤ 10 := by
    have aux : ∀ (k m : Nat), m < 128 ^ k → 0 < k → (varB m).length ≤ k := fun k => by
      induction k with
      | zero => intro m _ h; omega
      | succ k ih =>
        intro m hm _
        by_cases h : m < 128
        · rw [varB_small h]; simp
        · rw [varB_big h]
          rw [Nat.pow_succ] at hm
          rcases Nat.eq_zero_or_pos k with hk | hk
          · subst hk; omega
          · have := ih (m / 128) (by omega) hk
            simp only [List.length_cons]; omega
    exact aux 10 n (by omega) (by omega)
  have H := Lib.hid h
  obtain ⟨p, c, rfl⟩ := (Sl.of_owns h).len
  clear h
  go_enter Tryd.func31, Tryd.ntmps31
  go_wp2_with fail
  go_loopw [0, 1] (fun b x wr => ∃ (m : Nat) (l' : List UInt8), m ≤ n ∧ x = .int .i64 (m : Int) ∧ Hid (OwnB wr B b l') ∧ Hid (l' ++ varB m = l ++ varB n) ∧ Below B w wr ∧ (∃ p' c', b = .slice p' l'.length c')) (fun _ x _ => (intOf x).toNat)
  case atStart => exact ⟨n, l, Nat.le_refl _, rfl, H, Lib.hid rfl, Below.refl _ _, p, c, rfl⟩
  case round =>
    obtain ⟨m, l', hm, rfl, HO, HE, hb, p', c', rfl⟩ := hrel
    have hll : l'.length + (varB m).length = l.length + (varB n).length := by rw [← List.length_append, ← List.length_append, HE.out]
    have hBw := Nat.le_trans hB hb.size
    by_cases hm1 : 128 ≤ (m : Int)
    · obtain ⟨d, hd⟩ : ∃ d : UInt8, d = UInt8.ofNat (128 + m % 128) := ⟨_, rfl⟩
      have hdn : d.toNat = 128 + m % 128 := by rw [hd, UInt8.toNat_ofNat_of_lt' (by show _ < 256; omega)]
      have HDN := Lib.hid (show (d.toNat : Int) = 128 + (m : Int) % 128 by rw [hdn]; omega)
      have hv : varB m = d :: varB (m / 128) := by rw [varB_big (by omega), hd]
      have HV := Lib.hid hv
      have HD := Lib.hid hd
      have hvl : (varB m).length = (varB (m / 128)).length + 1 := by rw [hv]; rfl
      have hvp := varB_pos (m / 128)
      clear hv hd hdn
      go_wp2_with (at_builtin; refine wpList_append_own _ rfl (.tmp 7) (.tmp 12) 32 rfl B 5 i0 (.int .u8 0) 1 1 Tryd.underlying32 hi hz0 hz1 hz2 rfl (by decide) _ _ _ rfl (World.ownsRow.alloc HO.out _) ⟨wr.heap.size, 0, none⟩ 1 1 [.int .u8 (128 + (m : Int) % 128)] rfl rfl ?c1 ?c2 ?c3 ?c4 ?c5 ?_)
      case c1 => exact new_cells _ [.int .u8 (128 + (m : Int) % 128)] _
      case c2 => first | rfl | (intro u hu; simp at hu; subst hu; rfl)
      case c3 => unfold maxLen; omega
      case c4 => omega
      case c5 => first | omega | (simp; omega)
      intro v' w2 hown' hgrow _
      have ho2 : OwnB w2 B v' (l' ++ [d]) := OwnB.snoc (by rw [HDN.out]; exact hown') rfl
      have HO2 := Lib.hid ho2
      obtain ⟨p2, c2, rfl⟩ := (Sl.of_owns ho2).len
      have hb2 : Below B w w2 := (hb.alloc hBw _).grown hgrow (by simp; omega) (fun k hk => (World.ownsRow.lt HO.out k hk).1)
      clear ho2 hown' hgrow
      go_wp2_with fail
      go_roundw
      case rel => exact ⟨m / 128, l' ++ [d], by omega, by first | rfl | (congr 1; done), HO2, Lib.hid (by rw [List.append_assoc, ← HE.out, HV.out]; rfl), hb2, p2, c2, rfl⟩
      case measure => simp [intOf]; omega
    · obtain ⟨d, hd⟩ : ∃ d : UInt8, d = UInt8.ofNat m := ⟨_, rfl⟩
      have hdn : d.toNat = m := by rw [hd, UInt8.toNat_ofNat_of_lt' (by show _ < 256; omega)]
      have hv : varB m = [d] := by rw [varB_small (by omega), hd]
      have HV := Lib.hid hv
      have hvl : (varB m).length = 1 := by rw [hv]; rfl
      have HDN := Lib.hid hdn
      clear hv hd hdn
      go_wp2_with (at_builtin; refine wpList_append_own _ rfl (.tmp 16) (.tmp 19) 32 rfl B 5 i0 (.int .u8 0) 1 1 Tryd.underlying32 hi hz0 hz1 hz2 rfl (by decide) _ _ _ rfl (World.ownsRow.alloc HO.out _) ⟨wr.heap.size, 0, none⟩ 1 1 [.int .u8 (m : Int)] rfl rfl ?c1 ?c2 ?c3 ?c4 ?c5 ?_)
      case c2 => first | rfl | (intro u hu; simp at hu; subst hu; rfl)
      case c3 => unfold maxLen; omega
      case c4 => omega
      case c5 => first | omega | (simp; omega)
      intro v' w2 hown' hgrow _
      have ho2 : OwnB w2 B v' (l' ++ [d]) := OwnB.snoc (by rw [HDN.out]; exact hown') rfl
      have HO2 := Lib.hid ho2
      obtain ⟨p2, c2, rfl⟩ := (Sl.of_owns ho2).len
      have hb2 : Below B w w2 := (hb.alloc hBw _).grown hgrow (by simp; omega) (fun k hk => (World.ownsRow.lt HO.out k hk).1)
      clear ho2 hown' hgrow
      go_wp2_with fail
      go_ret
      exact ⟨_, rfl, by rw [← HE.out, HV.out]; exact HO2.out, hb2⟩

set_option maxRecDepth 100000 in
set_option maxHeartbeats 2000000 in
theorem textI_any (B : Nat) (v : Value) (l s : List UInt8) (w : World) (h : OwnB w B v l) (hB : B ≤ w.heap.size) (hl : l.length + s.length + 20 ≤ 70368744177664) :
    Calls Tryd.prog 34 #[v, .string (st s)] w fun e w' => ∃ v', e = .returned v' ∧ OwnB w' B v' (l ++ txB s) ∧ Below B w w' := by
  obtain ⟨i0, hi, hz0, hz1, hz2⟩ := info_parts info_byte
  have h0 := layI_any B s.length v l w h hB (by omega) (by omega)
  obtain ⟨l1, hl1⟩ : ∃ l1, l ++ varB s.length = l1 := ⟨_, rfl⟩
  have hll : l1.length = l.length + (varB s.length).length := by rw [← hl1, List.length_append]
  rw [hl1] at h0
  have H := Lib.hid h0
  have HL1 := Lib.hid hl1
  have HLL := Lib.hid hll
  clear h0 hl1 hll
  have hvl : (varB s.length).length ≤ 10 := by
    have aux : ∀ (k m : Nat), m < 128 ^ k → 0 < k → (varB m).length ≤ k := fun k => by
      induction k with
      | zero => intro m _ h; omega
      | succ k ih =>
        intro m hm _
        by_cases h : m < 128
        · rw [varB_small h]; simp
        · rw [varB_big h]
          rw [Nat.pow_succ] at hm
          rcases Nat.eq_zero_or_pos k with hk | hk
          · subst hk; omega
          · have := ih (m / 128) (by omega) hk
            simp only [List.length_cons]; omega
    exact aux 10 _ (by omega) (by omega)
  obtain ⟨p, c, rfl⟩ := (Sl.of_owns h).len
  clear h
  have hss := st_size s
  have hsz : ((st s).size : Int) = (s.length : Int) := by rw [st_size]
  go_enter Tryd.func34, Tryd.ntmps34
  go_wp2_with fail
  go_at_call 33
  refine H.out.mono ?_; rintro e w1 ⟨v1, rfl, ho1, hb1⟩
  have HO := Lib.hid ho1
  obtain ⟨p1, c1, rfl⟩ := (Sl.of_owns ho1).len
  clear ho1
  go_wp2_with (at_builtin; refine Lib.wpList_append_own_string _ rfl _ _ 32 9 rfl B 5 i0 Tryd.underlying32 Tryd.underlying9 hi hz0 hz1 hz2 _ _ _ rfl HO.out (st s) rfl ?c3 ?c4 ?c5 ?_)
  case c3 => have := HLL.out; unfold maxLen; omega
  case c4 => have := HLL.out; omega
  case c5 => have := hb1.size; omega
  intro v' w2 hown' hgrow _
  have ho2 : OwnB w2 B v' (l ++ txB s) := by
    unfold OwnB txB
    rw [← List.append_assoc, HL1.out, List.map_append, List.length_append, ← st_size s]
    exact hown'
  have HO2 := Lib.hid ho2
  obtain ⟨p2, c2, rfl⟩ := (Sl.of_owns ho2).len
  have hb2 : Below B w w2 := hb1.grown hgrow (by have := hb1.size; omega) (fun k hk => (World.ownsRow.lt HO.out k hk).1)
  clear ho2 hown' hgrow
  go_wp2_with fail
  go_ret
  exact ⟨_, rfl, HO2.out, hb2⟩
set_option maxRecDepth 100000 in
set_option maxHeartbeats 2000000 in
theorem text17_any (B : Nat) (v : Value) (l s : List UInt8) (w : World) (h : OwnB w B v l) (hB : B ≤ w.heap.size) (hl : l.length + s.length + 20 ≤ 70368744177664) :
    Calls Tryd.prog 32 #[v, .string (st s)] w fun e w' => ∃ v', e = .returned v' ∧ OwnB w' B v' (l ++ txB s) ∧ Below B w w' := by
  obtain ⟨i0, hi, hz0, hz1, hz2⟩ := info_parts info_byte
  have h0 := var17_any B s.length v l w h hB (by omega) (by omega)
  obtain ⟨l1, hl1⟩ : ∃ l1, l ++ varB s.length = l1 := ⟨_, rfl⟩
  have hll : l1.length = l.length + (varB s.length).length := by rw [← hl1, List.length_append]
  rw [hl1] at h0
  have H := Lib.hid h0
  have HL1 := Lib.hid hl1
  have HLL := Lib.hid hll
  clear h0 hl1 hll
  have hvl : (varB s.length).length ≤ 10 := by
    have aux : ∀ (k m : Nat), m < 128 ^ k → 0 < k → (varB m).length ≤ k := fun k => by
      induction k with
      | zero => intro m _ h; omega
      | succ k ih =>
        intro m hm _
        by_cases h : m < 128
        · rw [varB_small h]; simp
        · rw [varB_big h]
          rw [Nat.pow_succ] at hm
          rcases Nat.eq_zero_or_pos k with hk | hk
          · subst hk; omega
          · have := ih (m / 128) (by omega) hk
            simp only [List.length_cons]; omega
    exact aux 10 _ (by omega) (by omega)
  obtain ⟨p, c, rfl⟩ := (Sl.of_owns h).len
  clear h
  have hss := st_size s
  have hsz : ((st s).size : Int) = (s.length : Int) := by rw [st_size]
  go_enter Tryd.func32, Tryd.ntmps32
  go_wp2_with fail
  go_at_call 31
  refine H.out.mono ?_; rintro e w1 ⟨v1, rfl, ho1, hb1⟩
  have HO := Lib.hid ho1
  obtain ⟨p1, c1, rfl⟩ := (Sl.of_owns ho1).len
  clear ho1
  go_wp2_with (at_builtin; refine Lib.wpList_append_own_string _ rfl _ _ 32 9 rfl B 5 i0 Tryd.underlying32 Tryd.underlying9 hi hz0 hz1 hz2 _ _ _ rfl HO.out (st s) rfl ?c3 ?c4 ?c5 ?_)
  case c3 => have := HLL.out; unfold maxLen; omega
  case c4 => have := HLL.out; omega
  case c5 => have := hb1.size; omega
  intro v' w2 hown' hgrow _
  have ho2 : OwnB w2 B v' (l ++ txB s) := by
    unfold OwnB txB
    rw [← List.append_assoc, HL1.out, List.map_append, List.length_append, ← st_size s]
    exact hown'
  have HO2 := Lib.hid ho2
  obtain ⟨p2, c2, rfl⟩ := (Sl.of_owns ho2).len
  have hb2 : Below B w w2 := hb1.grown hgrow (by have := hb1.size; omega) (fun k hk => (World.ownsRow.lt HO.out k hk).1)
  clear ho2 hown' hgrow
  go_wp2_with fail
  go_ret
  exact ⟨_, rfl, HO2.out, hb2⟩

end Go.Proofs.YtcbfmajojkcibaaDoor
