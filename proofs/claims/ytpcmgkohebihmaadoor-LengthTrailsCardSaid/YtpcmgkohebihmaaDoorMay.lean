/- May of bolterref7, one of bolterref8. No condition. -/
import Derived.Test.YtpcmgkohebihmaaDoorOfT
import Derived.Test.YtpcmgkohebihmaaDoorEqCo
import Derived.Test.YtpcmgkohebihmaaDoorExOwn
namespace Go.Proofs.YtpcmgkohebihmaaDoor
open Go Go.RowKit

theorem put5_block (w : World) (b : Nat) (v0 v1 v2 v3 v4 : Value) (c : Nat) (h : b ≠ c) : (((((w.setCell ⟨b, 0, none⟩ v0).setCell ⟨b, 1, none⟩ v1).setCell ⟨b, 2, none⟩ v2).setCell ⟨b, 3, none⟩ v3).setCell ⟨b, 4, none⟩ v4).heap[c]? = w.heap[c]? := by
  repeat rw [setCell_far _ _ _ _ h]
def zeroEx : Ex := .mk 0 0 emptyS ⟨#[]⟩ 0 0 []
theorem zeroEx_in (w : World) : ExIn w zeroEx [.int .i64 0, .int .i64 0, .int .u64 0, .int .u64 0, .int .u64 0, .int .u64 0, .string ⟨#[]⟩, .int .i64 0, .int .i64 0, .slice none 0 0] := by
  have h := ExIn.mk (w := w) 0 0 emptyS ⟨#[]⟩ 0 0 (.slice none 0 0) [] (by unfold fit64; omega) (by unfold fit64; omega) (by unfold fit64; omega) (by unfold fit64; omega) (by show 0 ≤ maxLen; omega) (fun p h => by cases h) (Sl.nil w 10) (.inl rfl) (by simp) (fun p h => by cases h)
  exact h
theorem eqE_zero (e : Ex) : eqE e zeroEx = zeroX e := by
  cases e with
  | mk op pos s text mn mx args =>
    unfold zeroEx
    rw [eqE, zeroX]
    have h1 : decide (text.toList = ByteArray.toList ⟨#[]⟩) = text.toList.isEmpty := by
      rw [show ByteArray.toList ⟨#[]⟩ = [] by unfold ByteArray.toList ByteArray.toList.loop; simp [ByteArray.size]]
      cases text.toList <;> simp
    rw [h1]
    cases args with
    | nil => rw [eqEL]; simp
    | cons a r => simp

set_option maxRecDepth 100000 in
set_option maxHeartbeats 4000000 in
theorem may7_any (x : Co) (cs : List Value) (w : World) (h : CoIn w x cs) : Calls Tryd.prog 31 #[.agg cs.toArray] w fun e' w' => e' = .returned (.bool (okCo x)) ∧ Gr w w' := by
  obtain ⟨op, pos, s, text, mn, mx, p, n, c, op2, pos2, s2, text2, mn2, mx2, p2, n2, c2, rfl, ha, hb⟩ := h.form
  obtain ⟨e, hs, f⟩ := x
  have HA := Lib.hid (fun (cur : World) (h : Gr w cur) => check7_any e _ cur (ha.later h))
  have HB := Lib.hid (fun (cur : World) (h : Gr w cur) => check7_any f _ cur (hb.later h))
  have HZ := Lib.hid (fun (cur : World) (h : Gr w cur) => eqExpr_any _ f (Nat.le_refl _) zeroEx _ _ cur (hb.later h) (zeroEx_in cur))
  rw [eqE_zero] at HZ
  clear h ha hb
  obtain ⟨b1, h1⟩ : ∃ b, isCore e = b := ⟨_, rfl⟩
  obtain ⟨b2, h2⟩ : ∃ b, isCore f = b := ⟨_, rfl⟩
  obtain ⟨b3, h3⟩ : ∃ b, zeroX f = b := ⟨_, rfl⟩
  have HR := Lib.hid (show okCo ⟨e, hs, f⟩ = (b1 && (if hs then b2 else b3)) by unfold okCo; rw [h1, h2, h3])
  rw [h1] at HA
  rw [h2] at HB
  rw [h3] at HZ
  clear h1 h2 h3
  unfold exCells at HA HB HZ ⊢
  dsimp only [List.cons_append, List.nil_append]
  go_enter Tryd.func31, Tryd.ntmps31
  go_wp2_with fail
  go_at_call 23
  refine name_calls (fun W hW => ?_)
  have xa : boxAt W w.heap.size ([.int .i64 op, .int .i64 pos, .int .u64 (wd s 0), .int .u64 (wd s 1), .int .u64 (wd s 2), .int .u64 (wd s 3), .string text, .int .i64 mn, .int .i64 mx, (.slice p n c)] ++ .bool hs :: [.int .i64 op2, .int .i64 pos2, .int .u64 (wd s2 0), .int .u64 (wd s2 1), .int .u64 (wd s2 2), .int .u64 (wd s2 3), .string text2, .int .i64 mn2, .int .i64 mx2, (.slice p2 n2 c2)]) := boxAt.new _ _ hW
  have hgW : Gr w W := by rw [hW]; exact Gr.alloc _ _
  clear hW
  refine (HA.out W hgW).mono ?_; rintro e' w2 ⟨rfl, hg⟩
  replace xa := xa.later hg
  replace hgW := hgW.trans hg
  clear hg
  cases b1
  · go_wp2_with fail
    go_ret
    exact ⟨ret_bool (by rw [HR.out]; rfl), hgW⟩
  · have c_a10 := xa.cell 10 _ rfl
    have c_a11 := xa.cell 11 _ rfl
    have c_a12 := xa.cell 12 _ rfl
    have c_a13 := xa.cell 13 _ rfl
    have c_a14 := xa.cell 14 _ rfl
    have c_a15 := xa.cell 15 _ rfl
    have c_a16 := xa.cell 16 _ rfl
    have c_a17 := xa.cell 17 _ rfl
    have c_a18 := xa.cell 18 _ rfl
    have c_a19 := xa.cell 19 _ rfl
    have c_a20 := xa.cell 20 _ rfl
    cases hs
    · go_wp2_with fail
      go_at_call 14
      refine (HZ.out w2 hgW).mono ?_; rintro e' w3 ⟨rfl, hg⟩
      go_wp2_with fail
      go_ret
      exact ⟨ret_bool (by rw [HR.out]; rfl), hgW.trans hg⟩
    · go_wp2_with fail
      go_at_call 23
      refine (HB.out w2 hgW).mono ?_; rintro e' w3 ⟨rfl, hg⟩
      go_wp2_with fail
      go_ret
      exact ⟨ret_bool (by rw [HR.out]; rfl), hgW.trans hg⟩

set_option maxHeartbeats 2000000 in
theorem one8_any (z : Le) (w : World) : Calls Tryd.prog 32 #[.agg #[.bool z.none, .int .i64 z.least, .int .i64 z.most]] w fun e' w' => e' = .returned (.bool (oneL z)) ∧ Gr w w' := by
  obtain ⟨zn, zl, zm⟩ := z
  dsimp only
  obtain ⟨b, hb⟩ : ∃ b, (zl == zm) = b := ⟨_, rfl⟩
  have HB := Lib.hid hb
  go_enter Tryd.func32, Tryd.ntmps32
  cases zn
  · go_wp2_with fail
    go_ret
    exact ⟨ret_bool (by unfold oneL; rw [HB.out]; rfl), Gr.alloc _ _⟩
  · go_wp2_with fail
    go_ret
    exact ⟨ret_bool rfl, Gr.alloc _ _⟩

end Go.Proofs.YtpcmgkohebihmaaDoor
