/- Texts of mine, put together: Tell, Faults, TellNil. No condition but what each says. -/
import Derived.Test.YtkkopdmemjncdaaGreatDoorPGc
import Derived.Test.YtkkopdmemjncdaaGreatDoorPHb
import Derived.LaidHandle
import Derived.LaidLaws

/- Of, Code, Tell of fault: of sentinels, and of what wraps them without names. No condition but that the errors' variables hold them. Printed by gen_tell.py. -/
namespace Go.Proofs.YtkkopdmemjncdaaGreatDoor
open Go Go.RowKit

/-- The variable of a code's error. -/
def glOf : Nat → Nat
  | 2 => 4
  | 3 => 5
  | 4 => 6
  | 5 => 7
  | 6 => 3
  | 7 => 1
  | 8 => 8
  | 9 => 9
  | 10 => 10
  | 11 => 11
  | 12 => 12
  | 13 => 13
  | 14 => 14
  | 15 => 0
  | 16 => 15
  | 17 => 16
  | _ => 0
/-- Each code's error, where it lies; no two are one. -/
structure FaultsIn (W : World) (s : Nat → Addr) : Prop where
  var : ∀ i, 2 ≤ i → i ≤ 17 → W.cell? ⟨glOf i, 0, none⟩ = some (.iface 220 (.pointer (some (s i))))
  row : ∀ i, 2 ≤ i → i ≤ 17 → ∃ c t, W.heap[(s i).block]? = some (.cells c t (0, 0))
  inj : ∀ i j, 2 ≤ i → i ≤ 17 → 2 ≤ j → j ≤ 17 → s i = s j → i = j
  type : W.cell? ⟨2, 0, none⟩ = some (.iface 184 (.agg #[.pointer (some ⟨17, 41, none⟩)]))
theorem FaultsIn.later {w w' : World} {s : Nat → Addr} (h : FaultsIn w s) (hG : Gr w w') : FaultsIn w' s :=
  ⟨fun i a b => hG.cell (h.var i a b), fun i a b => by obtain ⟨c, t, hr⟩ := h.row i a b; exact ⟨c, t, row_later hr hG⟩, h.inj, hG.cell h.type⟩
theorem FaultsIn.errs {W : World} {s : Nat → Addr} (h : FaultsIn W s) (i : Nat) (a : 2 ≤ i) (b : i ≤ 17) : Errs W (glOf i) (.iface 220 (.pointer (some (s i)))) := ⟨h.var i a b, _, _, rfl⟩
theorem FaultsIn.leaf {W : World} {s : Nat → Addr} (h : FaultsIn W s) (i : Nat) (a : 2 ≤ i) (b : i ≤ 17) : (Er.leaf (s i)).In W := h.row i a b

/-- What the outermost wrapper of a kind says, if it is a number. -/
def Er.say (k : Wr) : Er → Int
  | .leaf _ => 0
  | .wrap k' _ x e => if k' = k then (match x with | .int _ n => n | _ => 0) else e.say k
/-- Wrappers but those of names say numbers. -/
def Er.ok : Er → Prop
  | .leaf _ => True
  | .wrap k _ x e => (k ≠ .named → ∃ n, x = .int .i64 n) ∧ e.ok
theorem Er.first_none {k : Wr} : ∀ {e : Er}, e.first k = none → e.say k = 0
  | .leaf _, _ => rfl
  | .wrap k' _ _ e, h => by
    unfold Er.first at h
    unfold Er.say
    split at h
    · cases h
    · rename_i hk; rw [if_neg hk]; exact Er.first_none h
theorem Er.first_some {k : Wr} {W : World} {b : Nat} (hk : k ≠ .named) : ∀ {e : Er}, e.In W → e.ok → e.first k = some b → W.cell? ⟨b, 1, none⟩ = some (.int .i64 (e.say k))
  | .leaf _, _, _, h => by cases h
  | .wrap k' b' x e, ⟨_, h2, h3⟩, ⟨g1, g2⟩, h => by
    unfold Er.first at h
    unfold Er.say
    split at h
    · rename_i he
      subst he
      injection h with h
      subst h
      obtain ⟨n, rfl⟩ := g1 hk
      rw [if_pos rfl]; exact h2
    · rename_i he
      rw [if_neg he]; exact Er.first_some hk h3 g2 h

set_option maxRecDepth 100000 in
set_option maxHeartbeats 4000000 in
theorem faultOf_any {W : World} {s : Nat → Addr} (hF : FaultsIn W s) (i : Nat) (h1 : 2 ≤ i) (h2 : i ≤ 17) : Calls Tryz.prog 91 #[.int .i64 (i : Int)] W fun x w' => x = .returned (.iface 220 (.pointer (some (s i)))) ∧ Gr W w' := by
  have hc := hF.var i h1 h2
  have hl := World.block_lt_of_cell? W _ hc
  obtain ⟨x, hx⟩ : ∃ x, s i = x := ⟨_, rfl⟩
  rw [hx] at hc ⊢
  clear hx hF
  have hi : i = 2 ∨ i = 3 ∨ i = 4 ∨ i = 5 ∨ i = 6 ∨ i = 7 ∨ i = 8 ∨ i = 9 ∨ i = 10 ∨ i = 11 ∨ i = 12 ∨ i = 13 ∨ i = 14 ∨ i = 15 ∨ i = 16 ∨ i = 17 := by omega
  rcases hi with rfl | rfl | rfl | rfl | rfl | rfl | rfl | rfl | rfl | rfl | rfl | rfl | rfl | rfl | rfl | rfl
  · change W.cell? ⟨4, 0, none⟩ = _ at hc
    change 4 < _ at hl
    go_enter Tryz.func91, Tryz.ntmps91
    go_wp2_with fail
    go_ret
    exact ⟨rfl, Gr.refl _⟩
  · change W.cell? ⟨5, 0, none⟩ = _ at hc
    change 5 < _ at hl
    go_enter Tryz.func91, Tryz.ntmps91
    go_wp2_with fail
    go_ret
    exact ⟨rfl, Gr.refl _⟩
  · change W.cell? ⟨6, 0, none⟩ = _ at hc
    change 6 < _ at hl
    go_enter Tryz.func91, Tryz.ntmps91
    go_wp2_with fail
    go_ret
    exact ⟨rfl, Gr.refl _⟩
  · change W.cell? ⟨7, 0, none⟩ = _ at hc
    change 7 < _ at hl
    go_enter Tryz.func91, Tryz.ntmps91
    go_wp2_with fail
    go_ret
    exact ⟨rfl, Gr.refl _⟩
  · change W.cell? ⟨3, 0, none⟩ = _ at hc
    change 3 < _ at hl
    go_enter Tryz.func91, Tryz.ntmps91
    go_wp2_with fail
    go_ret
    exact ⟨rfl, Gr.refl _⟩
  · change W.cell? ⟨1, 0, none⟩ = _ at hc
    change 1 < _ at hl
    go_enter Tryz.func91, Tryz.ntmps91
    go_wp2_with fail
    go_ret
    exact ⟨rfl, Gr.refl _⟩
  · change W.cell? ⟨8, 0, none⟩ = _ at hc
    change 8 < _ at hl
    go_enter Tryz.func91, Tryz.ntmps91
    go_wp2_with fail
    go_ret
    exact ⟨rfl, Gr.refl _⟩
  · change W.cell? ⟨9, 0, none⟩ = _ at hc
    change 9 < _ at hl
    go_enter Tryz.func91, Tryz.ntmps91
    go_wp2_with fail
    go_ret
    exact ⟨rfl, Gr.refl _⟩
  · change W.cell? ⟨10, 0, none⟩ = _ at hc
    change 10 < _ at hl
    go_enter Tryz.func91, Tryz.ntmps91
    go_wp2_with fail
    go_ret
    exact ⟨rfl, Gr.refl _⟩
  · change W.cell? ⟨11, 0, none⟩ = _ at hc
    change 11 < _ at hl
    go_enter Tryz.func91, Tryz.ntmps91
    go_wp2_with fail
    go_ret
    exact ⟨rfl, Gr.refl _⟩
  · change W.cell? ⟨12, 0, none⟩ = _ at hc
    change 12 < _ at hl
    go_enter Tryz.func91, Tryz.ntmps91
    go_wp2_with fail
    go_ret
    exact ⟨rfl, Gr.refl _⟩
  · change W.cell? ⟨13, 0, none⟩ = _ at hc
    change 13 < _ at hl
    go_enter Tryz.func91, Tryz.ntmps91
    go_wp2_with fail
    go_ret
    exact ⟨rfl, Gr.refl _⟩
  · change W.cell? ⟨14, 0, none⟩ = _ at hc
    change 14 < _ at hl
    go_enter Tryz.func91, Tryz.ntmps91
    go_wp2_with fail
    go_ret
    exact ⟨rfl, Gr.refl _⟩
  · change W.cell? ⟨0, 0, none⟩ = _ at hc
    change 0 < _ at hl
    go_enter Tryz.func91, Tryz.ntmps91
    go_wp2_with fail
    go_ret
    exact ⟨rfl, Gr.refl _⟩
  · change W.cell? ⟨15, 0, none⟩ = _ at hc
    change 15 < _ at hl
    go_enter Tryz.func91, Tryz.ntmps91
    go_wp2_with fail
    go_ret
    exact ⟨rfl, Gr.refl _⟩
  · change W.cell? ⟨16, 0, none⟩ = _ at hc
    change 16 < _ at hl
    go_enter Tryz.func91, Tryz.ntmps91
    go_wp2_with fail
    go_ret
    exact ⟨rfl, Gr.refl _⟩

set_option maxRecDepth 100000 in
set_option maxHeartbeats 4000000 in
theorem code_any {W : World} {s : Nat → Addr} (hF : FaultsIn W s) (e : Er) (he : e.In W) (k : Nat) (hk1 : 2 ≤ k) (hk2 : k ≤ 17) (hb : e.base = s k) : Calls Tryz.prog 59 #[e.val] W fun x w' => x = .returned (.int .i64 (k : Int)) ∧ Gr W w' := by
  have HF := Lib.hid hF
  have HE := Lib.hid he
  have HB := Lib.hid hb
  have HK1 := Lib.hid hk1
  obtain ⟨t0, p0, hv0⟩ := e.val_iface
  have HV := Lib.hid hv0
  rw [hv0]
  clear hv0 he hF hb hk1
  go_enter Tryz.func59, Tryz.ntmps59
  go_wp2_with fail
  go_loopw [3] (fun i wr => ∃ j : Nat, 2 ≤ j ∧ j ≤ k ∧ i = .int .i64 (j : Int) ∧ Gr W wr) (fun i _ => 18 - (intOf i).toNat)
  case atStart => exact ⟨2, by omega, HK1.out, rfl, Gr.refl _⟩
  case round =>
    obtain ⟨j, hj1, hj2, rfl, hg⟩ := hrel
    have hj17 : (j : Int) ≤ 17 := by omega
    go_wp2_with fail
    go_at_call 91
    refine (faultOf_any (HF.out.later hg) j hj1 (by omega)).mono ?_; rintro e' w1 ⟨rfl, hb1⟩
    replace hg := hg.trans hb1
    clear hb1
    go_wp2_with fail
    go_at_call 90
    obtain ⟨cb, tb, hrow⟩ := (HF.out.later hg).row j hj1 (by omega)
    have HC := isTop_any (s j) cb tb hrow e (HE.out.later hg)
    rw [HV.out] at HC
    refine HC.mono ?_; clear HC hrow; rintro e' w2 ⟨rfl, hb1⟩
    replace hg := hg.trans hb1
    clear hb1
    by_cases hjk : j = k
    · subst hjk
      rw [decide_eq_true HB.out]
      go_wp2_with fail
      go_ret
      exact ⟨rfl, hg⟩
    · have hne : ¬ e.base = s j := fun h => hjk (HF.out.inj j k hj1 (by omega) HK1.out hk2 (h.symm.trans HB.out))
      rw [decide_eq_false hne]
      clear hne
      go_wp2_with fail
      go_roundw
      case rel => exact ⟨j + 1, by omega, by omega, by go_num, hg⟩
      case measure => simp [intOf]; omega

set_option maxRecDepth 100000 in
set_option maxHeartbeats 8000000 in
theorem tell_any {W : World} {s : Nat → Addr} (hF : FaultsIn W s) (e : Er) (he : e.In W) (hok : e.ok) (k : Nat) (hk1 : 2 ≤ k) (hk2 : k ≤ 17) (hb : e.base = s k) (hn : e.first .named = none) :
    Calls Tryz.prog 28 #[e.val] W fun x w' => x = .returned (.agg #[.int .i64 (k : Int), .int .i64 (e.say .staged), .int .i64 (e.say .ruled), .int .i64 (e.say .placed), .slice none 0 0]) ∧ Gr W w' := by
  have HF := Lib.hid hF
  have HE := Lib.hid he
  have HOK := Lib.hid hok
  have HN := Lib.hid hn
  have HCO := Lib.hid (fun (cur : World) (h : Gr W cur) => code_any (hF.later h) e (he.later h) k hk1 hk2 hb)
  obtain ⟨t0, p0, hv0⟩ := e.val_iface
  have HV := Lib.hid hv0
  rw [hv0] at HCO ⊢
  clear hv0 he hF hb hk1 hk2 hn hok
  go_enter Tryz.func28, Tryz.ntmps28
  go_wp2_with fail
  go_at_call 59
  refine name_calls (fun W0 hW => ?_)
  have xr : boxAt W0 W.heap.size [.int .i64 0, .int .i64 0, .int .i64 0, .int .i64 0, .slice none 0 0] := boxAt.new _ _ hW
  have hg := Gr.of_alloc hW
  clear hW
  refine (HCO.out W0 hg).mono ?_; rintro e' w1 ⟨rfl, hb⟩
  replace xr := xr.later hb
  replace hg := hg.trans hb
  clear hb
  go_wp2_with fail
  go_at_call 60
  refine name_calls (fun W1 hW => ?_)
  obtain ⟨xf, xp, hb, _⟩ : boxAt W1 w1.heap.size [.int .i64 (k : Int), .int .i64 0, .int .i64 0, .int .i64 0, .slice none 0 0] ∧ boxAt W1 (w1.heap.size + 1) [.pointer none] ∧ Gr w1 W1 ∧ _ := by rw [hW]; exact bx2 w1 [.int .i64 (k : Int), .int .i64 0, .int .i64 0, .int .i64 0, .slice none 0 0] [.pointer none] 37 114
  clear hW
  have hRF : W.heap.size < w1.heap.size := xr.lt (by simp)
  have hFT : w1.heap.size < w1.heap.size + 1 := by omega
  replace xr := xr.later hb
  replace hg := hg.trans hb
  clear hb
  have HC := asTop_placed (w := W1) e (HE.out.later hg) (w1.heap.size + 1) (.pointer none) (xp.cell 0 _ rfl) (xp.mark 0 _ rfl) (HF.out.later hg).type
  rw [HV.out] at HC
  refine HC.mono ?_; clear HC; rintro e' w3p ⟨wap, hb, hm⟩
  replace xr := xr.later hb
  replace xf := xf.later hb
  replace xp := xp.later hb
  replace hg := hg.trans hb
  clear hb
  cases hfi : e.first .placed with
  | none =>
    have HP := Lib.hid (Er.first_none hfi)
    rw [hfi] at hm
    obtain ⟨rfl, rfl⟩ := hm
    clear hfi xp hFT
    have c_f0 := xf.cell 0 _ rfl
    have c_f1 := xf.cell 1 _ rfl
    have c_f2 := xf.cell 2 _ rfl
    have c_f3 := xf.cell 3 _ rfl
    have c_f4 := xf.cell 4 _ rfl
    have m_f0 := xf.mark 0 _ rfl
    have m_f1 := xf.mark 1 _ rfl
    have m_f2 := xf.mark 2 _ rfl
    have m_f3 := xf.mark 3 _ rfl
    have m_f4 := xf.mark 4 _ rfl
    have l_f := xf.lt (Nat.succ_pos _)
    go_wp2_with fail
    clear c_f0 c_f1 c_f2 c_f3 c_f4 m_f0 m_f1 m_f2 m_f3 m_f4 l_f
    have xf2 := xf
    have xr2 := xr
    have hg2 := hg
    clear xf xr hg
    go_at_call 60
    refine name_calls (fun Wnpn hW => ?_)
    have hb : Gr w3p Wnpn := Gr.of_alloc hW
    have xp : boxAt Wnpn (w3p.heap.size) [.pointer none] := by
      have h := boxAt.new (w := w3p) [.pointer none] _ hW
      exact h
    have hFT : w1.heap.size < w3p.heap.size := by have h := xf2.lt (by simp); exact h
    have xf := xf2.later hb
    have xr := xr2.later hb
    have hg := hg2.trans hb
    clear xf2 xr2 hg2 hb hW
    have HC := asTop_named (w := Wnpn) e (HE.out.later hg) (w3p.heap.size) (.pointer none) (xp.cell 0 _ rfl) (xp.mark 0 _ rfl) (HF.out.later hg).type
    rw [HV.out] at HC
    refine HC.mono ?_; clear HC; rintro e' w3pnn ⟨wapnn, hb, hm⟩
    replace xr := xr.later hb
    replace xf := xf.later hb
    replace xp := xp.later hb
    replace hg := hg.trans hb
    clear hb
    rw [HN.out] at hm
    obtain ⟨rfl, rfl⟩ := hm
    clear xp hFT
    have c_f0 := xf.cell 0 _ rfl
    have c_f1 := xf.cell 1 _ rfl
    have c_f2 := xf.cell 2 _ rfl
    have c_f3 := xf.cell 3 _ rfl
    have c_f4 := xf.cell 4 _ rfl
    have m_f0 := xf.mark 0 _ rfl
    have m_f1 := xf.mark 1 _ rfl
    have m_f2 := xf.mark 2 _ rfl
    have m_f3 := xf.mark 3 _ rfl
    have m_f4 := xf.mark 4 _ rfl
    have l_f := xf.lt (Nat.succ_pos _)
    go_wp2_with fail
    clear c_f0 c_f1 c_f2 c_f3 c_f4 m_f0 m_f1 m_f2 m_f3 m_f4 l_f
    have xf2 := xf
    have xr2 := xr
    have hg2 := hg
    clear xf xr hg
    go_at_call 60
    refine name_calls (fun Wnpnm hW => ?_)
    have hb : Gr w3pnn Wnpnm := Gr.of_alloc hW
    have xp : boxAt Wnpnm (w3pnn.heap.size) [.pointer none] := by
      have h := boxAt.new (w := w3pnn) [.pointer none] _ hW
      exact h
    have hFT : w1.heap.size < w3pnn.heap.size := by have h := xf2.lt (by simp); exact h
    have xf := xf2.later hb
    have xr := xr2.later hb
    have hg := hg2.trans hb
    clear xf2 xr2 hg2 hb hW
    have HC := asTop_ruled (w := Wnpnm) e (HE.out.later hg) (w3pnn.heap.size) (.pointer none) (xp.cell 0 _ rfl) (xp.mark 0 _ rfl) (HF.out.later hg).type
    rw [HV.out] at HC
    refine HC.mono ?_; clear HC; rintro e' w3pnmr ⟨wapnmr, hb, hm⟩
    replace xr := xr.later hb
    replace xf := xf.later hb
    replace xp := xp.later hb
    replace hg := hg.trans hb
    clear hb
    cases hfi : e.first .ruled with
    | none =>
      have HR := Lib.hid (Er.first_none hfi)
      rw [hfi] at hm
      obtain ⟨rfl, rfl⟩ := hm
      clear hfi xp hFT
      have c_f0 := xf.cell 0 _ rfl
      have c_f1 := xf.cell 1 _ rfl
      have c_f2 := xf.cell 2 _ rfl
      have c_f3 := xf.cell 3 _ rfl
      have c_f4 := xf.cell 4 _ rfl
      have m_f0 := xf.mark 0 _ rfl
      have m_f1 := xf.mark 1 _ rfl
      have m_f2 := xf.mark 2 _ rfl
      have m_f3 := xf.mark 3 _ rfl
      have m_f4 := xf.mark 4 _ rfl
      have l_f := xf.lt (Nat.succ_pos _)
      go_wp2_with fail
      clear c_f0 c_f1 c_f2 c_f3 c_f4 m_f0 m_f1 m_f2 m_f3 m_f4 l_f
      have xf2 := xf
      have xr2 := xr
      have hg2 := hg
      clear xf xr hg
      go_at_call 60
      refine name_calls (fun Wnpnmrn hW => ?_)
      have hb : Gr w3pnmr Wnpnmrn := Gr.of_alloc hW
      have xp : boxAt Wnpnmrn (w3pnmr.heap.size) [.pointer none] := by
        have h := boxAt.new (w := w3pnmr) [.pointer none] _ hW
        exact h
      have hFT : w1.heap.size < w3pnmr.heap.size := by have h := xf2.lt (by simp); exact h
      have xf := xf2.later hb
      have xr := xr2.later hb
      have hg := hg2.trans hb
      clear xf2 xr2 hg2 hb hW
      have HC := asTop_staged (w := Wnpnmrn) e (HE.out.later hg) (w3pnmr.heap.size) (.pointer none) (xp.cell 0 _ rfl) (xp.mark 0 _ rfl) (HF.out.later hg).type
      rw [HV.out] at HC
      refine HC.mono ?_; clear HC; rintro e' w3pnmrns ⟨wapnmrns, hb, hm⟩
      replace xr := xr.later hb
      replace xf := xf.later hb
      replace xp := xp.later hb
      replace hg := hg.trans hb
      clear hb
      cases hfi : e.first .staged with
      | none =>
        have HS := Lib.hid (Er.first_none hfi)
        rw [hfi] at hm
        obtain ⟨rfl, rfl⟩ := hm
        clear hfi xp hFT
        have c_f0 := xf.cell 0 _ rfl
        have c_f1 := xf.cell 1 _ rfl
        have c_f2 := xf.cell 2 _ rfl
        have c_f3 := xf.cell 3 _ rfl
        have c_f4 := xf.cell 4 _ rfl
        have m_f0 := xf.mark 0 _ rfl
        have m_f1 := xf.mark 1 _ rfl
        have m_f2 := xf.mark 2 _ rfl
        have m_f3 := xf.mark 3 _ rfl
        have m_f4 := xf.mark 4 _ rfl
        have l_f := xf.lt (Nat.succ_pos _)
        have c_r0 := xr.cell 0 _ rfl
        have c_r1 := xr.cell 1 _ rfl
        have c_r2 := xr.cell 2 _ rfl
        have c_r3 := xr.cell 3 _ rfl
        have c_r4 := xr.cell 4 _ rfl
        have m_r0 := xr.mark 0 _ rfl
        have m_r1 := xr.mark 1 _ rfl
        have m_r2 := xr.mark 2 _ rfl
        have m_r3 := xr.mark 3 _ rfl
        have m_r4 := xr.mark 4 _ rfl
        have l_r := xr.lt (Nat.succ_pos _)
        go_wp2_with fail
        clear c_f0 c_f1 c_f2 c_f3 c_f4 m_f0 m_f1 m_f2 m_f3 m_f4 l_f
        clear c_r0 c_r1 c_r2 c_r3 c_r4 m_r0 m_r1 m_r2 m_r3 m_r4 l_r
        have xf2 := xf
        have xr2 := xr
        have hg2 := hg
        clear xf xr hg
        refine name_body (fun We hW => ?_)
        have yr : boxAt We W.heap.size [.int .i64 (k : Int), .int .i64 0, .int .i64 0, .int .i64 0, .slice none 0 0] := by rw [hW]; exact ((((xr2.put 0 _ (by simp)).put 1 _ (by simp)).put 2 _ (by simp)).put 3 _ (by simp)).put 4 _ (by simp)
        have hge : Gr W We := by rw [hW]; exact ((((Below.setCell (p := ⟨W.heap.size, 0, none⟩) hg2 (Nat.le_refl _) _).setCell (p := ⟨W.heap.size, 1, none⟩) (Nat.le_refl _) _).setCell (p := ⟨W.heap.size, 2, none⟩) (Nat.le_refl _) _).setCell (p := ⟨W.heap.size, 3, none⟩) (Nat.le_refl _) _).setCell (p := ⟨W.heap.size, 4, none⟩) (Nat.le_refl _) _
        clear hW
        exact bodyPost_ret (v := .agg #[.int .i64 (k : Int), .int .i64 0, .int .i64 0, .int .i64 0, .slice none 0 0]) (by simp [results, Tryz.results28, go_sem, yr.cell 0 _ rfl, yr.cell 1 _ rfl, yr.cell 2 _ rfl, yr.cell 3 _ rfl, yr.cell 4 _ rfl]) rfl ⟨by rw [HS.out, HR.out, HP.out], hge⟩
      | some b =>
        have hc0 := Er.first_some (k := .staged) (by decide) HE.out HOK.out hfi
        rw [hfi] at hm
        obtain ⟨rfl, hw3⟩ := hm
        clear hfi
        obtain ⟨vspnmrn, hsp⟩ : ∃ n, e.say .staged = n := ⟨_, rfl⟩
        rw [hsp] at hc0
        have HS := Lib.hid hsp
        clear hsp
        replace hg : Gr W w3pnmrns := by rw [hw3]; exact Below.setCell (p := ⟨w3pnmr.heap.size, 0, none⟩) hg (by show _ ≤ w3pnmr.heap.size; omega) _
        replace xf : boxAt w3pnmrns (w1.heap.size) [.int .i64 (k : Int), .int .i64 0, .int .i64 0, .int .i64 0, .slice none 0 0] := by rw [hw3]; exact xf.far _ _ (Nat.ne_of_gt hFT)
        replace xr : boxAt w3pnmrns W.heap.size [.int .i64 0, .int .i64 0, .int .i64 0, .int .i64 0, .slice none 0 0] := by rw [hw3]; exact xr.far _ _ (Nat.ne_of_gt (Nat.lt_trans hRF hFT))
        replace xp : boxAt w3pnmrns (w3pnmr.heap.size) [.pointer (some ⟨b, 0, none⟩)] := by rw [hw3]; exact xp.put 0 _ (by simp)
        clear hw3 hFT
        have hcb := hg.cell hc0
        have hbl : b < w3pnmrns.heap.size := World.block_lt_of_cell? _ _ hcb
        clear hc0
        have c_f0 := xf.cell 0 _ rfl
        have c_f1 := xf.cell 1 _ rfl
        have c_f2 := xf.cell 2 _ rfl
        have c_f3 := xf.cell 3 _ rfl
        have c_f4 := xf.cell 4 _ rfl
        have m_f0 := xf.mark 0 _ rfl
        have m_f1 := xf.mark 1 _ rfl
        have m_f2 := xf.mark 2 _ rfl
        have m_f3 := xf.mark 3 _ rfl
        have m_f4 := xf.mark 4 _ rfl
        have l_f := xf.lt (Nat.succ_pos _)
        have c_p0 := xp.cell 0 _ rfl
        have m_p0 := xp.mark 0 _ rfl
        have l_p := xp.lt (Nat.succ_pos _)
        have c_r0 := xr.cell 0 _ rfl
        have c_r1 := xr.cell 1 _ rfl
        have c_r2 := xr.cell 2 _ rfl
        have c_r3 := xr.cell 3 _ rfl
        have c_r4 := xr.cell 4 _ rfl
        have m_r0 := xr.mark 0 _ rfl
        have m_r1 := xr.mark 1 _ rfl
        have m_r2 := xr.mark 2 _ rfl
        have m_r3 := xr.mark 3 _ rfl
        have m_r4 := xr.mark 4 _ rfl
        have l_r := xr.lt (Nat.succ_pos _)
        go_wp2_with fail
        clear c_f0 c_f1 c_f2 c_f3 c_f4 m_f0 m_f1 m_f2 m_f3 m_f4 l_f
        clear c_p0 m_p0 l_p
        clear c_r0 c_r1 c_r2 c_r3 c_r4 m_r0 m_r1 m_r2 m_r3 m_r4 l_r
        have xf2 : boxAt (w3pnmrns.setCell ⟨w1.heap.size, 1, none⟩ (.int .i64 vspnmrn)) (w1.heap.size) [.int .i64 (k : Int), .int .i64 vspnmrn, .int .i64 0, .int .i64 0, .slice none 0 0] := xf.put 1 _ (by simp)
        have xr2 : boxAt (w3pnmrns.setCell ⟨w1.heap.size, 1, none⟩ (.int .i64 vspnmrn)) W.heap.size [.int .i64 0, .int .i64 0, .int .i64 0, .int .i64 0, .slice none 0 0] := xr.far _ _ (Nat.ne_of_gt hRF)
        have hg2 : Gr W (w3pnmrns.setCell ⟨w1.heap.size, 1, none⟩ (.int .i64 vspnmrn)) := Below.setCell (p := ⟨w1.heap.size, 1, none⟩) hg (Nat.le_of_lt hRF) _
        clear xf xr hg
        refine name_body (fun We hW => ?_)
        have yr : boxAt We W.heap.size [.int .i64 (k : Int), .int .i64 vspnmrn, .int .i64 0, .int .i64 0, .slice none 0 0] := by rw [hW]; exact ((((xr2.put 0 _ (by simp)).put 1 _ (by simp)).put 2 _ (by simp)).put 3 _ (by simp)).put 4 _ (by simp)
        have hge : Gr W We := by rw [hW]; exact ((((Below.setCell (p := ⟨W.heap.size, 0, none⟩) hg2 (Nat.le_refl _) _).setCell (p := ⟨W.heap.size, 1, none⟩) (Nat.le_refl _) _).setCell (p := ⟨W.heap.size, 2, none⟩) (Nat.le_refl _) _).setCell (p := ⟨W.heap.size, 3, none⟩) (Nat.le_refl _) _).setCell (p := ⟨W.heap.size, 4, none⟩) (Nat.le_refl _) _
        clear hW
        exact bodyPost_ret (v := .agg #[.int .i64 (k : Int), .int .i64 vspnmrn, .int .i64 0, .int .i64 0, .slice none 0 0]) (by simp [results, Tryz.results28, go_sem, yr.cell 0 _ rfl, yr.cell 1 _ rfl, yr.cell 2 _ rfl, yr.cell 3 _ rfl, yr.cell 4 _ rfl]) rfl ⟨by rw [HS.out, HR.out, HP.out], hge⟩
    | some b =>
      have hc0 := Er.first_some (k := .ruled) (by decide) HE.out HOK.out hfi
      rw [hfi] at hm
      obtain ⟨rfl, hw3⟩ := hm
      clear hfi
      obtain ⟨vrpnm, hsp⟩ : ∃ n, e.say .ruled = n := ⟨_, rfl⟩
      rw [hsp] at hc0
      have HR := Lib.hid hsp
      clear hsp
      replace hg : Gr W w3pnmr := by rw [hw3]; exact Below.setCell (p := ⟨w3pnn.heap.size, 0, none⟩) hg (by show _ ≤ w3pnn.heap.size; omega) _
      replace xf : boxAt w3pnmr (w1.heap.size) [.int .i64 (k : Int), .int .i64 0, .int .i64 0, .int .i64 0, .slice none 0 0] := by rw [hw3]; exact xf.far _ _ (Nat.ne_of_gt hFT)
      replace xr : boxAt w3pnmr W.heap.size [.int .i64 0, .int .i64 0, .int .i64 0, .int .i64 0, .slice none 0 0] := by rw [hw3]; exact xr.far _ _ (Nat.ne_of_gt (Nat.lt_trans hRF hFT))
      replace xp : boxAt w3pnmr (w3pnn.heap.size) [.pointer (some ⟨b, 0, none⟩)] := by rw [hw3]; exact xp.put 0 _ (by simp)
      clear hw3 hFT
      have hcb := hg.cell hc0
      have hbl : b < w3pnmr.heap.size := World.block_lt_of_cell? _ _ hcb
      clear hc0
      have c_f0 := xf.cell 0 _ rfl
      have c_f1 := xf.cell 1 _ rfl
      have c_f2 := xf.cell 2 _ rfl
      have c_f3 := xf.cell 3 _ rfl
      have c_f4 := xf.cell 4 _ rfl
      have m_f0 := xf.mark 0 _ rfl
      have m_f1 := xf.mark 1 _ rfl
      have m_f2 := xf.mark 2 _ rfl
      have m_f3 := xf.mark 3 _ rfl
      have m_f4 := xf.mark 4 _ rfl
      have l_f := xf.lt (Nat.succ_pos _)
      have c_p0 := xp.cell 0 _ rfl
      have m_p0 := xp.mark 0 _ rfl
      have l_p := xp.lt (Nat.succ_pos _)
      go_wp2_with fail
      clear c_f0 c_f1 c_f2 c_f3 c_f4 m_f0 m_f1 m_f2 m_f3 m_f4 l_f
      clear c_p0 m_p0 l_p
      have xf2 : boxAt (w3pnmr.setCell ⟨w1.heap.size, 2, none⟩ (.int .i64 vrpnm)) (w1.heap.size) [.int .i64 (k : Int), .int .i64 0, .int .i64 vrpnm, .int .i64 0, .slice none 0 0] := xf.put 2 _ (by simp)
      have xr2 : boxAt (w3pnmr.setCell ⟨w1.heap.size, 2, none⟩ (.int .i64 vrpnm)) W.heap.size [.int .i64 0, .int .i64 0, .int .i64 0, .int .i64 0, .slice none 0 0] := xr.far _ _ (Nat.ne_of_gt hRF)
      have hg2 : Gr W (w3pnmr.setCell ⟨w1.heap.size, 2, none⟩ (.int .i64 vrpnm)) := Below.setCell (p := ⟨w1.heap.size, 2, none⟩) hg (Nat.le_of_lt hRF) _
      clear xf xr hg
      go_at_call 60
      refine name_calls (fun Wnpnmrs hW => ?_)
      have hb : Gr (w3pnmr.setCell ⟨w1.heap.size, 2, none⟩ (.int .i64 vrpnm)) Wnpnmrs := Gr.of_alloc hW
      have xp : boxAt Wnpnmrs (w3pnmr.heap.size) [.pointer none] := by
        have h := boxAt.new (w := (w3pnmr.setCell ⟨w1.heap.size, 2, none⟩ (.int .i64 vrpnm))) [.pointer none] _ hW
        rw [size_put1] at h; exact h
      have hFT : w1.heap.size < w3pnmr.heap.size := by have h := xf2.lt (by simp); rw [size_put1] at h; exact h
      have xf := xf2.later hb
      have xr := xr2.later hb
      have hg := hg2.trans hb
      clear xf2 xr2 hg2 hb hW
      have HC := asTop_staged (w := Wnpnmrs) e (HE.out.later hg) (w3pnmr.heap.size) (.pointer none) (xp.cell 0 _ rfl) (xp.mark 0 _ rfl) (HF.out.later hg).type
      rw [HV.out] at HC
      refine HC.mono ?_; clear HC; rintro e' w3pnmrss ⟨wapnmrss, hb, hm⟩
      replace xr := xr.later hb
      replace xf := xf.later hb
      replace xp := xp.later hb
      replace hg := hg.trans hb
      clear hb
      cases hfi : e.first .staged with
      | none =>
        have HS := Lib.hid (Er.first_none hfi)
        rw [hfi] at hm
        obtain ⟨rfl, rfl⟩ := hm
        clear hfi xp hFT
        have c_f0 := xf.cell 0 _ rfl
        have c_f1 := xf.cell 1 _ rfl
        have c_f2 := xf.cell 2 _ rfl
        have c_f3 := xf.cell 3 _ rfl
        have c_f4 := xf.cell 4 _ rfl
        have m_f0 := xf.mark 0 _ rfl
        have m_f1 := xf.mark 1 _ rfl
        have m_f2 := xf.mark 2 _ rfl
        have m_f3 := xf.mark 3 _ rfl
        have m_f4 := xf.mark 4 _ rfl
        have l_f := xf.lt (Nat.succ_pos _)
        have c_r0 := xr.cell 0 _ rfl
        have c_r1 := xr.cell 1 _ rfl
        have c_r2 := xr.cell 2 _ rfl
        have c_r3 := xr.cell 3 _ rfl
        have c_r4 := xr.cell 4 _ rfl
        have m_r0 := xr.mark 0 _ rfl
        have m_r1 := xr.mark 1 _ rfl
        have m_r2 := xr.mark 2 _ rfl
        have m_r3 := xr.mark 3 _ rfl
        have m_r4 := xr.mark 4 _ rfl
        have l_r := xr.lt (Nat.succ_pos _)
        go_wp2_with fail
        clear c_f0 c_f1 c_f2 c_f3 c_f4 m_f0 m_f1 m_f2 m_f3 m_f4 l_f
        clear c_r0 c_r1 c_r2 c_r3 c_r4 m_r0 m_r1 m_r2 m_r3 m_r4 l_r
        have xf2 := xf
        have xr2 := xr
        have hg2 := hg
        clear xf xr hg
        refine name_body (fun We hW => ?_)
        have yr : boxAt We W.heap.size [.int .i64 (k : Int), .int .i64 0, .int .i64 vrpnm, .int .i64 0, .slice none 0 0] := by rw [hW]; exact ((((xr2.put 0 _ (by simp)).put 1 _ (by simp)).put 2 _ (by simp)).put 3 _ (by simp)).put 4 _ (by simp)
        have hge : Gr W We := by rw [hW]; exact ((((Below.setCell (p := ⟨W.heap.size, 0, none⟩) hg2 (Nat.le_refl _) _).setCell (p := ⟨W.heap.size, 1, none⟩) (Nat.le_refl _) _).setCell (p := ⟨W.heap.size, 2, none⟩) (Nat.le_refl _) _).setCell (p := ⟨W.heap.size, 3, none⟩) (Nat.le_refl _) _).setCell (p := ⟨W.heap.size, 4, none⟩) (Nat.le_refl _) _
        clear hW
        exact bodyPost_ret (v := .agg #[.int .i64 (k : Int), .int .i64 0, .int .i64 vrpnm, .int .i64 0, .slice none 0 0]) (by simp [results, Tryz.results28, go_sem, yr.cell 0 _ rfl, yr.cell 1 _ rfl, yr.cell 2 _ rfl, yr.cell 3 _ rfl, yr.cell 4 _ rfl]) rfl ⟨by rw [HS.out, HR.out, HP.out], hge⟩
      | some b =>
        have hc0 := Er.first_some (k := .staged) (by decide) HE.out HOK.out hfi
        rw [hfi] at hm
        obtain ⟨rfl, hw3⟩ := hm
        clear hfi
        obtain ⟨vspnmrs, hsp⟩ : ∃ n, e.say .staged = n := ⟨_, rfl⟩
        rw [hsp] at hc0
        have HS := Lib.hid hsp
        clear hsp
        replace hg : Gr W w3pnmrss := by rw [hw3]; exact Below.setCell (p := ⟨w3pnmr.heap.size, 0, none⟩) hg (by show _ ≤ w3pnmr.heap.size; omega) _
        replace xf : boxAt w3pnmrss (w1.heap.size) [.int .i64 (k : Int), .int .i64 0, .int .i64 vrpnm, .int .i64 0, .slice none 0 0] := by rw [hw3]; exact xf.far _ _ (Nat.ne_of_gt hFT)
        replace xr : boxAt w3pnmrss W.heap.size [.int .i64 0, .int .i64 0, .int .i64 0, .int .i64 0, .slice none 0 0] := by rw [hw3]; exact xr.far _ _ (Nat.ne_of_gt (Nat.lt_trans hRF hFT))
        replace xp : boxAt w3pnmrss (w3pnmr.heap.size) [.pointer (some ⟨b, 0, none⟩)] := by rw [hw3]; exact xp.put 0 _ (by simp)
        clear hw3 hFT
        have hcb := hg.cell hc0
        have hbl : b < w3pnmrss.heap.size := World.block_lt_of_cell? _ _ hcb
        clear hc0
        have c_f0 := xf.cell 0 _ rfl
        have c_f1 := xf.cell 1 _ rfl
        have c_f2 := xf.cell 2 _ rfl
        have c_f3 := xf.cell 3 _ rfl
        have c_f4 := xf.cell 4 _ rfl
        have m_f0 := xf.mark 0 _ rfl
        have m_f1 := xf.mark 1 _ rfl
        have m_f2 := xf.mark 2 _ rfl
        have m_f3 := xf.mark 3 _ rfl
        have m_f4 := xf.mark 4 _ rfl
        have l_f := xf.lt (Nat.succ_pos _)
        have c_p0 := xp.cell 0 _ rfl
        have m_p0 := xp.mark 0 _ rfl
        have l_p := xp.lt (Nat.succ_pos _)
        have c_r0 := xr.cell 0 _ rfl
        have c_r1 := xr.cell 1 _ rfl
        have c_r2 := xr.cell 2 _ rfl
        have c_r3 := xr.cell 3 _ rfl
        have c_r4 := xr.cell 4 _ rfl
        have m_r0 := xr.mark 0 _ rfl
        have m_r1 := xr.mark 1 _ rfl
        have m_r2 := xr.mark 2 _ rfl
        have m_r3 := xr.mark 3 _ rfl
        have m_r4 := xr.mark 4 _ rfl
        have l_r := xr.lt (Nat.succ_pos _)
        go_wp2_with fail
        clear c_f0 c_f1 c_f2 c_f3 c_f4 m_f0 m_f1 m_f2 m_f3 m_f4 l_f
        clear c_p0 m_p0 l_p
        clear c_r0 c_r1 c_r2 c_r3 c_r4 m_r0 m_r1 m_r2 m_r3 m_r4 l_r
        have xf2 : boxAt (w3pnmrss.setCell ⟨w1.heap.size, 1, none⟩ (.int .i64 vspnmrs)) (w1.heap.size) [.int .i64 (k : Int), .int .i64 vspnmrs, .int .i64 vrpnm, .int .i64 0, .slice none 0 0] := xf.put 1 _ (by simp)
        have xr2 : boxAt (w3pnmrss.setCell ⟨w1.heap.size, 1, none⟩ (.int .i64 vspnmrs)) W.heap.size [.int .i64 0, .int .i64 0, .int .i64 0, .int .i64 0, .slice none 0 0] := xr.far _ _ (Nat.ne_of_gt hRF)
        have hg2 : Gr W (w3pnmrss.setCell ⟨w1.heap.size, 1, none⟩ (.int .i64 vspnmrs)) := Below.setCell (p := ⟨w1.heap.size, 1, none⟩) hg (Nat.le_of_lt hRF) _
        clear xf xr hg
        refine name_body (fun We hW => ?_)
        have yr : boxAt We W.heap.size [.int .i64 (k : Int), .int .i64 vspnmrs, .int .i64 vrpnm, .int .i64 0, .slice none 0 0] := by rw [hW]; exact ((((xr2.put 0 _ (by simp)).put 1 _ (by simp)).put 2 _ (by simp)).put 3 _ (by simp)).put 4 _ (by simp)
        have hge : Gr W We := by rw [hW]; exact ((((Below.setCell (p := ⟨W.heap.size, 0, none⟩) hg2 (Nat.le_refl _) _).setCell (p := ⟨W.heap.size, 1, none⟩) (Nat.le_refl _) _).setCell (p := ⟨W.heap.size, 2, none⟩) (Nat.le_refl _) _).setCell (p := ⟨W.heap.size, 3, none⟩) (Nat.le_refl _) _).setCell (p := ⟨W.heap.size, 4, none⟩) (Nat.le_refl _) _
        clear hW
        exact bodyPost_ret (v := .agg #[.int .i64 (k : Int), .int .i64 vspnmrs, .int .i64 vrpnm, .int .i64 0, .slice none 0 0]) (by simp [results, Tryz.results28, go_sem, yr.cell 0 _ rfl, yr.cell 1 _ rfl, yr.cell 2 _ rfl, yr.cell 3 _ rfl, yr.cell 4 _ rfl]) rfl ⟨by rw [HS.out, HR.out, HP.out], hge⟩
  | some b =>
    have hc0 := Er.first_some (k := .placed) (by decide) HE.out HOK.out hfi
    rw [hfi] at hm
    obtain ⟨rfl, hw3⟩ := hm
    clear hfi
    obtain ⟨vp, hsp⟩ : ∃ n, e.say .placed = n := ⟨_, rfl⟩
    rw [hsp] at hc0
    have HP := Lib.hid hsp
    clear hsp
    replace hg : Gr W w3p := by rw [hw3]; exact Below.setCell (p := ⟨w1.heap.size + 1, 0, none⟩) hg (by show _ ≤ w1.heap.size + 1; omega) _
    replace xf : boxAt w3p (w1.heap.size) [.int .i64 (k : Int), .int .i64 0, .int .i64 0, .int .i64 0, .slice none 0 0] := by rw [hw3]; exact xf.far _ _ (Nat.ne_of_gt hFT)
    replace xr : boxAt w3p W.heap.size [.int .i64 0, .int .i64 0, .int .i64 0, .int .i64 0, .slice none 0 0] := by rw [hw3]; exact xr.far _ _ (Nat.ne_of_gt (Nat.lt_trans hRF hFT))
    replace xp : boxAt w3p (w1.heap.size + 1) [.pointer (some ⟨b, 0, none⟩)] := by rw [hw3]; exact xp.put 0 _ (by simp)
    clear hw3 hFT
    have hcb := hg.cell hc0
    have hbl : b < w3p.heap.size := World.block_lt_of_cell? _ _ hcb
    clear hc0
    have c_f0 := xf.cell 0 _ rfl
    have c_f1 := xf.cell 1 _ rfl
    have c_f2 := xf.cell 2 _ rfl
    have c_f3 := xf.cell 3 _ rfl
    have c_f4 := xf.cell 4 _ rfl
    have m_f0 := xf.mark 0 _ rfl
    have m_f1 := xf.mark 1 _ rfl
    have m_f2 := xf.mark 2 _ rfl
    have m_f3 := xf.mark 3 _ rfl
    have m_f4 := xf.mark 4 _ rfl
    have l_f := xf.lt (Nat.succ_pos _)
    have c_p0 := xp.cell 0 _ rfl
    have m_p0 := xp.mark 0 _ rfl
    have l_p := xp.lt (Nat.succ_pos _)
    go_wp2_with fail
    clear c_f0 c_f1 c_f2 c_f3 c_f4 m_f0 m_f1 m_f2 m_f3 m_f4 l_f
    clear c_p0 m_p0 l_p
    have xf2 : boxAt (w3p.setCell ⟨w1.heap.size, 3, none⟩ (.int .i64 vp)) (w1.heap.size) [.int .i64 (k : Int), .int .i64 0, .int .i64 0, .int .i64 vp, .slice none 0 0] := xf.put 3 _ (by simp)
    have xr2 : boxAt (w3p.setCell ⟨w1.heap.size, 3, none⟩ (.int .i64 vp)) W.heap.size [.int .i64 0, .int .i64 0, .int .i64 0, .int .i64 0, .slice none 0 0] := xr.far _ _ (Nat.ne_of_gt hRF)
    have hg2 : Gr W (w3p.setCell ⟨w1.heap.size, 3, none⟩ (.int .i64 vp)) := Below.setCell (p := ⟨w1.heap.size, 3, none⟩) hg (Nat.le_of_lt hRF) _
    clear xf xr hg
    go_at_call 60
    refine name_calls (fun Wnps hW => ?_)
    have hb : Gr (w3p.setCell ⟨w1.heap.size, 3, none⟩ (.int .i64 vp)) Wnps := Gr.of_alloc hW
    have xp : boxAt Wnps (w3p.heap.size) [.pointer none] := by
      have h := boxAt.new (w := (w3p.setCell ⟨w1.heap.size, 3, none⟩ (.int .i64 vp))) [.pointer none] _ hW
      rw [size_put1] at h; exact h
    have hFT : w1.heap.size < w3p.heap.size := by have h := xf2.lt (by simp); rw [size_put1] at h; exact h
    have xf := xf2.later hb
    have xr := xr2.later hb
    have hg := hg2.trans hb
    clear xf2 xr2 hg2 hb hW
    have HC := asTop_named (w := Wnps) e (HE.out.later hg) (w3p.heap.size) (.pointer none) (xp.cell 0 _ rfl) (xp.mark 0 _ rfl) (HF.out.later hg).type
    rw [HV.out] at HC
    refine HC.mono ?_; clear HC; rintro e' w3psn ⟨wapsn, hb, hm⟩
    replace xr := xr.later hb
    replace xf := xf.later hb
    replace xp := xp.later hb
    replace hg := hg.trans hb
    clear hb
    rw [HN.out] at hm
    obtain ⟨rfl, rfl⟩ := hm
    clear xp hFT
    have c_f0 := xf.cell 0 _ rfl
    have c_f1 := xf.cell 1 _ rfl
    have c_f2 := xf.cell 2 _ rfl
    have c_f3 := xf.cell 3 _ rfl
    have c_f4 := xf.cell 4 _ rfl
    have m_f0 := xf.mark 0 _ rfl
    have m_f1 := xf.mark 1 _ rfl
    have m_f2 := xf.mark 2 _ rfl
    have m_f3 := xf.mark 3 _ rfl
    have m_f4 := xf.mark 4 _ rfl
    have l_f := xf.lt (Nat.succ_pos _)
    go_wp2_with fail
    clear c_f0 c_f1 c_f2 c_f3 c_f4 m_f0 m_f1 m_f2 m_f3 m_f4 l_f
    have xf2 := xf
    have xr2 := xr
    have hg2 := hg
    clear xf xr hg
    go_at_call 60
    refine name_calls (fun Wnpsm hW => ?_)
    have hb : Gr w3psn Wnpsm := Gr.of_alloc hW
    have xp : boxAt Wnpsm (w3psn.heap.size) [.pointer none] := by
      have h := boxAt.new (w := w3psn) [.pointer none] _ hW
      exact h
    have hFT : w1.heap.size < w3psn.heap.size := by have h := xf2.lt (by simp); exact h
    have xf := xf2.later hb
    have xr := xr2.later hb
    have hg := hg2.trans hb
    clear xf2 xr2 hg2 hb hW
    have HC := asTop_ruled (w := Wnpsm) e (HE.out.later hg) (w3psn.heap.size) (.pointer none) (xp.cell 0 _ rfl) (xp.mark 0 _ rfl) (HF.out.later hg).type
    rw [HV.out] at HC
    refine HC.mono ?_; clear HC; rintro e' w3psmr ⟨wapsmr, hb, hm⟩
    replace xr := xr.later hb
    replace xf := xf.later hb
    replace xp := xp.later hb
    replace hg := hg.trans hb
    clear hb
    cases hfi : e.first .ruled with
    | none =>
      have HR := Lib.hid (Er.first_none hfi)
      rw [hfi] at hm
      obtain ⟨rfl, rfl⟩ := hm
      clear hfi xp hFT
      have c_f0 := xf.cell 0 _ rfl
      have c_f1 := xf.cell 1 _ rfl
      have c_f2 := xf.cell 2 _ rfl
      have c_f3 := xf.cell 3 _ rfl
      have c_f4 := xf.cell 4 _ rfl
      have m_f0 := xf.mark 0 _ rfl
      have m_f1 := xf.mark 1 _ rfl
      have m_f2 := xf.mark 2 _ rfl
      have m_f3 := xf.mark 3 _ rfl
      have m_f4 := xf.mark 4 _ rfl
      have l_f := xf.lt (Nat.succ_pos _)
      go_wp2_with fail
      clear c_f0 c_f1 c_f2 c_f3 c_f4 m_f0 m_f1 m_f2 m_f3 m_f4 l_f
      have xf2 := xf
      have xr2 := xr
      have hg2 := hg
      clear xf xr hg
      go_at_call 60
      refine name_calls (fun Wnpsmrn hW => ?_)
      have hb : Gr w3psmr Wnpsmrn := Gr.of_alloc hW
      have xp : boxAt Wnpsmrn (w3psmr.heap.size) [.pointer none] := by
        have h := boxAt.new (w := w3psmr) [.pointer none] _ hW
        exact h
      have hFT : w1.heap.size < w3psmr.heap.size := by have h := xf2.lt (by simp); exact h
      have xf := xf2.later hb
      have xr := xr2.later hb
      have hg := hg2.trans hb
      clear xf2 xr2 hg2 hb hW
      have HC := asTop_staged (w := Wnpsmrn) e (HE.out.later hg) (w3psmr.heap.size) (.pointer none) (xp.cell 0 _ rfl) (xp.mark 0 _ rfl) (HF.out.later hg).type
      rw [HV.out] at HC
      refine HC.mono ?_; clear HC; rintro e' w3psmrns ⟨wapsmrns, hb, hm⟩
      replace xr := xr.later hb
      replace xf := xf.later hb
      replace xp := xp.later hb
      replace hg := hg.trans hb
      clear hb
      cases hfi : e.first .staged with
      | none =>
        have HS := Lib.hid (Er.first_none hfi)
        rw [hfi] at hm
        obtain ⟨rfl, rfl⟩ := hm
        clear hfi xp hFT
        have c_f0 := xf.cell 0 _ rfl
        have c_f1 := xf.cell 1 _ rfl
        have c_f2 := xf.cell 2 _ rfl
        have c_f3 := xf.cell 3 _ rfl
        have c_f4 := xf.cell 4 _ rfl
        have m_f0 := xf.mark 0 _ rfl
        have m_f1 := xf.mark 1 _ rfl
        have m_f2 := xf.mark 2 _ rfl
        have m_f3 := xf.mark 3 _ rfl
        have m_f4 := xf.mark 4 _ rfl
        have l_f := xf.lt (Nat.succ_pos _)
        have c_r0 := xr.cell 0 _ rfl
        have c_r1 := xr.cell 1 _ rfl
        have c_r2 := xr.cell 2 _ rfl
        have c_r3 := xr.cell 3 _ rfl
        have c_r4 := xr.cell 4 _ rfl
        have m_r0 := xr.mark 0 _ rfl
        have m_r1 := xr.mark 1 _ rfl
        have m_r2 := xr.mark 2 _ rfl
        have m_r3 := xr.mark 3 _ rfl
        have m_r4 := xr.mark 4 _ rfl
        have l_r := xr.lt (Nat.succ_pos _)
        go_wp2_with fail
        clear c_f0 c_f1 c_f2 c_f3 c_f4 m_f0 m_f1 m_f2 m_f3 m_f4 l_f
        clear c_r0 c_r1 c_r2 c_r3 c_r4 m_r0 m_r1 m_r2 m_r3 m_r4 l_r
        have xf2 := xf
        have xr2 := xr
        have hg2 := hg
        clear xf xr hg
        refine name_body (fun We hW => ?_)
        have yr : boxAt We W.heap.size [.int .i64 (k : Int), .int .i64 0, .int .i64 0, .int .i64 vp, .slice none 0 0] := by rw [hW]; exact ((((xr2.put 0 _ (by simp)).put 1 _ (by simp)).put 2 _ (by simp)).put 3 _ (by simp)).put 4 _ (by simp)
        have hge : Gr W We := by rw [hW]; exact ((((Below.setCell (p := ⟨W.heap.size, 0, none⟩) hg2 (Nat.le_refl _) _).setCell (p := ⟨W.heap.size, 1, none⟩) (Nat.le_refl _) _).setCell (p := ⟨W.heap.size, 2, none⟩) (Nat.le_refl _) _).setCell (p := ⟨W.heap.size, 3, none⟩) (Nat.le_refl _) _).setCell (p := ⟨W.heap.size, 4, none⟩) (Nat.le_refl _) _
        clear hW
        exact bodyPost_ret (v := .agg #[.int .i64 (k : Int), .int .i64 0, .int .i64 0, .int .i64 vp, .slice none 0 0]) (by simp [results, Tryz.results28, go_sem, yr.cell 0 _ rfl, yr.cell 1 _ rfl, yr.cell 2 _ rfl, yr.cell 3 _ rfl, yr.cell 4 _ rfl]) rfl ⟨by rw [HS.out, HR.out, HP.out], hge⟩
      | some b =>
        have hc0 := Er.first_some (k := .staged) (by decide) HE.out HOK.out hfi
        rw [hfi] at hm
        obtain ⟨rfl, hw3⟩ := hm
        clear hfi
        obtain ⟨vspsmrn, hsp⟩ : ∃ n, e.say .staged = n := ⟨_, rfl⟩
        rw [hsp] at hc0
        have HS := Lib.hid hsp
        clear hsp
        replace hg : Gr W w3psmrns := by rw [hw3]; exact Below.setCell (p := ⟨w3psmr.heap.size, 0, none⟩) hg (by show _ ≤ w3psmr.heap.size; omega) _
        replace xf : boxAt w3psmrns (w1.heap.size) [.int .i64 (k : Int), .int .i64 0, .int .i64 0, .int .i64 vp, .slice none 0 0] := by rw [hw3]; exact xf.far _ _ (Nat.ne_of_gt hFT)
        replace xr : boxAt w3psmrns W.heap.size [.int .i64 0, .int .i64 0, .int .i64 0, .int .i64 0, .slice none 0 0] := by rw [hw3]; exact xr.far _ _ (Nat.ne_of_gt (Nat.lt_trans hRF hFT))
        replace xp : boxAt w3psmrns (w3psmr.heap.size) [.pointer (some ⟨b, 0, none⟩)] := by rw [hw3]; exact xp.put 0 _ (by simp)
        clear hw3 hFT
        have hcb := hg.cell hc0
        have hbl : b < w3psmrns.heap.size := World.block_lt_of_cell? _ _ hcb
        clear hc0
        have c_f0 := xf.cell 0 _ rfl
        have c_f1 := xf.cell 1 _ rfl
        have c_f2 := xf.cell 2 _ rfl
        have c_f3 := xf.cell 3 _ rfl
        have c_f4 := xf.cell 4 _ rfl
        have m_f0 := xf.mark 0 _ rfl
        have m_f1 := xf.mark 1 _ rfl
        have m_f2 := xf.mark 2 _ rfl
        have m_f3 := xf.mark 3 _ rfl
        have m_f4 := xf.mark 4 _ rfl
        have l_f := xf.lt (Nat.succ_pos _)
        have c_p0 := xp.cell 0 _ rfl
        have m_p0 := xp.mark 0 _ rfl
        have l_p := xp.lt (Nat.succ_pos _)
        have c_r0 := xr.cell 0 _ rfl
        have c_r1 := xr.cell 1 _ rfl
        have c_r2 := xr.cell 2 _ rfl
        have c_r3 := xr.cell 3 _ rfl
        have c_r4 := xr.cell 4 _ rfl
        have m_r0 := xr.mark 0 _ rfl
        have m_r1 := xr.mark 1 _ rfl
        have m_r2 := xr.mark 2 _ rfl
        have m_r3 := xr.mark 3 _ rfl
        have m_r4 := xr.mark 4 _ rfl
        have l_r := xr.lt (Nat.succ_pos _)
        go_wp2_with fail
        clear c_f0 c_f1 c_f2 c_f3 c_f4 m_f0 m_f1 m_f2 m_f3 m_f4 l_f
        clear c_p0 m_p0 l_p
        clear c_r0 c_r1 c_r2 c_r3 c_r4 m_r0 m_r1 m_r2 m_r3 m_r4 l_r
        have xf2 : boxAt (w3psmrns.setCell ⟨w1.heap.size, 1, none⟩ (.int .i64 vspsmrn)) (w1.heap.size) [.int .i64 (k : Int), .int .i64 vspsmrn, .int .i64 0, .int .i64 vp, .slice none 0 0] := xf.put 1 _ (by simp)
        have xr2 : boxAt (w3psmrns.setCell ⟨w1.heap.size, 1, none⟩ (.int .i64 vspsmrn)) W.heap.size [.int .i64 0, .int .i64 0, .int .i64 0, .int .i64 0, .slice none 0 0] := xr.far _ _ (Nat.ne_of_gt hRF)
        have hg2 : Gr W (w3psmrns.setCell ⟨w1.heap.size, 1, none⟩ (.int .i64 vspsmrn)) := Below.setCell (p := ⟨w1.heap.size, 1, none⟩) hg (Nat.le_of_lt hRF) _
        clear xf xr hg
        refine name_body (fun We hW => ?_)
        have yr : boxAt We W.heap.size [.int .i64 (k : Int), .int .i64 vspsmrn, .int .i64 0, .int .i64 vp, .slice none 0 0] := by rw [hW]; exact ((((xr2.put 0 _ (by simp)).put 1 _ (by simp)).put 2 _ (by simp)).put 3 _ (by simp)).put 4 _ (by simp)
        have hge : Gr W We := by rw [hW]; exact ((((Below.setCell (p := ⟨W.heap.size, 0, none⟩) hg2 (Nat.le_refl _) _).setCell (p := ⟨W.heap.size, 1, none⟩) (Nat.le_refl _) _).setCell (p := ⟨W.heap.size, 2, none⟩) (Nat.le_refl _) _).setCell (p := ⟨W.heap.size, 3, none⟩) (Nat.le_refl _) _).setCell (p := ⟨W.heap.size, 4, none⟩) (Nat.le_refl _) _
        clear hW
        exact bodyPost_ret (v := .agg #[.int .i64 (k : Int), .int .i64 vspsmrn, .int .i64 0, .int .i64 vp, .slice none 0 0]) (by simp [results, Tryz.results28, go_sem, yr.cell 0 _ rfl, yr.cell 1 _ rfl, yr.cell 2 _ rfl, yr.cell 3 _ rfl, yr.cell 4 _ rfl]) rfl ⟨by rw [HS.out, HR.out, HP.out], hge⟩
    | some b =>
      have hc0 := Er.first_some (k := .ruled) (by decide) HE.out HOK.out hfi
      rw [hfi] at hm
      obtain ⟨rfl, hw3⟩ := hm
      clear hfi
      obtain ⟨vrpsm, hsp⟩ : ∃ n, e.say .ruled = n := ⟨_, rfl⟩
      rw [hsp] at hc0
      have HR := Lib.hid hsp
      clear hsp
      replace hg : Gr W w3psmr := by rw [hw3]; exact Below.setCell (p := ⟨w3psn.heap.size, 0, none⟩) hg (by show _ ≤ w3psn.heap.size; omega) _
      replace xf : boxAt w3psmr (w1.heap.size) [.int .i64 (k : Int), .int .i64 0, .int .i64 0, .int .i64 vp, .slice none 0 0] := by rw [hw3]; exact xf.far _ _ (Nat.ne_of_gt hFT)
      replace xr : boxAt w3psmr W.heap.size [.int .i64 0, .int .i64 0, .int .i64 0, .int .i64 0, .slice none 0 0] := by rw [hw3]; exact xr.far _ _ (Nat.ne_of_gt (Nat.lt_trans hRF hFT))
      replace xp : boxAt w3psmr (w3psn.heap.size) [.pointer (some ⟨b, 0, none⟩)] := by rw [hw3]; exact xp.put 0 _ (by simp)
      clear hw3 hFT
      have hcb := hg.cell hc0
      have hbl : b < w3psmr.heap.size := World.block_lt_of_cell? _ _ hcb
      clear hc0
      have c_f0 := xf.cell 0 _ rfl
      have c_f1 := xf.cell 1 _ rfl
      have c_f2 := xf.cell 2 _ rfl
      have c_f3 := xf.cell 3 _ rfl
      have c_f4 := xf.cell 4 _ rfl
      have m_f0 := xf.mark 0 _ rfl
      have m_f1 := xf.mark 1 _ rfl
      have m_f2 := xf.mark 2 _ rfl
      have m_f3 := xf.mark 3 _ rfl
      have m_f4 := xf.mark 4 _ rfl
      have l_f := xf.lt (Nat.succ_pos _)
      have c_p0 := xp.cell 0 _ rfl
      have m_p0 := xp.mark 0 _ rfl
      have l_p := xp.lt (Nat.succ_pos _)
      go_wp2_with fail
      clear c_f0 c_f1 c_f2 c_f3 c_f4 m_f0 m_f1 m_f2 m_f3 m_f4 l_f
      clear c_p0 m_p0 l_p
      have xf2 : boxAt (w3psmr.setCell ⟨w1.heap.size, 2, none⟩ (.int .i64 vrpsm)) (w1.heap.size) [.int .i64 (k : Int), .int .i64 0, .int .i64 vrpsm, .int .i64 vp, .slice none 0 0] := xf.put 2 _ (by simp)
      have xr2 : boxAt (w3psmr.setCell ⟨w1.heap.size, 2, none⟩ (.int .i64 vrpsm)) W.heap.size [.int .i64 0, .int .i64 0, .int .i64 0, .int .i64 0, .slice none 0 0] := xr.far _ _ (Nat.ne_of_gt hRF)
      have hg2 : Gr W (w3psmr.setCell ⟨w1.heap.size, 2, none⟩ (.int .i64 vrpsm)) := Below.setCell (p := ⟨w1.heap.size, 2, none⟩) hg (Nat.le_of_lt hRF) _
      clear xf xr hg
      go_at_call 60
      refine name_calls (fun Wnpsmrs hW => ?_)
      have hb : Gr (w3psmr.setCell ⟨w1.heap.size, 2, none⟩ (.int .i64 vrpsm)) Wnpsmrs := Gr.of_alloc hW
      have xp : boxAt Wnpsmrs (w3psmr.heap.size) [.pointer none] := by
        have h := boxAt.new (w := (w3psmr.setCell ⟨w1.heap.size, 2, none⟩ (.int .i64 vrpsm))) [.pointer none] _ hW
        rw [size_put1] at h; exact h
      have hFT : w1.heap.size < w3psmr.heap.size := by have h := xf2.lt (by simp); rw [size_put1] at h; exact h
      have xf := xf2.later hb
      have xr := xr2.later hb
      have hg := hg2.trans hb
      clear xf2 xr2 hg2 hb hW
      have HC := asTop_staged (w := Wnpsmrs) e (HE.out.later hg) (w3psmr.heap.size) (.pointer none) (xp.cell 0 _ rfl) (xp.mark 0 _ rfl) (HF.out.later hg).type
      rw [HV.out] at HC
      refine HC.mono ?_; clear HC; rintro e' w3psmrss ⟨wapsmrss, hb, hm⟩
      replace xr := xr.later hb
      replace xf := xf.later hb
      replace xp := xp.later hb
      replace hg := hg.trans hb
      clear hb
      cases hfi : e.first .staged with
      | none =>
        have HS := Lib.hid (Er.first_none hfi)
        rw [hfi] at hm
        obtain ⟨rfl, rfl⟩ := hm
        clear hfi xp hFT
        have c_f0 := xf.cell 0 _ rfl
        have c_f1 := xf.cell 1 _ rfl
        have c_f2 := xf.cell 2 _ rfl
        have c_f3 := xf.cell 3 _ rfl
        have c_f4 := xf.cell 4 _ rfl
        have m_f0 := xf.mark 0 _ rfl
        have m_f1 := xf.mark 1 _ rfl
        have m_f2 := xf.mark 2 _ rfl
        have m_f3 := xf.mark 3 _ rfl
        have m_f4 := xf.mark 4 _ rfl
        have l_f := xf.lt (Nat.succ_pos _)
        have c_r0 := xr.cell 0 _ rfl
        have c_r1 := xr.cell 1 _ rfl
        have c_r2 := xr.cell 2 _ rfl
        have c_r3 := xr.cell 3 _ rfl
        have c_r4 := xr.cell 4 _ rfl
        have m_r0 := xr.mark 0 _ rfl
        have m_r1 := xr.mark 1 _ rfl
        have m_r2 := xr.mark 2 _ rfl
        have m_r3 := xr.mark 3 _ rfl
        have m_r4 := xr.mark 4 _ rfl
        have l_r := xr.lt (Nat.succ_pos _)
        go_wp2_with fail
        clear c_f0 c_f1 c_f2 c_f3 c_f4 m_f0 m_f1 m_f2 m_f3 m_f4 l_f
        clear c_r0 c_r1 c_r2 c_r3 c_r4 m_r0 m_r1 m_r2 m_r3 m_r4 l_r
        have xf2 := xf
        have xr2 := xr
        have hg2 := hg
        clear xf xr hg
        refine name_body (fun We hW => ?_)
        have yr : boxAt We W.heap.size [.int .i64 (k : Int), .int .i64 0, .int .i64 vrpsm, .int .i64 vp, .slice none 0 0] := by rw [hW]; exact ((((xr2.put 0 _ (by simp)).put 1 _ (by simp)).put 2 _ (by simp)).put 3 _ (by simp)).put 4 _ (by simp)
        have hge : Gr W We := by rw [hW]; exact ((((Below.setCell (p := ⟨W.heap.size, 0, none⟩) hg2 (Nat.le_refl _) _).setCell (p := ⟨W.heap.size, 1, none⟩) (Nat.le_refl _) _).setCell (p := ⟨W.heap.size, 2, none⟩) (Nat.le_refl _) _).setCell (p := ⟨W.heap.size, 3, none⟩) (Nat.le_refl _) _).setCell (p := ⟨W.heap.size, 4, none⟩) (Nat.le_refl _) _
        clear hW
        exact bodyPost_ret (v := .agg #[.int .i64 (k : Int), .int .i64 0, .int .i64 vrpsm, .int .i64 vp, .slice none 0 0]) (by simp [results, Tryz.results28, go_sem, yr.cell 0 _ rfl, yr.cell 1 _ rfl, yr.cell 2 _ rfl, yr.cell 3 _ rfl, yr.cell 4 _ rfl]) rfl ⟨by rw [HS.out, HR.out, HP.out], hge⟩
      | some b =>
        have hc0 := Er.first_some (k := .staged) (by decide) HE.out HOK.out hfi
        rw [hfi] at hm
        obtain ⟨rfl, hw3⟩ := hm
        clear hfi
        obtain ⟨vspsmrs, hsp⟩ : ∃ n, e.say .staged = n := ⟨_, rfl⟩
        rw [hsp] at hc0
        have HS := Lib.hid hsp
        clear hsp
        replace hg : Gr W w3psmrss := by rw [hw3]; exact Below.setCell (p := ⟨w3psmr.heap.size, 0, none⟩) hg (by show _ ≤ w3psmr.heap.size; omega) _
        replace xf : boxAt w3psmrss (w1.heap.size) [.int .i64 (k : Int), .int .i64 0, .int .i64 vrpsm, .int .i64 vp, .slice none 0 0] := by rw [hw3]; exact xf.far _ _ (Nat.ne_of_gt hFT)
        replace xr : boxAt w3psmrss W.heap.size [.int .i64 0, .int .i64 0, .int .i64 0, .int .i64 0, .slice none 0 0] := by rw [hw3]; exact xr.far _ _ (Nat.ne_of_gt (Nat.lt_trans hRF hFT))
        replace xp : boxAt w3psmrss (w3psmr.heap.size) [.pointer (some ⟨b, 0, none⟩)] := by rw [hw3]; exact xp.put 0 _ (by simp)
        clear hw3 hFT
        have hcb := hg.cell hc0
        have hbl : b < w3psmrss.heap.size := World.block_lt_of_cell? _ _ hcb
        clear hc0
        have c_f0 := xf.cell 0 _ rfl
        have c_f1 := xf.cell 1 _ rfl
        have c_f2 := xf.cell 2 _ rfl
        have c_f3 := xf.cell 3 _ rfl
        have c_f4 := xf.cell 4 _ rfl
        have m_f0 := xf.mark 0 _ rfl
        have m_f1 := xf.mark 1 _ rfl
        have m_f2 := xf.mark 2 _ rfl
        have m_f3 := xf.mark 3 _ rfl
        have m_f4 := xf.mark 4 _ rfl
        have l_f := xf.lt (Nat.succ_pos _)
        have c_p0 := xp.cell 0 _ rfl
        have m_p0 := xp.mark 0 _ rfl
        have l_p := xp.lt (Nat.succ_pos _)
        have c_r0 := xr.cell 0 _ rfl
        have c_r1 := xr.cell 1 _ rfl
        have c_r2 := xr.cell 2 _ rfl
        have c_r3 := xr.cell 3 _ rfl
        have c_r4 := xr.cell 4 _ rfl
        have m_r0 := xr.mark 0 _ rfl
        have m_r1 := xr.mark 1 _ rfl
        have m_r2 := xr.mark 2 _ rfl
        have m_r3 := xr.mark 3 _ rfl
        have m_r4 := xr.mark 4 _ rfl
        have l_r := xr.lt (Nat.succ_pos _)
        go_wp2_with fail
        clear c_f0 c_f1 c_f2 c_f3 c_f4 m_f0 m_f1 m_f2 m_f3 m_f4 l_f
        clear c_p0 m_p0 l_p
        clear c_r0 c_r1 c_r2 c_r3 c_r4 m_r0 m_r1 m_r2 m_r3 m_r4 l_r
        have xf2 : boxAt (w3psmrss.setCell ⟨w1.heap.size, 1, none⟩ (.int .i64 vspsmrs)) (w1.heap.size) [.int .i64 (k : Int), .int .i64 vspsmrs, .int .i64 vrpsm, .int .i64 vp, .slice none 0 0] := xf.put 1 _ (by simp)
        have xr2 : boxAt (w3psmrss.setCell ⟨w1.heap.size, 1, none⟩ (.int .i64 vspsmrs)) W.heap.size [.int .i64 0, .int .i64 0, .int .i64 0, .int .i64 0, .slice none 0 0] := xr.far _ _ (Nat.ne_of_gt hRF)
        have hg2 : Gr W (w3psmrss.setCell ⟨w1.heap.size, 1, none⟩ (.int .i64 vspsmrs)) := Below.setCell (p := ⟨w1.heap.size, 1, none⟩) hg (Nat.le_of_lt hRF) _
        clear xf xr hg
        refine name_body (fun We hW => ?_)
        have yr : boxAt We W.heap.size [.int .i64 (k : Int), .int .i64 vspsmrs, .int .i64 vrpsm, .int .i64 vp, .slice none 0 0] := by rw [hW]; exact ((((xr2.put 0 _ (by simp)).put 1 _ (by simp)).put 2 _ (by simp)).put 3 _ (by simp)).put 4 _ (by simp)
        have hge : Gr W We := by rw [hW]; exact ((((Below.setCell (p := ⟨W.heap.size, 0, none⟩) hg2 (Nat.le_refl _) _).setCell (p := ⟨W.heap.size, 1, none⟩) (Nat.le_refl _) _).setCell (p := ⟨W.heap.size, 2, none⟩) (Nat.le_refl _) _).setCell (p := ⟨W.heap.size, 3, none⟩) (Nat.le_refl _) _).setCell (p := ⟨W.heap.size, 4, none⟩) (Nat.le_refl _) _
        clear hW
        exact bodyPost_ret (v := .agg #[.int .i64 (k : Int), .int .i64 vspsmrs, .int .i64 vrpsm, .int .i64 vp, .slice none 0 0]) (by simp [results, Tryz.results28, go_sem, yr.cell 0 _ rfl, yr.cell 1 _ rfl, yr.cell 2 _ rfl, yr.cell 3 _ rfl, yr.cell 4 _ rfl]) rfl ⟨by rw [HS.out, HR.out, HP.out], hge⟩

end Go.Proofs.YtkkopdmemjncdaaGreatDoor

/- fault's errors and errors' type variable, out of a row that lists them. No condition. -/
namespace Go.Proofs.YtkkopdmemjncdaaGreatDoor
open Go Go.ChangeShapes Go.WideShapes Go.ChangeAt Go.RowKit

def sentD (x : String × List UInt8) : String × DataW Unit := (x.1, .iface "*errors.errorString" (.ptr (.agg [.lit (.string x.2)])))
set_option maxRecDepth 100000 in
/-- Each variable of a list of sentinels holds one; no two are one. -/
theorem sentinels {W : World} (L : List (String × List UInt8)) : ∀ (ps : List MemPlace), DataW.LaidVars Tryz.prog W (L.map sentD) ps → ps.Nodup →
    (∀ b off, MemPlace.cell b off ∈ ps → (∃ c t, W.heap[b]? = some (.cells c t (0, 0))) ∧ ∀ u v, W.cell? ⟨b, off, none⟩ = some (.iface u v) → Value.okWide Tryz.prog W .any 0 u v) →
    (∀ x, x ∈ L → ∃ g, Tryz.prog.globalNamed x.1 = some g ∧ (Tryz.prog.globals[g]?).map (·.type) = some 41) →
    ∃ ss : List Addr, ss.length = L.length ∧ (∀ (i : Nat) (x : String × List UInt8) (a : Addr), L[i]? = some x → ss[i]? = some a → W.var? Tryz.prog x.1 = some #[.iface 220 (.pointer (some a))] ∧ (∃ c t, W.heap[a.block]? = some (.cells c t (0, 0))) ∧ ∃ s0, W.cell? a = some (.string s0) ∧ s0.data.toList = x.2) ∧
      (∀ a, a ∈ ss → MemPlace.cell a.block a.off ∈ ps) ∧ ss.Nodup := by
  induction L with
  | nil => intro ps _ _ _ _; exact ⟨[], rfl, fun i x a h => by simp at h, fun a h => (by cases h), List.nodup_nil⟩
  | cons x L ih =>
    intro ps h hnd hr hg
    obtain ⟨g0, t0, cs0, f0, p0, q0, hg0, ht0, hv0, hd0, hq, e0⟩ := h
    obtain ⟨g, hgx, htx⟩ := hg x (by simp)
    obtain rfl := Option.some.inj (hgx.symm.trans hg0)
    obtain rfl := Option.some.inj (htx.symm.trans ht0)
    subst e0
    obtain ⟨l0⟩ := cs0
    have ok0 : ∀ u v, l0 = [.iface u v] → Value.okWide Tryz.prog W .any 0 u v := fun u v e => by
      subst e
      exact (hr g 0 (by simp [MemPlace.row])).2 u v (by simpa using World.var?_cell hg0 hv0 0)
    obtain ⟨a0, s0, rfl, hc0, hs0, hz0, rfl⟩ := errorString_of_trod (nm := "*errors.errorString") Tryz.underlying41 row_es Tryz.underlying220 Tryz.underlying241 rfl rfl Tryz.underlying9 cells_es cells_st hd0 ok0
    have hm0 : MemPlace.cell a0.block a0.off ∈ MemPlace.row a0 1 := by simp [MemPlace.row]
    have hnq := List.nodup_append.1 hnd
    obtain ⟨ss, h1, h2, h3, h4⟩ := ih q0 hq hnq.2.1 (fun b off hb => hr b off (List.mem_append_right _ hb)) (fun y hy => hg y (by simp [hy]))
    refine ⟨a0 :: ss, by simp [h1], fun i y a hy ha => ?_, fun a ha => ?_, ?_⟩
    · cases i with
      | zero =>
        simp only [List.getElem?_cons_zero, Option.some.injEq] at hy ha
        subst hy ha
        exact ⟨hv0, (hr _ _ (List.mem_append_left _ (List.mem_append_right _ hm0))).1, s0, hc0, hs0⟩
      | succ i =>
        simp only [List.getElem?_cons_succ] at hy ha
        exact h2 i y a hy ha
    · rcases List.mem_cons.1 ha with rfl | ha
      · exact List.mem_append_left _ (List.mem_append_right _ hm0)
      · exact List.mem_append_right _ (h3 a ha)
    · refine List.nodup_cons.2 ⟨fun ha => ?_, h4⟩
      exact hnq.2.2 _ (List.mem_append_right _ hm0) _ (h3 a0 ha) rfl

def faultNames : List (String × List UInt8) := [("bolter/fault.ErrLong", [116, 111, 111, 32, 108, 111, 110, 103]), ("bolter/fault.ErrSyntax", [115, 121, 110, 116, 97, 120]), ("bolter/fault.ErrDeep", [116, 111, 111, 32, 100, 101, 101, 112]), ("bolter/fault.ErrMany", [116, 111, 111, 32, 109, 97, 110, 121]), ("bolter/fault.ErrName", [110, 97, 109, 101]), ("bolter/fault.ErrDefCycle", [100, 101, 102, 105, 110, 105, 116, 105, 111, 110, 32, 99, 121, 99, 108, 101]), ("bolter/fault.ErrRepeat", [114, 101, 112, 101, 97, 116]), ("bolter/fault.ErrTooManyPositions", [116, 111, 111, 32, 109, 97, 110, 121, 32, 112, 111, 115, 105, 116, 105, 111, 110, 115]), ("bolter/fault.ErrTrail", [116, 114, 97, 105, 108, 105, 110, 103, 32, 99, 111, 110, 116, 101, 120, 116]), ("bolter/fault.ErrTooManyStates", [116, 111, 111, 32, 109, 97, 110, 121, 32, 115, 116, 97, 116, 101, 115]), ("bolter/fault.ErrImage", [105, 109, 97, 103, 101]), ("bolter/fault.ErrModeStack", [109, 111, 100, 101, 32, 115, 116, 97, 99, 107]), ("bolter/fault.ErrClosed", [99, 108, 111, 115, 101, 100]), ("bolter/fault.ErrArg", [97, 114, 103, 117, 109, 101, 110, 116]), ("bolter/fault.ErrCommand", [99, 111, 109, 109, 97, 110, 100]), ("bolter/fault.ErrHandle", [104, 97, 110, 100, 108, 101])]

theorem row_eq : (Rows.namesExactRow.laid.filter fun x => x.2.handleName?.isNone) = faultNames.map sentD := rfl
theorem row_hd : (Rows.namesExactRow.laid.filter fun x => x.2.handleName?.isSome) = [("errors.errorType", Rows.laid_errors_errorType)] := rfl
theorem names_met : ∀ k, k < 16 → ∃ n s, faultNames[k]? = some (n, s) ∧ Tryz.prog.globalNamed n = some (glOf (k + 2)) ∧ (Tryz.prog.globals[glOf (k + 2)]?).map (·.type) = some 41 := by
  intro k hk
  have h : (List.range 16).all (fun k => match faultNames[k]? with | some x => decide (Tryz.prog.globalNamed x.1 = some (glOf (k + 2))) && decide ((Tryz.prog.globals[glOf (k + 2)]?).map (·.type) = some 41) | none => false) = true := by kernel_rfl
  have := List.all_eq_true.1 h k (List.mem_range.2 hk)
  split at this
  · rename_i x hx
    simp only [Bool.and_eq_true, decide_eq_true_eq] at this
    exact ⟨x.1, x.2, hx, this.1, this.2⟩
  · cases this
theorem ty_named : Tryz.prog.globalNamed "errors.errorType" = some 2 := by kernel_rfl
theorem ty_row : (Tryz.prog.cutTypes.find? (·.1 == "internal/reflectlite.rtype")).map (·.2) = some 184 := by kernel_rfl
theorem ty_size : Tryz.prog.types.size = 253 := by kernel_rfl
theorem ty_one : ((List.range 253).filter fun t => Tryz.prog.rowNamed t [101, 114, 114, 111, 114]) = [41] := by kernel_rfl

theorem faults_texts {W : World} (h : laidMetH Tryz.prog Rows.namesExactRow.laid W) : ∃ s, FaultsIn W s ∧ ∀ k, 2 ≤ k → k ≤ 17 → ∃ s0, W.cell? (s k) = some (.string s0) ∧ s0.data.toList = (faultNames.getD (k - 2) default).2 := by
  unfold laidMetH at h
  rw [row_hd] at h
  obtain ⟨hm, hh⟩ := h
  rw [row_eq] at hm
  obtain ⟨ps, hl, hnd, hr⟩ := hm
  have hlen : faultNames.length = 16 := rfl
  obtain ⟨ss, h1, h2, _, h4⟩ := sentinels faultNames ps hl hnd hr (fun x hx => by
    obtain ⟨k, hk⟩ := List.mem_iff_getElem?.1 hx
    have hk16 : k < 16 := by
      have := (List.getElem?_eq_some_iff.1 hk).1; omega
    obtain ⟨n, s, e1, e2, e3⟩ := names_met k hk16
    rw [e1] at hk
    injection hk with hk
    subst hk
    exact ⟨_, e2, e3⟩)
  rw [hlen] at h1
  have at' : ∀ i, 2 ≤ i → i ≤ 17 → ss[i - 2]? = some (ss.getD (i - 2) default) := fun i a b => by
    rw [List.getD_eq_getElem?_getD, List.getElem?_eq_getElem (by omega)]; rfl
  have fact : ∀ i, 2 ≤ i → i ≤ 17 → W.cell? ⟨glOf i, 0, none⟩ = some (.iface 220 (.pointer (some (ss.getD (i - 2) default)))) ∧ (∃ c t, W.heap[(ss.getD (i - 2) default).block]? = some (.cells c t (0, 0))) ∧ ∃ s0, W.cell? (ss.getD (i - 2) default) = some (.string s0) ∧ s0.data.toList = (faultNames.getD (i - 2) default).2 := fun i a b => by
    obtain ⟨n, s, e1, e2, e3⟩ := names_met (i - 2) (by omega)
    rw [Nat.sub_add_cancel a] at e2
    obtain ⟨g1, g2⟩ := h2 (i - 2) (n, s) _ e1 (at' i a b)
    exact ⟨by simpa using World.var?_cell e2 g1 0, g2.1, by rw [show faultNames.getD (i - 2) default = (n, s) by rw [List.getD_eq_getElem?_getD, e1]; rfl]; exact g2.2⟩
  refine ⟨fun i => ss.getD (i - 2) default, ⟨fun i a b => (fact i a b).1, fun i a b => (fact i a b).2.1, fun i j a b c d e => ?_, ?_⟩, fun i a b => (fact i a b).2.2⟩
  · have e1 := at' i a b
    have e2 := at' j c d
    rw [show ss.getD (i - 2) default = ss.getD (j - 2) default from e] at e1
    obtain ⟨g1, g2⟩ := List.getElem?_eq_some_iff.1 e1
    obtain ⟨g3, g4⟩ := List.getElem?_eq_some_iff.1 e2
    have hp := List.pairwise_iff_getElem.1 h4
    rcases Nat.lt_trichotomy (i - 2) (j - 2) with k | k | k
    · exact absurd (g2.trans g4.symm) (hp _ _ g1 g3 k)
    · omega
    · exact absurd (g4.trans g2.symm) (hp _ _ g3 g1 k)
  · obtain ⟨name, u, ty, e1, e2, e3, e4, e5⟩ := hh _ (List.mem_singleton.2 rfl)
    have en : name = [101, 114, 114, 111, 114] := (Option.some.inj e1).symm
    subst en
    obtain rfl := Option.some.inj (ty_row.symm.trans e2)
    have hm : ty ∈ (List.range 253).filter fun t => Tryz.prog.rowNamed t [101, 114, 114, 111, 114] := List.mem_filter.2 ⟨List.mem_range.2 (by rw [← ty_size]; exact e3), e4⟩
    rw [ty_one] at hm
    obtain rfl := List.mem_singleton.1 hm
    have hh : typeHandle Tryz.prog 41 = .pointer (some ⟨17, 41, none⟩) := by kernel_rfl
    rw [hh] at e5
    simpa using World.var?_cell ty_named e5 0

theorem faults_of {W : World} (h : laidMetH Tryz.prog Rows.namesExactRow.laid W) : ∃ s, FaultsIn W s := by
  obtain ⟨s, h1, _⟩ := faults_texts h
  exact ⟨s, h1⟩

/-- A world that meets the condition. -/
def touch (w0 : World) : World :=
  { w0 with heap := w0.heap.modify 2 fun
      | .cells _ t frozen => .cells #[.iface 184 (.agg #[.pointer (some ⟨17, 41, none⟩)])] t frozen
      | o => o }
theorem touch_os (w0 : World) : (touch w0).os = w0.os := rfl
noncomputable def laidF (os : Os) : World := touch (World.laidAll Tryz.prog os (faultNames.map sentD))
theorem laidF_os (os : Os) : (laidF os).os = os := (touch_os _).trans (World.laidAll_os _ _ _)
set_option maxRecDepth 100000 in
theorem laidF_met (os : Os) (args : Array Value) : laidMetH Tryz.prog Rows.namesExactRow.laid ((laidF os).forCall (fun _ _ => 0) ⟨#[], args, []⟩).memory :=
  laidMetH_of_parts (laidMet_of_run' 8 (by kernel_rfl) (by kernel_rfl)) (by kernel_rfl)

end Go.Proofs.YtkkopdmemjncdaaGreatDoor

/- fault: Code, Tell of no error. No condition. -/
namespace Go.Proofs.YtkkopdmemjncdaaGreatDoor
open Go Go.RowKit

set_option maxRecDepth 100000 in
theorem code_nil (w : World) : Calls Tryz.prog 59 #[.nilIface] w fun e w' => e = .returned (.int .i64 0) ∧ Gr w w' := by
  go_enter Tryz.func59, Tryz.ntmps59
  go_wp2_with fail
  go_ret
  exact ⟨rfl, Gr.refl _⟩
set_option maxRecDepth 100000 in
theorem as_nil (t : TypeId) (v : Value) (w : World) : Calls Tryz.prog 60 #[.nilIface, .iface t v] w fun e w' => e = .returned (.bool false) ∧ Gr w w' := by
  go_enter Tryz.func60, Tryz.ntmps60
  go_wp2_with fail
  go_ret
  exact ⟨rfl, Gr.refl _⟩
set_option maxRecDepth 100000 in
set_option maxHeartbeats 4000000 in
theorem tell_nil (w : World) : Calls Tryz.prog 28 #[.nilIface] w fun e w' => e = .returned (.agg #[.int .i64 0, .int .i64 0, .int .i64 0, .int .i64 0, .slice none 0 0]) ∧ Gr w w' := by
  go_enter Tryz.func28, Tryz.ntmps28
  go_wp2_with fail
  go_at_call 59
  refine name_calls (fun W0 hW => ?_)
  have xr : boxAt W0 w.heap.size [.int .i64 0, .int .i64 0, .int .i64 0, .int .i64 0, .slice none 0 0] := boxAt.new _ _ hW
  have hg := Gr.of_alloc hW
  clear hW
  refine (code_nil W0).mono ?_; rintro e' w1 ⟨rfl, hb⟩
  replace xr := xr.later hb
  replace hg := hg.trans hb
  clear hb
  go_wp2_with fail
  go_at_call 60
  refine name_calls (fun W1 hW => ?_)
  obtain ⟨xf, xp, hb, _⟩ : boxAt W1 w1.heap.size [.int .i64 0, .int .i64 0, .int .i64 0, .int .i64 0, .slice none 0 0] ∧ boxAt W1 (w1.heap.size + 1) [.pointer none] ∧ Gr w1 W1 ∧ W1.heap.size = w1.heap.size + 2 := by rw [hW]; exact bx2 _ _ _ _ _
  replace xr := xr.later hb
  replace hg := hg.trans hb
  clear hb hW xp
  refine (as_nil _ _ W1).mono ?_; rintro e' w2 ⟨rfl, hb⟩
  replace xr := xr.later hb
  replace xf := xf.later hb
  replace hg := hg.trans hb
  clear hb
  have c_r0 := xr.cell 0 _ rfl
  have c_r1 := xr.cell 1 _ rfl
  have c_r2 := xr.cell 2 _ rfl
  have c_r3 := xr.cell 3 _ rfl
  have c_r4 := xr.cell 4 _ rfl
  have m_r0 := xr.mark 0 _ rfl
  have m_r1 := xr.mark 1 _ rfl
  have m_r2 := xr.mark 2 _ rfl
  have m_r3 := xr.mark 3 _ rfl
  have m_r4 := xr.mark 4 _ rfl
  have l_r := xr.lt (Nat.succ_pos _)
  have c_f0 := xf.cell 0 _ rfl
  have c_f1 := xf.cell 1 _ rfl
  have c_f2 := xf.cell 2 _ rfl
  have c_f3 := xf.cell 3 _ rfl
  have c_f4 := xf.cell 4 _ rfl
  have m_f0 := xf.mark 0 _ rfl
  have m_f1 := xf.mark 1 _ rfl
  have m_f2 := xf.mark 2 _ rfl
  have m_f3 := xf.mark 3 _ rfl
  have m_f4 := xf.mark 4 _ rfl
  have l_f := xf.lt (Nat.succ_pos _)
  go_wp2_with fail
  clear c_r0 c_r1 c_r2 c_r3 c_r4 m_r0 m_r1 m_r2 m_r3 m_r4 l_r
  clear c_f0 c_f1 c_f2 c_f3 c_f4 m_f0 m_f1 m_f2 m_f3 m_f4 l_f
  go_at_call 60
  refine name_calls (fun W2 hW => ?_)
  have hb : Gr w2 W2 := Gr.of_alloc hW
  replace xr := xr.later hb
  replace xf := xf.later hb
  replace hg := hg.trans hb
  clear hb hW
  refine (as_nil _ _ W2).mono ?_; rintro e' w3 ⟨rfl, hb⟩
  replace xr := xr.later hb
  replace xf := xf.later hb
  replace hg := hg.trans hb
  clear hb
  have c_r0 := xr.cell 0 _ rfl
  have c_r1 := xr.cell 1 _ rfl
  have c_r2 := xr.cell 2 _ rfl
  have c_r3 := xr.cell 3 _ rfl
  have c_r4 := xr.cell 4 _ rfl
  have m_r0 := xr.mark 0 _ rfl
  have m_r1 := xr.mark 1 _ rfl
  have m_r2 := xr.mark 2 _ rfl
  have m_r3 := xr.mark 3 _ rfl
  have m_r4 := xr.mark 4 _ rfl
  have l_r := xr.lt (Nat.succ_pos _)
  have c_f0 := xf.cell 0 _ rfl
  have c_f1 := xf.cell 1 _ rfl
  have c_f2 := xf.cell 2 _ rfl
  have c_f3 := xf.cell 3 _ rfl
  have c_f4 := xf.cell 4 _ rfl
  have m_f0 := xf.mark 0 _ rfl
  have m_f1 := xf.mark 1 _ rfl
  have m_f2 := xf.mark 2 _ rfl
  have m_f3 := xf.mark 3 _ rfl
  have m_f4 := xf.mark 4 _ rfl
  have l_f := xf.lt (Nat.succ_pos _)
  go_wp2_with fail
  clear c_r0 c_r1 c_r2 c_r3 c_r4 m_r0 m_r1 m_r2 m_r3 m_r4 l_r
  clear c_f0 c_f1 c_f2 c_f3 c_f4 m_f0 m_f1 m_f2 m_f3 m_f4 l_f
  go_at_call 60
  refine name_calls (fun W3 hW => ?_)
  have hb : Gr w3 W3 := Gr.of_alloc hW
  replace xr := xr.later hb
  replace xf := xf.later hb
  replace hg := hg.trans hb
  clear hb hW
  refine (as_nil _ _ W3).mono ?_; rintro e' w4 ⟨rfl, hb⟩
  replace xr := xr.later hb
  replace xf := xf.later hb
  replace hg := hg.trans hb
  clear hb
  have c_r0 := xr.cell 0 _ rfl
  have c_r1 := xr.cell 1 _ rfl
  have c_r2 := xr.cell 2 _ rfl
  have c_r3 := xr.cell 3 _ rfl
  have c_r4 := xr.cell 4 _ rfl
  have m_r0 := xr.mark 0 _ rfl
  have m_r1 := xr.mark 1 _ rfl
  have m_r2 := xr.mark 2 _ rfl
  have m_r3 := xr.mark 3 _ rfl
  have m_r4 := xr.mark 4 _ rfl
  have l_r := xr.lt (Nat.succ_pos _)
  have c_f0 := xf.cell 0 _ rfl
  have c_f1 := xf.cell 1 _ rfl
  have c_f2 := xf.cell 2 _ rfl
  have c_f3 := xf.cell 3 _ rfl
  have c_f4 := xf.cell 4 _ rfl
  have m_f0 := xf.mark 0 _ rfl
  have m_f1 := xf.mark 1 _ rfl
  have m_f2 := xf.mark 2 _ rfl
  have m_f3 := xf.mark 3 _ rfl
  have m_f4 := xf.mark 4 _ rfl
  have l_f := xf.lt (Nat.succ_pos _)
  go_wp2_with fail
  clear c_r0 c_r1 c_r2 c_r3 c_r4 m_r0 m_r1 m_r2 m_r3 m_r4 l_r
  clear c_f0 c_f1 c_f2 c_f3 c_f4 m_f0 m_f1 m_f2 m_f3 m_f4 l_f
  go_at_call 60
  refine name_calls (fun W4 hW => ?_)
  have hb : Gr w4 W4 := Gr.of_alloc hW
  replace xr := xr.later hb
  replace xf := xf.later hb
  replace hg := hg.trans hb
  clear hb hW
  refine (as_nil _ _ W4).mono ?_; rintro e' w5 ⟨rfl, hb⟩
  replace xr := xr.later hb
  replace xf := xf.later hb
  replace hg := hg.trans hb
  clear hb
  have c_r0 := xr.cell 0 _ rfl
  have c_r1 := xr.cell 1 _ rfl
  have c_r2 := xr.cell 2 _ rfl
  have c_r3 := xr.cell 3 _ rfl
  have c_r4 := xr.cell 4 _ rfl
  have m_r0 := xr.mark 0 _ rfl
  have m_r1 := xr.mark 1 _ rfl
  have m_r2 := xr.mark 2 _ rfl
  have m_r3 := xr.mark 3 _ rfl
  have m_r4 := xr.mark 4 _ rfl
  have l_r := xr.lt (Nat.succ_pos _)
  have c_f0 := xf.cell 0 _ rfl
  have c_f1 := xf.cell 1 _ rfl
  have c_f2 := xf.cell 2 _ rfl
  have c_f3 := xf.cell 3 _ rfl
  have c_f4 := xf.cell 4 _ rfl
  have m_f0 := xf.mark 0 _ rfl
  have m_f1 := xf.mark 1 _ rfl
  have m_f2 := xf.mark 2 _ rfl
  have m_f3 := xf.mark 3 _ rfl
  have m_f4 := xf.mark 4 _ rfl
  have l_f := xf.lt (Nat.succ_pos _)
  go_wp2_with fail
  refine name_body (fun W9 hW => ?_)
  have yb : boxAt W9 w.heap.size [.int .i64 0, .int .i64 0, .int .i64 0, .int .i64 0, .slice none 0 0] := by
    subst hW
    exact ((((xr.put 0 _ (by simp)).put 1 _ (by simp)).put 2 _ (by simp)).put 3 _ (by simp)).put 4 _ (by simp)
  have c_y0 := yb.cell 0 _ rfl
  have c_y1 := yb.cell 1 _ rfl
  have c_y2 := yb.cell 2 _ rfl
  have c_y3 := yb.cell 3 _ rfl
  have c_y4 := yb.cell 4 _ rfl
  have m_y0 := yb.mark 0 _ rfl
  have m_y1 := yb.mark 1 _ rfl
  have m_y2 := yb.mark 2 _ rfl
  have m_y3 := yb.mark 3 _ rfl
  have m_y4 := yb.mark 4 _ rfl
  have l_y := yb.lt (Nat.succ_pos _)
  refine bodyPost_ret (v := .agg #[.int .i64 0, .int .i64 0, .int .i64 0, .int .i64 0, .slice none 0 0]) (by simp [results, Tryz.results28, go_sem, c_y0, c_y1, c_y2, c_y3, c_y4]) rfl ⟨rfl, ?_⟩
  subst hW
  exact ((((hg.setCell (p := ⟨w.heap.size, 0, none⟩) (Nat.le_refl _) _).setCell (p := ⟨w.heap.size, 1, none⟩) (Nat.le_refl _) _).setCell (p := ⟨w.heap.size, 2, none⟩) (Nat.le_refl _) _).setCell (p := ⟨w.heap.size, 3, none⟩) (Nat.le_refl _) _).setCell (p := ⟨w.heap.size, 4, none⟩) (Nat.le_refl _) _

end Go.Proofs.YtkkopdmemjncdaaGreatDoor
