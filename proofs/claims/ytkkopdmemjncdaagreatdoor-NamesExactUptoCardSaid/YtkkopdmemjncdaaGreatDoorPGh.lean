/- Texts of mine, put together: Tell, Faults, TellNil, KitSame. No condition but what each says. -/
import Derived.Test.YtkkopdmemjncdaaGreatDoorPGc
import Derived.Test.YtkkopdmemjncdaaGreatDoorPHb
import Derived.LaidHandle
import Derived.LaidLaws
namespace Go.Proofs.YtkkopdmemjncdaaGreatDoor
open Go Go.RowKit
def glOf : Nat → Nat
 | 2 => 4
 | 3 => 5
 | 4 => 6
 | 5 => 7
 | 6 => 3
 | 7 => 1
 | 8 => 8
 | 9 => 9
 | 10 => 10
 | 11 => 11
 | 12 => 12
 | 13 => 13
 | 14 => 14
 | 15 => 0
 | 16 => 15
 | 17 => 16
 | _ => 0
structure FaultsIn (W : World) (s : Nat → Addr) : Prop where
 var : ∀ i, 2 ≤ i → i ≤ 17 → W.cell? ⟨glOf i, 0, none⟩ = some (.iface 220 (.pointer (some (s i))))
 row : ∀ i, 2 ≤ i → i ≤ 17 → ∃ c t, W.heap[(s i).block]? = some (.cells c t (0, 0))
 inj : ∀ i j, 2 ≤ i → i ≤ 17 → 2 ≤ j → j ≤ 17 → s i = s j → i = j
 type : W.cell? ⟨2, 0, none⟩ = some (.iface 184 (.agg #[.pointer (some ⟨17, 41, none⟩)]))
theorem FaultsIn.later {w w' : World} {s : Nat → Addr} (h : FaultsIn w s) (hG : Gr w w') : FaultsIn w' s :=
 ⟨fun i a b => hG.cell (h.var i a b), fun i a b => by obtain ⟨c, t, hr⟩ := h.row i a b; exact ⟨c, t, row_later hr hG⟩, h.inj, hG.cell h.type⟩
theorem FaultsIn.leaf {W : World} {s : Nat → Addr} (h : FaultsIn W s) (i : Nat) (a : 2 ≤ i) (b : i ≤ 17) : (Er.leaf (s i)).In W := h.row i a b
def Er.say (k : Wr) : Er → Int
 | .leaf _ => 0
 | .wrap k' _ x e => if k' = k then (match x with | .int _ n => n | _ => 0) else e.say k
def Er.ok : Er → Prop
 | .leaf _ => True
 | .wrap k _ x e => (k ≠ .named → ∃ n, x = .int .i64 n) ∧ e.ok
theorem Er.first_none {k : Wr} : ∀ {e : Er}, e.first k = none → e.say k = 0
 | .leaf _, _ => rfl
 |
  .wrap k' _ _ e, h => by
  unfold Er.first at h
  unfold Er.say
  split at h
  · cases h
  · rename_i hk; rw [if_neg hk]; exact Er.first_none h
theorem Er.first_some {k : Wr} {W : World} {b : Nat} (hk : k ≠ .named) : ∀ {e : Er}, e.In W → e.ok → e.first k = some b → W.cell? ⟨b, 1, none⟩ = some (.int .i64 (e.say k))
 | .leaf _, _, _, h => by cases h
 |
  .wrap k' b' x e, ⟨_, h2, h3⟩, ⟨g1, g2⟩, h => by
  unfold Er.first at h
  unfold Er.say
  split at h
  ·
   rename_i he
   subst he
   injection h with h
   subst h
   obtain ⟨n, rfl⟩ := g1 hk
   rw [if_pos rfl]; exact h2
  ·
   rename_i he
   rw [if_neg he]; exact Er.first_some hk h3 g2 h
set_option maxRecDepth 100000 in
set_option maxHeartbeats 4000000 in
theorem faultOf_any {W : World} {s : Nat → Addr} (hF : FaultsIn W s) (i : Nat) (h1 : 2 ≤ i) (h2 : i ≤ 17) : Calls Tryz.prog 91 #[.int .i64 (i : Int)] W fun x w' => x = .returned (.iface 220 (.pointer (some (s i)))) ∧ Gr W w' := by
 have hc := hF.var i h1 h2
 have hl := World.block_lt_of_cell? W _ hc
 obtain ⟨x, hx⟩ : ∃ x, s i = x := ⟨_, rfl⟩
 rw [hx] at hc ⊢
 clear hx hF
 have hi : i = 2 ∨ i = 3 ∨ i = 4 ∨ i = 5 ∨ i = 6 ∨ i = 7 ∨ i = 8 ∨ i = 9 ∨ i = 10 ∨ i = 11 ∨ i = 12 ∨ i = 13 ∨ i = 14 ∨ i = 15 ∨ i = 16 ∨ i = 17 := by omega
 rcases hi with rfl | rfl | rfl | rfl | rfl | rfl | rfl | rfl | rfl | rfl | rfl | rfl | rfl | rfl | rfl | rfl
 ·
  change W.cell? ⟨4, 0, none⟩ = _ at hc
  change 4 < _ at hl
  go_enter Tryz.func91, Tryz.ntmps91
  go_wp2_with fail
  go_ret
  exact ⟨rfl, Gr.refl _⟩
 ·
  change W.cell? ⟨5, 0, none⟩ = _ at hc
  change 5 < _ at hl
  go_enter Tryz.func91, Tryz.ntmps91
  go_wp2_with fail
  go_ret
  exact ⟨rfl, Gr.refl _⟩
 ·
  change W.cell? ⟨6, 0, none⟩ = _ at hc
  change 6 < _ at hl
  go_enter Tryz.func91, Tryz.ntmps91
  go_wp2_with fail
  go_ret
  exact ⟨rfl, Gr.refl _⟩
 ·
  change W.cell? ⟨7, 0, none⟩ = _ at hc
  change 7 < _ at hl
  go_enter Tryz.func91, Tryz.ntmps91
  go_wp2_with fail
  go_ret
  exact ⟨rfl, Gr.refl _⟩
 ·
  change W.cell? ⟨3, 0, none⟩ = _ at hc
  change 3 < _ at hl
  go_enter Tryz.func91, Tryz.ntmps91
  go_wp2_with fail
  go_ret
  exact ⟨rfl, Gr.refl _⟩
 ·
  change W.cell? ⟨1, 0, none⟩ = _ at hc
  change 1 < _ at hl
  go_enter Tryz.func91, Tryz.ntmps91
  go_wp2_with fail
  go_ret
  exact ⟨rfl, Gr.refl _⟩
 ·
  change W.cell? ⟨8, 0, none⟩ = _ at hc
  change 8 < _ at hl
  go_enter Tryz.func91, Tryz.ntmps91
  go_wp2_with fail
  go_ret
  exact ⟨rfl, Gr.refl _⟩
 ·
  change W.cell? ⟨9, 0, none⟩ = _ at hc
  change 9 < _ at hl
  go_enter Tryz.func91, Tryz.ntmps91
  go_wp2_with fail
  go_ret
  exact ⟨rfl, Gr.refl _⟩
 ·
  change W.cell? ⟨10, 0, none⟩ = _ at hc
  change 10 < _ at hl
  go_enter Tryz.func91, Tryz.ntmps91
  go_wp2_with fail
  go_ret
  exact ⟨rfl, Gr.refl _⟩
 ·
  change W.cell? ⟨11, 0, none⟩ = _ at hc
  change 11 < _ at hl
  go_enter Tryz.func91, Tryz.ntmps91
  go_wp2_with fail
  go_ret
  exact ⟨rfl, Gr.refl _⟩
 ·
  change W.cell? ⟨12, 0, none⟩ = _ at hc
  change 12 < _ at hl
  go_enter Tryz.func91, Tryz.ntmps91
  go_wp2_with fail
  go_ret
  exact ⟨rfl, Gr.refl _⟩
 ·
  change W.cell? ⟨13, 0, none⟩ = _ at hc
  change 13 < _ at hl
  go_enter Tryz.func91, Tryz.ntmps91
  go_wp2_with fail
  go_ret
  exact ⟨rfl, Gr.refl _⟩
 ·
  change W.cell? ⟨14, 0, none⟩ = _ at hc
  change 14 < _ at hl
  go_enter Tryz.func91, Tryz.ntmps91
  go_wp2_with fail
  go_ret
  exact ⟨rfl, Gr.refl _⟩
 ·
  change W.cell? ⟨0, 0, none⟩ = _ at hc
  change 0 < _ at hl
  go_enter Tryz.func91, Tryz.ntmps91
  go_wp2_with fail
  go_ret
  exact ⟨rfl, Gr.refl _⟩
 ·
  change W.cell? ⟨15, 0, none⟩ = _ at hc
  change 15 < _ at hl
  go_enter Tryz.func91, Tryz.ntmps91
  go_wp2_with fail
  go_ret
  exact ⟨rfl, Gr.refl _⟩
 ·
  change W.cell? ⟨16, 0, none⟩ = _ at hc
  change 16 < _ at hl
  go_enter Tryz.func91, Tryz.ntmps91
  go_wp2_with fail
  go_ret
  exact ⟨rfl, Gr.refl _⟩
set_option maxRecDepth 100000 in
set_option maxHeartbeats 4000000 in
theorem code_any {W : World} {s : Nat → Addr} (hF : FaultsIn W s) (e : Er) (he : e.In W) (k : Nat) (hk1 : 2 ≤ k) (hk2 : k ≤ 17) (hb : e.base = s k) : Calls Tryz.prog 59 #[e.val] W fun x w' => x = .returned (.int .i64 (k : Int)) ∧ Gr W w' := by
 have HF := Lib.hid hF
 have HE := Lib.hid he
 have HB := Lib.hid hb
 have HK1 := Lib.hid hk1
 obtain ⟨t0, p0, hv0⟩ := e.val_iface
 have HV := Lib.hid hv0
 rw [hv0]
 clear hv0 he hF hb hk1
 go_enter Tryz.func59, Tryz.ntmps59
 go_wp2_with fail
 go_loopw [3] (fun i wr => ∃ j : Nat, 2 ≤ j ∧ j ≤ k ∧ i = .int .i64 (j : Int) ∧ Gr W wr) (fun i _ => 18 - (intOf i).toNat)
 case atStart => exact ⟨2, by omega, HK1.out, rfl, Gr.refl _⟩
 case round =>
  obtain ⟨j, hj1, hj2, rfl, hg⟩ := hrel
  have hj17 : (j : Int) ≤ 17 := by omega
  go_wp2_with fail
  go_at_call 91
  refine (faultOf_any (HF.out.later hg) j hj1 (by omega)).mono ?_; rintro e' w1 ⟨rfl, hb1⟩
  replace hg := hg.trans hb1
  clear hb1
  go_wp2_with fail
  go_at_call 90
  obtain ⟨cb, tb, hrow⟩ := (HF.out.later hg).row j hj1 (by omega)
  have HC := isTop_any (s j) cb tb hrow e (HE.out.later hg)
  rw [HV.out] at HC
  refine HC.mono ?_; clear HC hrow; rintro e' w2 ⟨rfl, hb1⟩
  replace hg := hg.trans hb1
  clear hb1
  by_cases hjk : j = k
  ·
   subst hjk
   rw [decide_eq_true HB.out]
   go_wp2_with fail
   go_ret
   exact ⟨rfl, hg⟩
  ·
   have hne : ¬ e.base = s j := fun h => hjk (HF.out.inj j k hj1 (by omega) HK1.out hk2 (h.symm.trans HB.out))
   rw [decide_eq_false hne]
   clear hne
   go_wp2_with fail
   go_roundw
   case rel => exact ⟨j + 1, by omega, by omega, by go_num, hg⟩
   case measure => simp [intOf]; omega
end Go.Proofs.YtkkopdmemjncdaaGreatDoor
namespace Go.Proofs.YtkkopdmemjncdaaGreatDoor
open Go Go.ChangeShapes Go.WideShapes Go.ChangeAt Go.RowKit
def sentD (x : String × List UInt8) : String × DataW Unit := (x.1, .iface "*errors.errorString" (.ptr (.agg [.lit (.string x.2)])))
set_option maxRecDepth 100000 in
theorem
    sentinels {W : World} (L : List (String × List UInt8)) : ∀ (ps : List MemPlace), DataW.LaidVars Tryz.prog W (L.map sentD) ps → ps.Nodup →
  (∀ b off, MemPlace.cell b off ∈ ps → (∃ c t, W.heap[b]? = some (.cells c t (0, 0))) ∧ ∀ u v, W.cell? ⟨b, off, none⟩ = some (.iface u v) → Value.okWide Tryz.prog W .any 0 u v) →
  (∀ x, x ∈ L → ∃ g, Tryz.prog.globalNamed x.1 = some g ∧ (Tryz.prog.globals[g]?).map (·.type) = some 41) →
  ∃
   ss : List Addr, ss.length = L.length ∧ (∀ (i : Nat) (x : String × List UInt8) (a : Addr), L[i]? = some x → ss[i]? = some a → W.var? Tryz.prog x.1 = some #[.iface 220 (.pointer (some a))] ∧ (∃ c t, W.heap[a.block]? = some (.cells c t (0, 0))) ∧ ∃ s0, W.cell? a = some (.string s0) ∧ s0.data.toList = x.2) ∧
   (∀ a, a ∈ ss → MemPlace.cell a.block a.off ∈ ps) ∧ ss.Nodup := by
 induction L with
 | nil => intro ps _ _ _ _; exact ⟨[], rfl, fun i x a h => by simp at h, fun a h => (by cases h), List.nodup_nil⟩
 |
  cons x L ih =>
  intro ps h hnd hr hg
  obtain ⟨g0, t0, cs0, f0, p0, q0, hg0, ht0, hv0, hd0, hq, e0⟩ := h
  obtain ⟨g, hgx, htx⟩ := hg x (by simp)
  obtain rfl := Option.some.inj (hgx.symm.trans hg0)
  obtain rfl := Option.some.inj (htx.symm.trans ht0)
  subst e0
  obtain ⟨l0⟩ := cs0
  have ok0 : ∀ u v, l0 = [.iface u v] → Value.okWide Tryz.prog W .any 0 u v := fun u v e => by
   subst e
   exact (hr g 0 (by simp [MemPlace.row])).2 u v (by simpa using World.var?_cell hg0 hv0 0)
  obtain ⟨a0, s0, rfl, hc0, hs0, hz0, rfl⟩ := errorString_of_trod (nm := "*errors.errorString") Tryz.underlying41 row_es Tryz.underlying220 Tryz.underlying241 rfl rfl Tryz.underlying9 cells_es cells_st hd0 ok0
  have hm0 : MemPlace.cell a0.block a0.off ∈ MemPlace.row a0 1 := by simp [MemPlace.row]
  have hnq := List.nodup_append.1 hnd
  obtain ⟨ss, h1, h2, h3, h4⟩ := ih q0 hq hnq.2.1 (fun b off hb => hr b off (List.mem_append_right _ hb)) (fun y hy => hg y (by simp [hy]))
  refine ⟨a0 :: ss, by simp [h1], fun i y a hy ha => ?_, fun a ha => ?_, ?_⟩
  ·
   cases i with
   |
    zero =>
    simp only [List.getElem?_cons_zero, Option.some.injEq] at hy ha
    subst hy ha
    exact ⟨hv0, (hr _ _ (List.mem_append_left _ (List.mem_append_right _ hm0))).1, s0, hc0, hs0⟩
   |
    succ i =>
    simp only [List.getElem?_cons_succ] at hy ha
    exact h2 i y a hy ha
  ·
   rcases List.mem_cons.1 ha with rfl | ha
   · exact List.mem_append_left _ (List.mem_append_right _ hm0)
   · exact List.mem_append_right _ (h3 a ha)
  ·
   refine List.nodup_cons.2 ⟨fun ha => ?_, h4⟩
   exact hnq.2.2 _ (List.mem_append_right _ hm0) _ (h3 a0 ha) rfl
def faultNames : List (String × List UInt8) := [("bolter/fault.ErrLong", [116, 111, 111, 32, 108, 111, 110, 103]), ("bolter/fault.ErrSyntax", [115, 121, 110, 116, 97, 120]), ("bolter/fault.ErrDeep", [116, 111, 111, 32, 100, 101, 101, 112]), ("bolter/fault.ErrMany", [116, 111, 111, 32, 109, 97, 110, 121]), ("bolter/fault.ErrName", [110, 97, 109, 101]), ("bolter/fault.ErrDefCycle", [100, 101, 102, 105, 110, 105, 116, 105, 111, 110, 32, 99, 121, 99, 108, 101]), ("bolter/fault.ErrRepeat", [114, 101, 112, 101, 97, 116]), ("bolter/fault.ErrTooManyPositions", [116, 111, 111, 32, 109, 97, 110, 121, 32, 112, 111, 115, 105, 116, 105, 111, 110, 115]), ("bolter/fault.ErrTrail", [116, 114, 97, 105, 108, 105, 110, 103, 32, 99, 111, 110, 116, 101, 120, 116]), ("bolter/fault.ErrTooManyStates", [116, 111, 111, 32, 109, 97, 110, 121, 32, 115, 116, 97, 116, 101, 115]), ("bolter/fault.ErrImage", [105, 109, 97, 103, 101]), ("bolter/fault.ErrModeStack", [109, 111, 100, 101, 32, 115, 116, 97, 99, 107]), ("bolter/fault.ErrClosed", [99, 108, 111, 115, 101, 100]), ("bolter/fault.ErrArg", [97, 114, 103, 117, 109, 101, 110, 116]), ("bolter/fault.ErrCommand", [99, 111, 109, 109, 97, 110, 100]), ("bolter/fault.ErrHandle", [104, 97, 110, 100, 108, 101])]
theorem row_eq : (Rows.namesExactRow.laid.filter fun x => x.2.handleName?.isNone) = faultNames.map sentD := rfl
theorem row_hd : (Rows.namesExactRow.laid.filter fun x => x.2.handleName?.isSome) = [("errors.errorType", Rows.laid_errors_errorType)] := rfl
theorem names_met : ∀ k, k < 16 → ∃ n s, faultNames[k]? = some (n, s) ∧ Tryz.prog.globalNamed n = some (glOf (k + 2)) ∧ (Tryz.prog.globals[glOf (k + 2)]?).map (·.type) = some 41 := by
 intro k hk
 have h : (List.range 16).all (fun k => match faultNames[k]? with | some x => decide (Tryz.prog.globalNamed x.1 = some (glOf (k + 2))) && decide ((Tryz.prog.globals[glOf (k + 2)]?).map (·.type) = some 41) | none => false) = true := by kernel_rfl
 have := List.all_eq_true.1 h k (List.mem_range.2 hk)
 split at this
 ·
  rename_i x hx
  simp only [Bool.and_eq_true, decide_eq_true_eq] at this
  exact ⟨x.1, x.2, hx, this.1, this.2⟩
 · cases this
theorem ty_named : Tryz.prog.globalNamed "errors.errorType" = some 2 := by kernel_rfl
theorem ty_row : (Tryz.prog.cutTypes.find? (·.1 == "internal/reflectlite.rtype")).map (·.2) = some 184 := by kernel_rfl
theorem ty_size : Tryz.prog.types.size = 253 := by kernel_rfl
theorem ty_one : ((List.range 253).filter fun t => Tryz.prog.rowNamed t [101, 114, 114, 111, 114]) = [41] := by kernel_rfl
theorem faults_texts {W : World} (h : laidMetH Tryz.prog Rows.namesExactRow.laid W) : ∃ s, FaultsIn W s ∧ ∀ k, 2 ≤ k → k ≤ 17 → ∃ s0, W.cell? (s k) = some (.string s0) ∧ s0.data.toList = (faultNames.getD (k - 2) default).2 := by
 unfold laidMetH at h
 rw [row_hd] at h
 obtain ⟨hm, hh⟩ := h
 rw [row_eq] at hm
 obtain ⟨ps, hl, hnd, hr⟩ := hm
 have hlen : faultNames.length = 16 := rfl
 obtain ⟨ss, h1, h2, _, h4⟩ := sentinels faultNames ps hl hnd hr (fun x hx => by
  obtain ⟨k, hk⟩ := List.mem_iff_getElem?.1 hx
  have hk16 : k < 16 := by
   have := (List.getElem?_eq_some_iff.1 hk).1; omega
  obtain ⟨n, s, e1, e2, e3⟩ := names_met k hk16
  rw [e1] at hk
  injection hk with hk
  subst hk
  exact ⟨_, e2, e3⟩)
 rw [hlen] at h1
 have at' : ∀ i, 2 ≤ i → i ≤ 17 → ss[i - 2]? = some (ss.getD (i - 2) default) := fun i a b => by
  rw [List.getD_eq_getElem?_getD, List.getElem?_eq_getElem (by omega)]; rfl
 have fact : ∀ i, 2 ≤ i → i ≤ 17 → W.cell? ⟨glOf i, 0, none⟩ = some (.iface 220 (.pointer (some (ss.getD (i - 2) default)))) ∧ (∃ c t, W.heap[(ss.getD (i - 2) default).block]? = some (.cells c t (0, 0))) ∧ ∃ s0, W.cell? (ss.getD (i - 2) default) = some (.string s0) ∧ s0.data.toList = (faultNames.getD (i - 2) default).2 := fun i a b => by
  obtain ⟨n, s, e1, e2, e3⟩ := names_met (i - 2) (by omega)
  rw [Nat.sub_add_cancel a] at e2
  obtain ⟨g1, g2⟩ := h2 (i - 2) (n, s) _ e1 (at' i a b)
  exact ⟨by simpa using World.var?_cell e2 g1 0, g2.1, by rw [show faultNames.getD (i - 2) default = (n, s) by rw [List.getD_eq_getElem?_getD, e1]; rfl]; exact g2.2⟩
 refine ⟨fun i => ss.getD (i - 2) default, ⟨fun i a b => (fact i a b).1, fun i a b => (fact i a b).2.1, fun i j a b c d e => ?_, ?_⟩, fun i a b => (fact i a b).2.2⟩
 ·
  have e1 := at' i a b
  have e2 := at' j c d
  rw [show ss.getD (i - 2) default = ss.getD (j - 2) default from e] at e1
  obtain ⟨g1, g2⟩ := List.getElem?_eq_some_iff.1 e1
  obtain ⟨g3, g4⟩ := List.getElem?_eq_some_iff.1 e2
  have hp := List.pairwise_iff_getElem.1 h4
  rcases Nat.lt_trichotomy (i - 2) (j - 2) with k | k | k
  · exact absurd (g2.trans g4.symm) (hp _ _ g1 g3 k)
  · omega
  · exact absurd (g4.trans g2.symm) (hp _ _ g3 g1 k)
 ·
  obtain ⟨name, u, ty, e1, e2, e3, e4, e5⟩ := hh _ (List.mem_singleton.2 rfl)
  have en : name = [101, 114, 114, 111, 114] := (Option.some.inj e1).symm
  subst en
  obtain rfl := Option.some.inj (ty_row.symm.trans e2)
  have hm : ty ∈ (List.range 253).filter fun t => Tryz.prog.rowNamed t [101, 114, 114, 111, 114] := List.mem_filter.2 ⟨List.mem_range.2 (by rw [← ty_size]; exact e3), e4⟩
  rw [ty_one] at hm
  obtain rfl := List.mem_singleton.1 hm
  have hh : typeHandle Tryz.prog 41 = .pointer (some ⟨17, 41, none⟩) := by kernel_rfl
  rw [hh] at e5
  simpa using World.var?_cell ty_named e5 0
theorem faults_of {W : World} (h : laidMetH Tryz.prog Rows.namesExactRow.laid W) : ∃ s, FaultsIn W s := by
 obtain ⟨s, h1, _⟩ := faults_texts h
 exact ⟨s, h1⟩
def touch (w0 : World) : World :=
 { w0 with heap := w0.heap.modify 2 fun
   | .cells _ t frozen => .cells #[.iface 184 (.agg #[.pointer (some ⟨17, 41, none⟩)])] t frozen
   | o => o }
theorem touch_os (w0 : World) : (touch w0).os = w0.os := rfl
noncomputable def laidF (os : Os) : World := touch (World.laidAll Tryz.prog os (faultNames.map sentD))
theorem laidF_os (os : Os) : (laidF os).os = os := (touch_os _).trans (World.laidAll_os _ _ _)
set_option maxRecDepth 100000 in
theorem laidF_met (os : Os) (args : Array Value) : laidMetH Tryz.prog Rows.namesExactRow.laid ((laidF os).forCall (fun _ _ => 0) ⟨#[], args, []⟩).memory :=
 laidMetH_of_parts (laidMet_of_run' 8 (by kernel_rfl) (by kernel_rfl)) (by kernel_rfl)
end Go.Proofs.YtkkopdmemjncdaaGreatDoor
namespace Go.Proofs.YtkkopdmemjncdaaGreatDoor
open Go Go.RowKit
end Go.Proofs.YtkkopdmemjncdaaGreatDoor
namespace Go.Proofs.YtkkopdmemjncdaaGreatDoor
open Go Go.RowKit
theorem same_nil (w : World) : Calls Tryz.prog 13 #[.nilIface, .agg #[.int .i64 0, .int .i64 0, .int .i64 0, .int .i64 0, .slice none 0 0]] w fun e w' => e = .returned (.bool true) ∧ Gr w w' := by
 go_enter Tryz.func13, Tryz.ntmps13
 go_wp2_with fail
 go_ret
 exact ⟨rfl, Gr.alloc _ _⟩
end Go.Proofs.YtkkopdmemjncdaaGreatDoor
