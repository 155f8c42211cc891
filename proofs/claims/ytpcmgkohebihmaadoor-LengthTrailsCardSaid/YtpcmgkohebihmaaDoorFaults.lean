/- fault's errors and errors' type variable, out of a row that lists them. No condition. -/
import Derived.Test.YtpcmgkohebihmaaDoorErrs
import Derived.Test.YtpcmgkohebihmaaDoorTell
import Derived.LaidHandle
import Derived.LaidLaws
namespace Go.Proofs.YtpcmgkohebihmaaDoor
open Go Go.ChangeShapes Go.WideShapes Go.ChangeAt Go.RowKit

def sentD (x : String × List UInt8) : String × DataW Unit := (x.1, .iface "*errors.errorString" (.ptr (.agg [.lit (.string x.2)])))
set_option maxRecDepth 100000 in
/-- Each variable of a list of sentinels holds one; no two are one. -/
theorem sentinels {W : World} (L : List (String × List UInt8)) : ∀ (ps : List MemPlace), DataW.LaidVars Tryd.prog W (L.map sentD) ps → ps.Nodup →
    (∀ b off, MemPlace.cell b off ∈ ps → (∃ c t, W.heap[b]? = some (.cells c t (0, 0))) ∧ ∀ u v, W.cell? ⟨b, off, none⟩ = some (.iface u v) → Value.okWide Tryd.prog W .any 0 u v) →
    (∀ x, x ∈ L → ∃ g, Tryd.prog.globalNamed x.1 = some g ∧ (Tryd.prog.globals[g]?).map (·.type) = some 35) →
    ∃ ss : List Addr, ss.length = L.length ∧ (∀ (i : Nat) (x : String × List UInt8) (a : Addr), L[i]? = some x → ss[i]? = some a → W.var? Tryd.prog x.1 = some #[.iface 151 (.pointer (some a))] ∧ ∃ c t, W.heap[a.block]? = some (.cells c t (0, 0))) ∧
      (∀ a, a ∈ ss → MemPlace.cell a.block a.off ∈ ps) ∧ ss.Nodup := by
  induction L with
  | nil => intro ps _ _ _ _; exact ⟨[], rfl, fun i x a h => by simp at h, fun a h => (by cases h), List.nodup_nil⟩
  | cons x L ih =>
    intro ps h hnd hr hg
    obtain ⟨g0, t0, cs0, f0, p0, q0, hg0, ht0, hv0, hd0, hq, e0⟩ := h
    obtain ⟨g, hgx, htx⟩ := hg x (by simp)
    obtain rfl := Option.some.inj (hgx.symm.trans hg0)
    obtain rfl := Option.some.inj (htx.symm.trans ht0)
    subst e0
    obtain ⟨l0⟩ := cs0
    have ok0 : ∀ u v, l0 = [.iface u v] → Value.okWide Tryd.prog W .any 0 u v := fun u v e => by
      subst e
      exact (hr g 0 (by simp [MemPlace.row])).2 u v (by simpa using World.var?_cell hg0 hv0 0)
    obtain ⟨a0, s0, rfl, hc0, hs0, hz0, rfl⟩ := errorString_of_trod (nm := "*errors.errorString") Tryd.underlying35 row_es Tryd.underlying151 Tryd.underlying173 rfl rfl Tryd.underlying9 cells_es cells_st hd0 ok0
    have hm0 : MemPlace.cell a0.block a0.off ∈ MemPlace.row a0 1 := by simp [MemPlace.row]
    have hnq := List.nodup_append.1 hnd
    obtain ⟨ss, h1, h2, h3, h4⟩ := ih q0 hq hnq.2.1 (fun b off hb => hr b off (List.mem_append_right _ hb)) (fun y hy => hg y (by simp [hy]))
    refine ⟨a0 :: ss, by simp [h1], fun i y a hy ha => ?_, fun a ha => ?_, ?_⟩
    · cases i with
      | zero =>
        simp only [List.getElem?_cons_zero, Option.some.injEq] at hy ha
        subst hy ha
        exact ⟨hv0, (hr _ _ (List.mem_append_left _ (List.mem_append_right _ hm0))).1⟩
      | succ i =>
        simp only [List.getElem?_cons_succ] at hy ha
        exact h2 i y a hy ha
    · rcases List.mem_cons.1 ha with rfl | ha
      · exact List.mem_append_left _ (List.mem_append_right _ hm0)
      · exact List.mem_append_right _ (h3 a ha)
    · refine List.nodup_cons.2 ⟨fun ha => ?_, h4⟩
      exact hnq.2.2 _ (List.mem_append_right _ hm0) _ (h3 a0 ha) rfl

def faultNames : List (String × List UInt8) := [("bolter/fault.ErrLong", [116, 111, 111, 32, 108, 111, 110, 103]), ("bolter/fault.ErrSyntax", [115, 121, 110, 116, 97, 120]), ("bolter/fault.ErrDeep", [116, 111, 111, 32, 100, 101, 101, 112]), ("bolter/fault.ErrMany", [116, 111, 111, 32, 109, 97, 110, 121]), ("bolter/fault.ErrName", [110, 97, 109, 101]), ("bolter/fault.ErrDefCycle", [100, 101, 102, 105, 110, 105, 116, 105, 111, 110, 32, 99, 121, 99, 108, 101]), ("bolter/fault.ErrRepeat", [114, 101, 112, 101, 97, 116]), ("bolter/fault.ErrTooManyPositions", [116, 111, 111, 32, 109, 97, 110, 121, 32, 112, 111, 115, 105, 116, 105, 111, 110, 115]), ("bolter/fault.ErrTrail", [116, 114, 97, 105, 108, 105, 110, 103, 32, 99, 111, 110, 116, 101, 120, 116]), ("bolter/fault.ErrTooManyStates", [116, 111, 111, 32, 109, 97, 110, 121, 32, 115, 116, 97, 116, 101, 115]), ("bolter/fault.ErrImage", [105, 109, 97, 103, 101]), ("bolter/fault.ErrModeStack", [109, 111, 100, 101, 32, 115, 116, 97, 99, 107]), ("bolter/fault.ErrClosed", [99, 108, 111, 115, 101, 100]), ("bolter/fault.ErrArg", [97, 114, 103, 117, 109, 101, 110, 116]), ("bolter/fault.ErrCommand", [99, 111, 109, 109, 97, 110, 100]), ("bolter/fault.ErrHandle", [104, 97, 110, 100, 108, 101])]

theorem row_eq : (Rows.lengthExactRow.laid.filter fun x => x.2.handleName?.isNone) = faultNames.map sentD := rfl
theorem row_hd : (Rows.lengthExactRow.laid.filter fun x => x.2.handleName?.isSome) = [("errors.errorType", Rows.laid_errors_errorType)] := rfl
theorem names_met : ∀ k, k < 16 → ∃ n s, faultNames[k]? = some (n, s) ∧ Tryd.prog.globalNamed n = some (glOf (k + 2)) ∧ (Tryd.prog.globals[glOf (k + 2)]?).map (·.type) = some 35 := by
  intro k hk
  have h : (List.range 16).all (fun k => match faultNames[k]? with | some x => decide (Tryd.prog.globalNamed x.1 = some (glOf (k + 2))) && decide ((Tryd.prog.globals[glOf (k + 2)]?).map (·.type) = some 35) | none => false) = true := by kernel_rfl
  have := List.all_eq_true.1 h k (List.mem_range.2 hk)
  split at this
  · rename_i x hx
    simp only [Bool.and_eq_true, decide_eq_true_eq] at this
    exact ⟨x.1, x.2, hx, this.1, this.2⟩
  · cases this
theorem ty_named : Tryd.prog.globalNamed "errors.errorType" = some 2 := by kernel_rfl
theorem ty_row : (Tryd.prog.cutTypes.find? (·.1 == "internal/reflectlite.rtype")).map (·.2) = some 136 := by kernel_rfl
theorem ty_size : Tryd.prog.types.size = 185 := by kernel_rfl
theorem ty_one : ((List.range 185).filter fun t => Tryd.prog.rowNamed t [101, 114, 114, 111, 114]) = [35] := by kernel_rfl

theorem faults_of {W : World} (h : laidMetH Tryd.prog Rows.lengthExactRow.laid W) : ∃ s, FaultsIn W s := by
  unfold laidMetH at h
  rw [row_hd] at h
  obtain ⟨hm, hh⟩ := h
  rw [row_eq] at hm
  obtain ⟨ps, hl, hnd, hr⟩ := hm
  have hlen : faultNames.length = 16 := rfl
  obtain ⟨ss, h1, h2, _, h4⟩ := sentinels faultNames ps hl hnd hr (fun x hx => by
    obtain ⟨k, hk⟩ := List.mem_iff_getElem?.1 hx
    have hk16 : k < 16 := by
      have := (List.getElem?_eq_some_iff.1 hk).1; omega
    obtain ⟨n, s, e1, e2, e3⟩ := names_met k hk16
    rw [e1] at hk
    injection hk with hk
    subst hk
    exact ⟨_, e2, e3⟩)
  rw [hlen] at h1
  have at' : ∀ i, 2 ≤ i → i ≤ 17 → ss[i - 2]? = some (ss.getD (i - 2) default) := fun i a b => by
    rw [List.getD_eq_getElem?_getD, List.getElem?_eq_getElem (by omega)]; rfl
  have fact : ∀ i, 2 ≤ i → i ≤ 17 → W.cell? ⟨glOf i, 0, none⟩ = some (.iface 151 (.pointer (some (ss.getD (i - 2) default)))) ∧ ∃ c t, W.heap[(ss.getD (i - 2) default).block]? = some (.cells c t (0, 0)) := fun i a b => by
    obtain ⟨n, s, e1, e2, e3⟩ := names_met (i - 2) (by omega)
    rw [Nat.sub_add_cancel a] at e2
    obtain ⟨g1, g2⟩ := h2 (i - 2) (n, s) _ e1 (at' i a b)
    exact ⟨by simpa using World.var?_cell e2 g1 0, g2⟩
  refine ⟨fun i => ss.getD (i - 2) default, fun i a b => (fact i a b).1, fun i a b => (fact i a b).2, fun i j a b c d e => ?_, ?_⟩
  · have e1 := at' i a b
    have e2 := at' j c d
    rw [show ss.getD (i - 2) default = ss.getD (j - 2) default from e] at e1
    obtain ⟨g1, g2⟩ := List.getElem?_eq_some_iff.1 e1
    obtain ⟨g3, g4⟩ := List.getElem?_eq_some_iff.1 e2
    have hp := List.pairwise_iff_getElem.1 h4
    rcases Nat.lt_trichotomy (i - 2) (j - 2) with k | k | k
    · exact absurd (g2.trans g4.symm) (hp _ _ g1 g3 k)
    · omega
    · exact absurd (g4.trans g2.symm) (hp _ _ g3 g1 k)
  · obtain ⟨name, u, ty, e1, e2, e3, e4, e5⟩ := hh _ (List.mem_singleton.2 rfl)
    have en : name = [101, 114, 114, 111, 114] := (Option.some.inj e1).symm
    subst en
    obtain rfl := Option.some.inj (ty_row.symm.trans e2)
    have hm : ty ∈ (List.range 185).filter fun t => Tryd.prog.rowNamed t [101, 114, 114, 111, 114] := List.mem_filter.2 ⟨List.mem_range.2 (by rw [← ty_size]; exact e3), e4⟩
    rw [ty_one] at hm
    obtain rfl := List.mem_singleton.1 hm
    have hh : typeHandle Tryd.prog 35 = .pointer (some ⟨17, 35, none⟩) := by kernel_rfl
    rw [hh] at e5
    simpa using World.var?_cell ty_named e5 0

/-- A world that meets the condition. -/
def touch (w0 : World) : World :=
  { w0 with heap := w0.heap.modify 2 fun
      | .cells _ t frozen => .cells #[.iface 136 (.agg #[.pointer (some ⟨17, 35, none⟩)])] t frozen
      | o => o }
theorem touch_os (w0 : World) : (touch w0).os = w0.os := rfl
noncomputable def laidF (os : Os) : World := touch (World.laidAll Tryd.prog os (faultNames.map sentD))
theorem laidF_os (os : Os) : (laidF os).os = os := (touch_os _).trans (World.laidAll_os _ _ _)
set_option maxRecDepth 100000 in
theorem laidF_met (os : Os) (args : Array Value) : laidMetH Tryd.prog Rows.lengthExactRow.laid ((laidF os).forCall (fun _ _ => 0) ⟨#[], args, []⟩).memory :=
  laidMetH_of_parts (laidMet_of_run' 8 (by kernel_rfl) (by kernel_rfl)) (by kernel_rfl)

end Go.Proofs.YtpcmgkohebihmaaDoor
