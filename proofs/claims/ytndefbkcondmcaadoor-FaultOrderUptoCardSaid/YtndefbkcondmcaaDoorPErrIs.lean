/- Errors: sentinels, and what wraps them; errors.Is of them at a sentinel. No condition. -/
import Derived.Test.YtndefbkcondmcaaDoorRows
import Derived.Test.YtndefbkcondmcaaDoorPGa
import Derived.WalkKit
import Derived.WalkSpells
import Derived.WalkLawsBesides
import Derived.LaidEql
import Derived.Stop.Asserts
import Derived.RowKitTokens
import Derived.Lib.Hide
namespace Go.Proofs.YtndefbkcondmcaaDoor
open Go Go.RowKit Go.Extern.Stop Go.Stop Go.Extern

inductive Wr where
  | placed | named | ruled | staged
def Wr.ty : Wr → TypeId
  | .placed => 54
  | .named => 59
  | .ruled => 64
  | .staged => 68
/-- A sentinel, or a wrapper (its kind, where it lies, what it says) of an error. -/
inductive Er where
  | leaf (a : Addr)
  | wrap (k : Wr) (b : Nat) (x : Value) (e : Er)
def Er.val : Er → Value
  | .leaf a => .iface 82 (.pointer (some a))
  | .wrap k b _ _ => .iface k.ty (.pointer (some ⟨b, 0, none⟩))
def Er.base : Er → Addr
  | .leaf a => a
  | .wrap _ _ _ e => e.base
def Er.depth : Er → Nat
  | .leaf _ => 0
  | .wrap _ _ _ e => e.depth + 1
/-- It lies in this world. -/
def Er.In (W : World) : Er → Prop
  | .leaf a => ∃ ca ta, W.heap[a.block]? = some (.cells ca ta (0, 0))
  | .wrap _ b x e => W.cell? ⟨b, 0, none⟩ = some e.val ∧ W.cell? ⟨b, 1, none⟩ = some x ∧ e.In W
theorem Er.In.later {w w' : World} (hG : Gr w w') : ∀ {e : Er}, e.In w → e.In w'
  | .leaf a, ⟨ca, ta, h⟩ => ⟨ca, ta, by
    have hlt : a.block < w.heap.size := (Array.getElem?_eq_some_iff.1 h).1
    rw [Below.block hG a.block hlt]; exact h⟩
  | .wrap _ _ _ _, ⟨h1, h2, h3⟩ => ⟨hG.cell h1, hG.cell h2, h3.later hG⟩
theorem Wr.ty_ne (k : Wr) : k.ty ≠ 82 := by cases k <;> decide
theorem Er.val_iface (e : Er) : ∃ t p, e.val = .iface t (.pointer (some p)) := by cases e <;> exact ⟨_, _, rfl⟩
/-- The value says which error it is. -/
theorem Er.unique {W : World} : ∀ {e f : Er}, e.In W → f.In W → e.val = f.val → e.depth = f.depth ∧ e.base = f.base
  | .leaf a, .leaf b, _, _, h => by
    simp only [Er.val, Value.iface.injEq, Value.pointer.injEq, Option.some.injEq, true_and] at h
    subst h; exact ⟨rfl, rfl⟩
  | .leaf a, .wrap k b x e, _, _, h => by
    simp only [Er.val, Value.iface.injEq] at h
    exact absurd h.1.symm k.ty_ne
  | .wrap k b x e, .leaf a, _, _, h => by
    simp only [Er.val, Value.iface.injEq] at h
    exact absurd h.1 k.ty_ne
  | .wrap k b x e, .wrap k' b' x' e', ⟨h1, _, h3⟩, ⟨g1, _, g3⟩, h => by
    simp only [Er.val, Value.iface.injEq, Value.pointer.injEq, Option.some.injEq, Addr.mk.injEq, and_true] at h
    obtain ⟨_, rfl⟩ := h
    have := Er.unique h3 g3 (Option.some.inj (h1.symm.trans g1))
    exact ⟨by rw [Er.depth, Er.depth, this.1], this.2⟩
open Classical in
/-- How many wrappers are left: a loop's measure. -/
noncomputable def erLen (W : World) (E : Value) : Nat := if h : ∃ e : Er, E = e.val ∧ e.In W then h.choose.depth else 0
theorem erLen_eq {W : World} {e : Er} (h : e.In W) : erLen W e.val = e.depth := by
  unfold erLen
  have hx : ∃ f : Er, e.val = f.val ∧ f.In W := ⟨e, rfl, h⟩
  rw [dif_pos hx]
  exact (Er.unique h hx.choose_spec.2 hx.choose_spec.1).1.symm

/-! Closed facts. -/
theorem es_typeOf (v : Value) (w : World) : (Extern.ReflectliteType.typeOf #[.iface 82 v]).run Tryd.prog w = .ok (.iface 97 (.agg #[.pointer (some ⟨21, 82, none⟩)])) w := by kernel_rfl
def compF : Array Value → Sem Value := Extern.ReflectliteType.method fun t => do Extern.Rtype.noPackHeld "Comparable" t; pure (.bool (← typeInfo t).comparable)
theorem es_comparable (w : World) : (compF #[.agg #[.pointer (some ⟨21, 82, none⟩)]]).run Tryd.prog w = .ok (.bool true) w := by kernel_rfl
theorem rt_comparable (v : Value) (w : World) : (Go.method 265 97 v "Comparable").run Tryd.prog w = .ok (94, v) w := by kernel_rfl
theorem es_comp : (Tryd.prog.info? 82).map (·.comparable) = some true := by kernel_rfl
theorem es_size : (Tryd.prog.info? 84).map (·.size) = some 1 := by kernel_rfl
theorem es_noIs (v : Value) (xT : TypeId) (w : World) : (Instr.typeAssert (.iface 82 v) xT 99 true).run Tryd.prog w = .ok (.tuple #[.nilIface, .bool false]) w := run_typeAssert_lacksB Tryd.underlying99 (by kernel_rfl) (by kernel_rfl) v xT w
theorem es_noUnwrap (v : Value) (xT : TypeId) (w : World) : (Instr.typeAssert (.iface 82 v) xT 79 true).run Tryd.prog w = .ok (.tuple #[.nilIface, .bool false]) w := run_typeAssert_lacksB Tryd.underlying79 (by kernel_rfl) (by kernel_rfl) v xT w
theorem es_noUnwraps (v : Value) (xT : TypeId) (w : World) : (Instr.typeAssert (.iface 82 v) xT 102 true).run Tryd.prog w = .ok (.tuple #[.nilIface, .bool false]) w := run_typeAssert_lacksB Tryd.underlying102 (by kernel_rfl) (by kernel_rfl) v xT w
theorem placed_noIs (v : Value) (xT : TypeId) (w : World) : (Instr.typeAssert (.iface 54 v) xT 99 true).run Tryd.prog w = .ok (.tuple #[.nilIface, .bool false]) w := run_typeAssert_lacksB Tryd.underlying99 (by kernel_rfl) (by kernel_rfl) v xT w
theorem placed_hasUnwrap (v : Value) (xT : TypeId) (w : World) : (Instr.typeAssert (.iface 54 v) xT 79 true).run Tryd.prog w = .ok (.tuple #[.iface 54 v, .bool true]) w := run_typeAssert_hasB Tryd.underlying79 (by kernel_rfl) v xT w
theorem placed_method (v : Value) (w : World) : (Go.method 265 54 v "Unwrap").run Tryd.prog w = .ok (59, v) w := by kernel_rfl
theorem placed_unwrap (b : Nat) (E : Value) (w : World) (h : w.cell? ⟨b, 0, none⟩ = some E) : Calls Tryd.prog 59 #[.pointer (some ⟨b, 0, none⟩)] w fun e w' => e = .returned E ∧ Gr w w' := by
  have hb : b < w.heap.size := World.block_lt_of_cell? w _ h
  go_enter Tryd.func59, Tryd.ntmps59
  go_wp2_with fail
  go_ret
  exact ⟨rfl, Gr.refl _⟩
theorem named_noIs (v : Value) (xT : TypeId) (w : World) : (Instr.typeAssert (.iface 59 v) xT 99 true).run Tryd.prog w = .ok (.tuple #[.nilIface, .bool false]) w := run_typeAssert_lacksB Tryd.underlying99 (by kernel_rfl) (by kernel_rfl) v xT w
theorem named_hasUnwrap (v : Value) (xT : TypeId) (w : World) : (Instr.typeAssert (.iface 59 v) xT 79 true).run Tryd.prog w = .ok (.tuple #[.iface 59 v, .bool true]) w := run_typeAssert_hasB Tryd.underlying79 (by kernel_rfl) v xT w
theorem named_method (v : Value) (w : World) : (Go.method 265 59 v "Unwrap").run Tryd.prog w = .ok (75, v) w := by kernel_rfl
theorem named_unwrap (b : Nat) (E : Value) (w : World) (h : w.cell? ⟨b, 0, none⟩ = some E) : Calls Tryd.prog 75 #[.pointer (some ⟨b, 0, none⟩)] w fun e w' => e = .returned E ∧ Gr w w' := by
  have hb : b < w.heap.size := World.block_lt_of_cell? w _ h
  go_enter Tryd.func75, Tryd.ntmps75
  go_wp2_with fail
  go_ret
  exact ⟨rfl, Gr.refl _⟩
theorem ruled_noIs (v : Value) (xT : TypeId) (w : World) : (Instr.typeAssert (.iface 64 v) xT 99 true).run Tryd.prog w = .ok (.tuple #[.nilIface, .bool false]) w := run_typeAssert_lacksB Tryd.underlying99 (by kernel_rfl) (by kernel_rfl) v xT w
theorem ruled_hasUnwrap (v : Value) (xT : TypeId) (w : World) : (Instr.typeAssert (.iface 64 v) xT 79 true).run Tryd.prog w = .ok (.tuple #[.iface 64 v, .bool true]) w := run_typeAssert_hasB Tryd.underlying79 (by kernel_rfl) v xT w
theorem ruled_method (v : Value) (w : World) : (Go.method 265 64 v "Unwrap").run Tryd.prog w = .ok (85, v) w := by kernel_rfl
theorem ruled_unwrap (b : Nat) (E : Value) (w : World) (h : w.cell? ⟨b, 0, none⟩ = some E) : Calls Tryd.prog 85 #[.pointer (some ⟨b, 0, none⟩)] w fun e w' => e = .returned E ∧ Gr w w' := by
  have hb : b < w.heap.size := World.block_lt_of_cell? w _ h
  go_enter Tryd.func85, Tryd.ntmps85
  go_wp2_with fail
  go_ret
  exact ⟨rfl, Gr.refl _⟩
theorem staged_noIs (v : Value) (xT : TypeId) (w : World) : (Instr.typeAssert (.iface 68 v) xT 99 true).run Tryd.prog w = .ok (.tuple #[.nilIface, .bool false]) w := run_typeAssert_lacksB Tryd.underlying99 (by kernel_rfl) (by kernel_rfl) v xT w
theorem staged_hasUnwrap (v : Value) (xT : TypeId) (w : World) : (Instr.typeAssert (.iface 68 v) xT 79 true).run Tryd.prog w = .ok (.tuple #[.iface 68 v, .bool true]) w := run_typeAssert_hasB Tryd.underlying79 (by kernel_rfl) v xT w
theorem staged_method (v : Value) (w : World) : (Go.method 265 68 v "Unwrap").run Tryd.prog w = .ok (87, v) w := by kernel_rfl
theorem staged_unwrap (b : Nat) (E : Value) (w : World) (h : w.cell? ⟨b, 0, none⟩ = some E) : Calls Tryd.prog 87 #[.pointer (some ⟨b, 0, none⟩)] w fun e w' => e = .returned E ∧ Gr w w' := by
  have hb : b < w.heap.size := World.block_lt_of_cell? w _ h
  go_enter Tryd.func87, Tryd.ntmps87
  go_wp2_with fail
  go_ret
  exact ⟨rfl, Gr.refl _⟩

theorem row_later {w w' : World} {b : Nat} {c : Array Value} {t : TypeId} (h : w.heap[b]? = some (.cells c t (0, 0))) (hG : Gr w w') : w'.heap[b]? = some (.cells c t (0, 0)) := by
  have hlt : b < w.heap.size := (Array.getElem?_eq_some_iff.1 h).1
  rw [Below.block hG b hlt]; exact h

set_option maxRecDepth 1000000 in
set_option maxHeartbeats 4000000 in
theorem is_any {W : World} (b : Addr) (cb : Array Value) (tb : TypeId) (hb : W.heap[b.block]? = some (.cells cb tb (0, 0))) (e : Er) (he : e.In W) :
    Calls Tryd.prog 31 #[e.val, .iface 82 (.pointer (some b)), .bool true] W fun x w' => x = .returned (.bool (decide (e.base = b))) ∧ Gr W w' := by
  obtain ⟨i, hi, hcmp⟩ := Option.map_eq_some_iff.1 es_comp
  obtain ⟨j, hj, hjs⟩ := Option.map_eq_some_iff.1 es_size
  have HB := Lib.hid hb
  have HE := Lib.hid he
  have nE := es_noIs
  have uE := es_noUnwrap
  have vE := es_noUnwraps
  obtain ⟨t0, p0, hv0⟩ := e.val_iface
  have HV := Lib.hid hv0
  rw [hv0]
  clear hv0 hb he
  go_enter Tryd.func31, Tryd.ntmps31
  go_wp2_with fail
  go_loopw [0] (fun E' wl => Gr W wl ∧ ∃ f : Er, E' = f.val ∧ Hid (f.In W) ∧ Hid (f.base = e.base)) (fun E' wl => erLen W E')
  case atStart => exact ⟨Gr.refl _, e, HV.out.symm, HE, Lib.hid rfl⟩
  case round =>
    obtain ⟨hg, f, rfl, HF, HFB⟩ := hrel
    cases f with
    | leaf a =>
      obtain ⟨ca, ta, ha⟩ := HF.out
      have ha2 := row_later ha hg
      have hb2 := row_later HB.out hg
      unfold Er.val
      by_cases hab : a = b
      · subst hab
        have heq := run_eql_iface_ptr_same (P := Tryd.prog) wr a Tryd.underlying28 Tryd.underlying82 hi hcmp hj
        clear ha ha2 hb2
        go_wp2_with fail
        go_ret
        exact ⟨ret_bool (by rw [← HFB.out]; simp [Er.base]), hg⟩
      · have heq := run_eql_iface_ptr_other (P := Tryd.prog) wr Tryd.underlying28 Tryd.underlying82 hi hcmp hj (by rw [hjs]; decide) hab ha2 hb2
        clear ha ha2 hb2
        go_wp2_with fail
        go_ret
        exact ⟨ret_bool (by rw [← HFB.out]; simp [Er.base, hab]), hg⟩
    | wrap k bb x g =>
      obtain ⟨h1, _, h3⟩ := HF.out
      have HG := Lib.hid h3
      have HD := Lib.hid (show erLen W g.val < erLen W (Er.wrap k bb x g).val by rw [erLen_eq h3, erLen_eq HF.out]; simp [Er.depth])
      have hc := hg.cell h1
      obtain ⟨t1, p1, hv1⟩ := g.val_iface
      rw [hv1] at hc HD
      have HV1 := Lib.hid hv1
      clear h1 h3 hv1 HF
      cases k
      · have hty := run_eql_iface_types (P := Tryd.prog) 54 82 (.pointer (some ⟨bb, 0, none⟩)) (.pointer (some b)) Tryd.underlying28 (by decide) wr
        have nW := placed_noIs
        have uW := placed_hasUnwrap
        have mU := placed_method
        unfold Er.val Wr.ty at HD ⊢
        go_wp2_with fail
        go_at_call 59
        refine (placed_unwrap bb _ wr hc).mono ?_; rintro e' w1 ⟨rfl, hb1⟩
        clear hc hty
        go_wp2_with fail
        go_roundw
        case rel => exact ⟨hg.trans hb1, g, HV1.out.symm, HG, Lib.hid HFB.out⟩
        case measure => exact HD.out
      · have hty := run_eql_iface_types (P := Tryd.prog) 59 82 (.pointer (some ⟨bb, 0, none⟩)) (.pointer (some b)) Tryd.underlying28 (by decide) wr
        have nW := named_noIs
        have uW := named_hasUnwrap
        have mU := named_method
        unfold Er.val Wr.ty at HD ⊢
        go_wp2_with fail
        go_at_call 75
        refine (named_unwrap bb _ wr hc).mono ?_; rintro e' w1 ⟨rfl, hb1⟩
        clear hc hty
        go_wp2_with fail
        go_roundw
        case rel => exact ⟨hg.trans hb1, g, HV1.out.symm, HG, Lib.hid HFB.out⟩
        case measure => exact HD.out
      · have hty := run_eql_iface_types (P := Tryd.prog) 64 82 (.pointer (some ⟨bb, 0, none⟩)) (.pointer (some b)) Tryd.underlying28 (by decide) wr
        have nW := ruled_noIs
        have uW := ruled_hasUnwrap
        have mU := ruled_method
        unfold Er.val Wr.ty at HD ⊢
        go_wp2_with fail
        go_at_call 85
        refine (ruled_unwrap bb _ wr hc).mono ?_; rintro e' w1 ⟨rfl, hb1⟩
        clear hc hty
        go_wp2_with fail
        go_roundw
        case rel => exact ⟨hg.trans hb1, g, HV1.out.symm, HG, Lib.hid HFB.out⟩
        case measure => exact HD.out
      · have hty := run_eql_iface_types (P := Tryd.prog) 68 82 (.pointer (some ⟨bb, 0, none⟩)) (.pointer (some b)) Tryd.underlying28 (by decide) wr
        have nW := staged_noIs
        have uW := staged_hasUnwrap
        have mU := staged_method
        unfold Er.val Wr.ty at HD ⊢
        go_wp2_with fail
        go_at_call 87
        refine (staged_unwrap bb _ wr hc).mono ?_; rintro e' w1 ⟨rfl, hb1⟩
        clear hc hty
        go_wp2_with fail
        go_roundw
        case rel => exact ⟨hg.trans hb1, g, HV1.out.symm, HG, Lib.hid HFB.out⟩
        case measure => exact HD.out

set_option maxRecDepth 1000000 in
set_option maxHeartbeats 4000000 in
theorem isTop_any {W : World} (b : Addr) (cb : Array Value) (tb : TypeId) (hb : W.heap[b.block]? = some (.cells cb tb (0, 0))) (e : Er) (he : e.In W) :
    Calls Tryd.prog 17 #[e.val, .iface 82 (.pointer (some b))] W fun x w' => x = .returned (.bool (decide (e.base = b))) ∧ Gr W w' := by
  have h57 := @run_callFunc_extern Tryd.prog 30 _ Extern.ReflectliteType.typeOf Tryd.func30 (by kernel_rfl) (by kernel_rfl) (by kernel_rfl) (by kernel_rfl)
  have h96 := @run_callFunc_extern Tryd.prog 94 _ compF Tryd.func94 (by kernel_rfl) (by kernel_rfl) (by kernel_rfl) (by kernel_rfl)
  have tT := es_typeOf
  have cT := es_comparable
  have mR := rt_comparable
  have HIS := Lib.hid (is_any b cb tb hb e he)
  obtain ⟨t0, p0, hv0⟩ := e.val_iface
  rw [hv0] at HIS ⊢
  clear hv0 hb he
  go_enter Tryd.func17, Tryd.ntmps17
  go_wp2_with fail
  go_at_call 31
  refine HIS.out.mono ?_; rintro e' w1 ⟨rfl, hb1⟩
  clear HIS
  go_wp2_with fail
  go_ret
  exact ⟨rfl, hb1⟩

end Go.Proofs.YtndefbkcondmcaaDoor
