/- Errors: sentinels, and what wraps them; errors.Is of them at a sentinel. No condition. -/
import Derived.Test.YtcbfmajojkcibaaDoorRows
import Derived.Test.YtcbfmajojkcibaaDoorPGa
import Derived.WalkKit
import Derived.WalkSpells
import Derived.WalkLawsBesides
import Derived.LaidEql
import Derived.Stop.Asserts
import Derived.RowKitTokens
import Derived.Lib.Hide
namespace Go.Proofs.YtcbfmajojkcibaaDoor
open Go Go.RowKit Go.Extern.Stop Go.Stop Go.Extern

inductive Wr where
  | placed | named | ruled | staged
def Wr.ty : Wr → TypeId
  | .placed => 103
  | .named => 108
  | .ruled => 112
  | .staged => 116
/-- A sentinel, or a wrapper (its kind, where it lies, what it says) of an error. -/
inductive Er where
  | leaf (a : Addr)
  | wrap (k : Wr) (b : Nat) (x : Value) (e : Er)
def Er.val : Er → Value
  | .leaf a => .iface 157 (.pointer (some a))
  | .wrap k b _ _ => .iface k.ty (.pointer (some ⟨b, 0, none⟩))
def Er.base : Er → Addr
  | .leaf a => a
  | .wrap _ _ _ e => e.base
def Er.depth : Er → Nat
  | .leaf _ => 0
  | .wrap _ _ _ e => e.depth + 1
/-- It lies in this world. -/
def Er.In (W : World) : Er → Prop
  | .leaf a => ∃ ca ta, W.heap[a.block]? = some (.cells ca ta (0, 0))
  | .wrap _ b x e => W.cell? ⟨b, 0, none⟩ = some e.val ∧ W.cell? ⟨b, 1, none⟩ = some x ∧ e.In W
theorem Er.In.later {w w' : World} (hG : Gr w w') : ∀ {e : Er}, e.In w → e.In w'
  | .leaf a, ⟨ca, ta, h⟩ => ⟨ca, ta, by
    have hlt : a.block < w.heap.size := (Array.getElem?_eq_some_iff.1 h).1
    rw [Below.block hG a.block hlt]; exact h⟩
  | .wrap _ _ _ _, ⟨h1, h2, h3⟩ => ⟨hG.cell h1, hG.cell h2, h3.later hG⟩
theorem Wr.ty_ne (k : Wr) : k.ty ≠ 157 := by cases k <;> decide
theorem Er.val_iface (e : Er) : ∃ t p, e.val = .iface t (.pointer (some p)) := by cases e <;> exact ⟨_, _, rfl⟩
/-- The value says which error it is. -/
theorem Er.unique {W : World} : ∀ {e f : Er}, e.In W → f.In W → e.val = f.val → e.depth = f.depth ∧ e.base = f.base
  | .leaf a, .leaf b, _, _, h => by
    simp only [Er.val, Value.iface.injEq, Value.pointer.injEq, Option.some.injEq, true_and] at h
    subst h; exact ⟨rfl, rfl⟩
  | .leaf a, .wrap k b x e, _, _, h => by
    simp only [Er.val, Value.iface.injEq] at h
    exact absurd h.1.symm k.ty_ne
  | .wrap k b x e, .leaf a, _, _, h => by
    simp only [Er.val, Value.iface.injEq] at h
    exact absurd h.1 k.ty_ne
  | .wrap k b x e, .wrap k' b' x' e', ⟨h1, _, h3⟩, ⟨g1, _, g3⟩, h => by
    simp only [Er.val, Value.iface.injEq, Value.pointer.injEq, Option.some.injEq, Addr.mk.injEq, and_true] at h
    obtain ⟨_, rfl⟩ := h
    have := Er.unique h3 g3 (Option.some.inj (h1.symm.trans g1))
    exact ⟨by rw [Er.depth, Er.depth, this.1], this.2⟩
open Classical in
/-- How many wrappers are left: a loop's measure. -/
noncomputable def erLen (W : World) (E : Value) : Nat := if h : ∃ e : Er, E = e.val ∧ e.In W then h.choose.depth else 0
theorem erLen_eq {W : World} {e : Er} (h : e.In W) : erLen W e.val = e.depth := by
  unfold erLen
  have hx : ∃ f : Er, e.val = f.val ∧ f.In W := ⟨e, rfl, h⟩
  rw [dif_pos hx]
  exact (Er.unique h hx.choose_spec.2 hx.choose_spec.1).1.symm

/-! Closed facts. -/
theorem es_typeOf (v : Value) (w : World) : (Extern.ReflectliteType.typeOf #[.iface 157 v]).run Tryd.prog w = .ok (.iface 142 (.agg #[.pointer (some ⟨17, 157, none⟩)])) w := by kernel_rfl
def compF : Array Value → Sem Value := Extern.ReflectliteType.method fun t => do Extern.Rtype.noPackHeld "Comparable" t; pure (.bool (← typeInfo t).comparable)
theorem es_comparable (w : World) : (compF #[.agg #[.pointer (some ⟨17, 157, none⟩)]]).run Tryd.prog w = .ok (.bool true) w := by kernel_rfl
theorem rt_comparable (v : Value) (w : World) : (Go.method 290 142 v "Comparable").run Tryd.prog w = .ok (111, v) w := by kernel_rfl
theorem es_comp : (Tryd.prog.info? 157).map (·.comparable) = some true := by kernel_rfl
theorem es_size : (Tryd.prog.info? 178).map (·.size) = some 1 := by kernel_rfl
theorem es_noIs (v : Value) (xT : TypeId) (w : World) : (Instr.typeAssert (.iface 157 v) xT 154 true).run Tryd.prog w = .ok (.tuple #[.nilIface, .bool false]) w := run_typeAssert_lacksB Tryd.underlying154 (by kernel_rfl) (by kernel_rfl) v xT w
theorem es_noUnwrap (v : Value) (xT : TypeId) (w : World) : (Instr.typeAssert (.iface 157 v) xT 149 true).run Tryd.prog w = .ok (.tuple #[.nilIface, .bool false]) w := run_typeAssert_lacksB Tryd.underlying149 (by kernel_rfl) (by kernel_rfl) v xT w
theorem es_noUnwraps (v : Value) (xT : TypeId) (w : World) : (Instr.typeAssert (.iface 157 v) xT 151 true).run Tryd.prog w = .ok (.tuple #[.nilIface, .bool false]) w := run_typeAssert_lacksB Tryd.underlying151 (by kernel_rfl) (by kernel_rfl) v xT w
theorem placed_noIs (v : Value) (xT : TypeId) (w : World) : (Instr.typeAssert (.iface 103 v) xT 154 true).run Tryd.prog w = .ok (.tuple #[.nilIface, .bool false]) w := run_typeAssert_lacksB Tryd.underlying154 (by kernel_rfl) (by kernel_rfl) v xT w
theorem placed_hasUnwrap (v : Value) (xT : TypeId) (w : World) : (Instr.typeAssert (.iface 103 v) xT 149 true).run Tryd.prog w = .ok (.tuple #[.iface 103 v, .bool true]) w := run_typeAssert_hasB Tryd.underlying149 (by kernel_rfl) v xT w
theorem placed_method (v : Value) (w : World) : (Go.method 290 103 v "Unwrap").run Tryd.prog w = .ok (99, v) w := by kernel_rfl
theorem placed_unwrap (b : Nat) (E : Value) (w : World) (h : w.cell? ⟨b, 0, none⟩ = some E) : Calls Tryd.prog 99 #[.pointer (some ⟨b, 0, none⟩)] w fun e w' => e = .returned E ∧ Gr w w' := by
  have hb : b < w.heap.size := World.block_lt_of_cell? w _ h
  go_enter Tryd.func99, Tryd.ntmps99
  go_wp2_with fail
  go_ret
  exact ⟨rfl, Gr.refl _⟩
theorem named_noIs (v : Value) (xT : TypeId) (w : World) : (Instr.typeAssert (.iface 108 v) xT 154 true).run Tryd.prog w = .ok (.tuple #[.nilIface, .bool false]) w := run_typeAssert_lacksB Tryd.underlying154 (by kernel_rfl) (by kernel_rfl) v xT w
theorem named_hasUnwrap (v : Value) (xT : TypeId) (w : World) : (Instr.typeAssert (.iface 108 v) xT 149 true).run Tryd.prog w = .ok (.tuple #[.iface 108 v, .bool true]) w := run_typeAssert_hasB Tryd.underlying149 (by kernel_rfl) v xT w
theorem named_method (v : Value) (w : World) : (Go.method 290 108 v "Unwrap").run Tryd.prog w = .ok (101, v) w := by kernel_rfl
theorem named_unwrap (b : Nat) (E : Value) (w : World) (h : w.cell? ⟨b, 0, none⟩ = some E) : Calls Tryd.prog 101 #[.pointer (some ⟨b, 0, none⟩)] w fun e w' => e = .returned E ∧ Gr w w' := by
  have hb : b < w.heap.size := World.block_lt_of_cell? w _ h
  go_enter Tryd.func101, Tryd.ntmps101
  go_wp2_with fail
  go_ret
  exact ⟨rfl, Gr.refl _⟩
theorem ruled_noIs (v : Value) (xT : TypeId) (w : World) : (Instr.typeAssert (.iface 112 v) xT 154 true).run Tryd.prog w = .ok (.tuple #[.nilIface, .bool false]) w := run_typeAssert_lacksB Tryd.underlying154 (by kernel_rfl) (by kernel_rfl) v xT w
theorem ruled_hasUnwrap (v : Value) (xT : TypeId) (w : World) : (Instr.typeAssert (.iface 112 v) xT 149 true).run Tryd.prog w = .ok (.tuple #[.iface 112 v, .bool true]) w := run_typeAssert_hasB Tryd.underlying149 (by kernel_rfl) v xT w
theorem ruled_method (v : Value) (w : World) : (Go.method 290 112 v "Unwrap").run Tryd.prog w = .ok (103, v) w := by kernel_rfl
theorem ruled_unwrap (b : Nat) (E : Value) (w : World) (h : w.cell? ⟨b, 0, none⟩ = some E) : Calls Tryd.prog 103 #[.pointer (some ⟨b, 0, none⟩)] w fun e w' => e = .returned E ∧ Gr w w' := by
  have hb : b < w.heap.size := World.block_lt_of_cell? w _ h
  go_enter Tryd.func103, Tryd.ntmps103
  go_wp2_with fail
  go_ret
  exact ⟨rfl, Gr.refl _⟩
theorem staged_noIs (v : Value) (xT : TypeId) (w : World) : (Instr.typeAssert (.iface 116 v) xT 154 true).run Tryd.prog w = .ok (.tuple #[.nilIface, .bool false]) w := run_typeAssert_lacksB Tryd.underlying154 (by kernel_rfl) (by kernel_rfl) v xT w
theorem staged_hasUnwrap (v : Value) (xT : TypeId) (w : World) : (Instr.typeAssert (.iface 116 v) xT 149 true).run Tryd.prog w = .ok (.tuple #[.iface 116 v, .bool true]) w := run_typeAssert_hasB Tryd.underlying149 (by kernel_rfl) v xT w
theorem staged_method (v : Value) (w : World) : (Go.method 290 116 v "Unwrap").run Tryd.prog w = .ok (105, v) w := by kernel_rfl
theorem staged_unwrap (b : Nat) (E : Value) (w : World) (h : w.cell? ⟨b, 0, none⟩ = some E) : Calls Tryd.prog 105 #[.pointer (some ⟨b, 0, none⟩)] w fun e w' => e = .returned E ∧ Gr w w' := by
  have hb : b < w.heap.size := World.block_lt_of_cell? w _ h
  go_enter Tryd.func105, Tryd.ntmps105
  go_wp2_with fail
  go_ret
  exact ⟨rfl, Gr.refl _⟩

theorem row_later {w w' : World} {b : Nat} {c : Array Value} {t : TypeId} (h : w.heap[b]? = some (.cells c t (0, 0))) (hG : Gr w w') : w'.heap[b]? = some (.cells c t (0, 0)) := by
  have hlt : b < w.heap.size := (Array.getElem?_eq_some_iff.1 h).1
  rw [Below.block hG b hlt]; exact h

set_option maxRecDepth 1000000 in
set_option maxHeartbeats 4000000 in
theorem is_any {W : World} (b : Addr) (cb : Array Value) (tb : TypeId) (hb : W.heap[b.block]? = some (.cells cb tb (0, 0))) (e : Er) (he : e.In W) :
    Calls Tryd.prog 78 #[e.val, .iface 157 (.pointer (some b)), .bool true] W fun x w' => x = .returned (.bool (decide (e.base = b))) ∧ Gr W w' := by
  obtain ⟨i, hi, hcmp⟩ := Option.map_eq_some_iff.1 es_comp
  obtain ⟨j, hj, hjs⟩ := Option.map_eq_some_iff.1 es_size
  have HB := Lib.hid hb
  have HE := Lib.hid he
  have nE := es_noIs
  have uE := es_noUnwrap
  have vE := es_noUnwraps
  obtain ⟨t0, p0, hv0⟩ := e.val_iface
  have HV := Lib.hid hv0
  rw [hv0]
  clear hv0 hb he
  go_enter Tryd.func78, Tryd.ntmps78
  go_wp2_with fail
  go_loopw [0] (fun E' wl => Gr W wl ∧ ∃ f : Er, E' = f.val ∧ Hid (f.In W) ∧ Hid (f.base = e.base)) (fun E' wl => erLen W E')
  case atStart => exact ⟨Gr.refl _, e, HV.out.symm, HE, Lib.hid rfl⟩
  case round =>
    obtain ⟨hg, f, rfl, HF, HFB⟩ := hrel
    cases f with
    | leaf a =>
      obtain ⟨ca, ta, ha⟩ := HF.out
      have ha2 := row_later ha hg
      have hb2 := row_later HB.out hg
      unfold Er.val
      by_cases hab : a = b
      · subst hab
        have heq := run_eql_iface_ptr_same (P := Tryd.prog) wr a Tryd.underlying38 Tryd.underlying157 hi hcmp hj
        clear ha ha2 hb2
        go_wp2_with fail
        go_ret
        exact ⟨ret_bool (by rw [← HFB.out]; simp [Er.base]), hg⟩
      · have heq := run_eql_iface_ptr_other (P := Tryd.prog) wr Tryd.underlying38 Tryd.underlying157 hi hcmp hj (by rw [hjs]; decide) hab ha2 hb2
        clear ha ha2 hb2
        go_wp2_with fail
        go_ret
        exact ⟨ret_bool (by rw [← HFB.out]; simp [Er.base, hab]), hg⟩
    | wrap k bb x g =>
      obtain ⟨h1, _, h3⟩ := HF.out
      have HG := Lib.hid h3
      have HD := Lib.hid (show erLen W g.val < erLen W (Er.wrap k bb x g).val by rw [erLen_eq h3, erLen_eq HF.out]; simp [Er.depth])
      have hc := hg.cell h1
      obtain ⟨t1, p1, hv1⟩ := g.val_iface
      rw [hv1] at hc HD
      have HV1 := Lib.hid hv1
      clear h1 h3 hv1 HF
      cases k
      · have hty := run_eql_iface_types (P := Tryd.prog) 103 157 (.pointer (some ⟨bb, 0, none⟩)) (.pointer (some b)) Tryd.underlying38 (by decide) wr
        have nW := placed_noIs
        have uW := placed_hasUnwrap
        have mU := placed_method
        unfold Er.val Wr.ty at HD ⊢
        go_wp2_with fail
        go_at_call 99
        refine (placed_unwrap bb _ wr hc).mono ?_; rintro e' w1 ⟨rfl, hb1⟩
        clear hc hty
        go_wp2_with fail
        go_roundw
        case rel => exact ⟨hg.trans hb1, g, HV1.out.symm, HG, Lib.hid HFB.out⟩
        case measure => exact HD.out
      · have hty := run_eql_iface_types (P := Tryd.prog) 108 157 (.pointer (some ⟨bb, 0, none⟩)) (.pointer (some b)) Tryd.underlying38 (by decide) wr
        have nW := named_noIs
        have uW := named_hasUnwrap
        have mU := named_method
        unfold Er.val Wr.ty at HD ⊢
        go_wp2_with fail
        go_at_call 101
        refine (named_unwrap bb _ wr hc).mono ?_; rintro e' w1 ⟨rfl, hb1⟩
        clear hc hty
        go_wp2_with fail
        go_roundw
        case rel => exact ⟨hg.trans hb1, g, HV1.out.symm, HG, Lib.hid HFB.out⟩
        case measure => exact HD.out
      · have hty := run_eql_iface_types (P := Tryd.prog) 112 157 (.pointer (some ⟨bb, 0, none⟩)) (.pointer (some b)) Tryd.underlying38 (by decide) wr
        have nW := ruled_noIs
        have uW := ruled_hasUnwrap
        have mU := ruled_method
        unfold Er.val Wr.ty at HD ⊢
        go_wp2_with fail
        go_at_call 103
        refine (ruled_unwrap bb _ wr hc).mono ?_; rintro e' w1 ⟨rfl, hb1⟩
        clear hc hty
        go_wp2_with fail
        go_roundw
        case rel => exact ⟨hg.trans hb1, g, HV1.out.symm, HG, Lib.hid HFB.out⟩
        case measure => exact HD.out
      · have hty := run_eql_iface_types (P := Tryd.prog) 116 157 (.pointer (some ⟨bb, 0, none⟩)) (.pointer (some b)) Tryd.underlying38 (by decide) wr
        have nW := staged_noIs
        have uW := staged_hasUnwrap
        have mU := staged_method
        unfold Er.val Wr.ty at HD ⊢
        go_wp2_with fail
        go_at_call 105
        refine (staged_unwrap bb _ wr hc).mono ?_; rintro e' w1 ⟨rfl, hb1⟩
        clear hc hty
        go_wp2_with fail
        go_roundw
        case rel => exact ⟨hg.trans hb1, g, HV1.out.symm, HG, Lib.hid HFB.out⟩
        case measure => exact HD.out

set_option maxRecDepth 1000000 in
set_option maxHeartbeats 4000000 in
theorem isTop_any {W : World} (b : Addr) (cb : Array Value) (tb : TypeId) (hb : W.heap[b.block]? = some (.cells cb tb (0, 0))) (e : Er) (he : e.In W) :
    Calls Tryd.prog 71 #[e.val, .iface 157 (.pointer (some b))] W fun x w' => x = .returned (.bool (decide (e.base = b))) ∧ Gr W w' := by
  have h57 := @run_callFunc_extern Tryd.prog 77 _ Extern.ReflectliteType.typeOf Tryd.func77 (by kernel_rfl) (by kernel_rfl) (by kernel_rfl) (by kernel_rfl)
  have h96 := @run_callFunc_extern Tryd.prog 111 _ compF Tryd.func111 (by kernel_rfl) (by kernel_rfl) (by kernel_rfl) (by kernel_rfl)
  have tT := es_typeOf
  have cT := es_comparable
  have mR := rt_comparable
  have HIS := Lib.hid (is_any b cb tb hb e he)
  obtain ⟨t0, p0, hv0⟩ := e.val_iface
  rw [hv0] at HIS ⊢
  clear hv0 hb he
  go_enter Tryd.func71, Tryd.ntmps71
  go_wp2_with fail
  go_at_call 78
  refine HIS.out.mono ?_; rintro e' w1 ⟨rfl, hb1⟩
  clear HIS
  go_wp2_with fail
  go_ret
  exact ⟨rfl, hb1⟩

end Go.Proofs.YtcbfmajojkcibaaDoor
