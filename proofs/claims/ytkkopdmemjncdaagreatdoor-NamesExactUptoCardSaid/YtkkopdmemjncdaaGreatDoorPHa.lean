/- Texts of mine, put together: ErrIs, ErrAs. No condition but what each says. -/
import Derived.Test.YtkkopdmemjncdaaGreatDoorRows
import Derived.Test.YtkkopdmemjncdaaGreatDoorPGa
import Derived.WalkKit
import Derived.WalkSpells
import Derived.WalkLawsBesides
import Derived.LaidEql
import Derived.Stop.Asserts
import Derived.RowKitTokens
import Derived.Lib.Hide
namespace Go.Proofs.YtkkopdmemjncdaaGreatDoor
open Go Go.RowKit Go.Extern.Stop Go.Stop Go.Extern
inductive Wr where
 | placed | named | ruled | staged
def Wr.ty : Wr → TypeId
 | .placed => 114
 | .named => 119
 | .ruled => 124
 | .staged => 128
inductive Er where
 | leaf (a : Addr)
 | wrap (k : Wr) (b : Nat) (x : Value) (e : Er)
def Er.val : Er → Value
 | .leaf a => .iface 220 (.pointer (some a))
 | .wrap k b _ _ => .iface k.ty (.pointer (some ⟨b, 0, none⟩))
def Er.base : Er → Addr
 | .leaf a => a
 | .wrap _ _ _ e => e.base
def Er.depth : Er → Nat
 | .leaf _ => 0
 | .wrap _ _ _ e => e.depth + 1
def Er.In (W : World) : Er → Prop
 | .leaf a => ∃ ca ta, W.heap[a.block]? = some (.cells ca ta (0, 0))
 | .wrap _ b x e => W.cell? ⟨b, 0, none⟩ = some e.val ∧ W.cell? ⟨b, 1, none⟩ = some x ∧ e.In W
theorem Er.In.later {w w' : World} (hG : Gr w w') : ∀ {e : Er}, e.In w → e.In w'
 |
  .leaf a, ⟨ca, ta, h⟩ => ⟨ca, ta, by
  have hlt : a.block < w.heap.size := (Array.getElem?_eq_some_iff.1 h).1
  rw [Below.block hG a.block hlt]; exact h⟩
 | .wrap _ _ _ _, ⟨h1, h2, h3⟩ => ⟨hG.cell h1, hG.cell h2, h3.later hG⟩
theorem Wr.ty_ne (k : Wr) : k.ty ≠ 220 := by cases k <;> decide
theorem Er.val_iface (e : Er) : ∃ t p, e.val = .iface t (.pointer (some p)) := by cases e <;> exact ⟨_, _, rfl⟩
theorem Er.unique {W : World} : ∀ {e f : Er}, e.In W → f.In W → e.val = f.val → e.depth = f.depth ∧ e.base = f.base
 |
  .leaf a, .leaf b, _, _, h => by
  simp only [Er.val, Value.iface.injEq, Value.pointer.injEq, Option.some.injEq, true_and] at h
  subst h; exact ⟨rfl, rfl⟩
 |
  .leaf a, .wrap k b x e, _, _, h => by
  simp only [Er.val, Value.iface.injEq] at h
  exact absurd h.1.symm k.ty_ne
 |
  .wrap k b x e, .leaf a, _, _, h => by
  simp only [Er.val, Value.iface.injEq] at h
  exact absurd h.1 k.ty_ne
 |
  .wrap k b x e, .wrap k' b' x' e', ⟨h1, _, h3⟩, ⟨g1, _, g3⟩, h => by
  simp only [Er.val, Value.iface.injEq, Value.pointer.injEq, Option.some.injEq, Addr.mk.injEq, and_true] at h
  obtain ⟨_, rfl⟩ := h
  have := Er.unique h3 g3 (Option.some.inj (h1.symm.trans g1))
  exact ⟨by rw [Er.depth, Er.depth, this.1], this.2⟩
open Classical in
noncomputable def erLen (W : World) (E : Value) : Nat := if h : ∃ e : Er, E = e.val ∧ e.In W then h.choose.depth else 0
theorem erLen_eq {W : World} {e : Er} (h : e.In W) : erLen W e.val = e.depth := by
 unfold erLen
 have hx : ∃ f : Er, e.val = f.val ∧ f.In W := ⟨e, rfl, h⟩
 rw [dif_pos hx]
 exact (Er.unique h hx.choose_spec.2 hx.choose_spec.1).1.symm
theorem es_typeOf (v : Value) (w : World) : (Extern.ReflectliteType.typeOf #[.iface 220 v]).run Tryz.prog w = .ok (.iface 184 (.agg #[.pointer (some ⟨17, 220, none⟩)])) w := by kernel_rfl
def compF : Array Value → Sem Value := Extern.ReflectliteType.method fun t => do Extern.Rtype.noPackHeld "Comparable" t; pure (.bool (← typeInfo t).comparable)
theorem es_comparable (w : World) : (compF #[.agg #[.pointer (some ⟨17, 220, none⟩)]]).run Tryz.prog w = .ok (.bool true) w := by kernel_rfl
theorem rt_comparable (v : Value) (w : World) : (Go.method 353 184 v "Comparable").run Tryz.prog w = .ok (169, v) w := by kernel_rfl
theorem es_comp : (Tryz.prog.info? 220).map (·.comparable) = some true := by kernel_rfl
theorem es_size : (Tryz.prog.info? 241).map (·.size) = some 1 := by kernel_rfl
theorem es_noIs (v : Value) (xT : TypeId) (w : World) : (Instr.typeAssert (.iface 220 v) xT 208 true).run Tryz.prog w = .ok (.tuple #[.nilIface, .bool false]) w := run_typeAssert_lacksB Tryz.underlying208 (by kernel_rfl) (by kernel_rfl) v xT w
theorem es_noUnwrap (v : Value) (xT : TypeId) (w : World) : (Instr.typeAssert (.iface 220 v) xT 191 true).run Tryz.prog w = .ok (.tuple #[.nilIface, .bool false]) w := run_typeAssert_lacksB Tryz.underlying191 (by kernel_rfl) (by kernel_rfl) v xT w
theorem es_noUnwraps (v : Value) (xT : TypeId) (w : World) : (Instr.typeAssert (.iface 220 v) xT 192 true).run Tryz.prog w = .ok (.tuple #[.nilIface, .bool false]) w := run_typeAssert_lacksB Tryz.underlying192 (by kernel_rfl) (by kernel_rfl) v xT w
theorem placed_noIs (v : Value) (xT : TypeId) (w : World) : (Instr.typeAssert (.iface 114 v) xT 208 true).run Tryz.prog w = .ok (.tuple #[.nilIface, .bool false]) w := run_typeAssert_lacksB Tryz.underlying208 (by kernel_rfl) (by kernel_rfl) v xT w
theorem placed_hasUnwrap (v : Value) (xT : TypeId) (w : World) : (Instr.typeAssert (.iface 114 v) xT 191 true).run Tryz.prog w = .ok (.tuple #[.iface 114 v, .bool true]) w := run_typeAssert_hasB Tryz.underlying191 (by kernel_rfl) v xT w
theorem placed_method (v : Value) (w : World) : (Go.method 353 114 v "Unwrap").run Tryz.prog w = .ok (157, v) w := by kernel_rfl
theorem placed_unwrap (b : Nat) (E : Value) (w : World) (h : w.cell? ⟨b, 0, none⟩ = some E) : Calls Tryz.prog 157 #[.pointer (some ⟨b, 0, none⟩)] w fun e w' => e = .returned E ∧ Gr w w' := by
 have hb : b < w.heap.size := World.block_lt_of_cell? w _ h
 go_enter Tryz.func157, Tryz.ntmps157
 go_wp2_with fail
 go_ret
 exact ⟨rfl, Gr.refl _⟩
theorem named_noIs (v : Value) (xT : TypeId) (w : World) : (Instr.typeAssert (.iface 119 v) xT 208 true).run Tryz.prog w = .ok (.tuple #[.nilIface, .bool false]) w := run_typeAssert_lacksB Tryz.underlying208 (by kernel_rfl) (by kernel_rfl) v xT w
theorem named_hasUnwrap (v : Value) (xT : TypeId) (w : World) : (Instr.typeAssert (.iface 119 v) xT 191 true).run Tryz.prog w = .ok (.tuple #[.iface 119 v, .bool true]) w := run_typeAssert_hasB Tryz.underlying191 (by kernel_rfl) v xT w
theorem named_method (v : Value) (w : World) : (Go.method 353 119 v "Unwrap").run Tryz.prog w = .ok (159, v) w := by kernel_rfl
theorem named_unwrap (b : Nat) (E : Value) (w : World) (h : w.cell? ⟨b, 0, none⟩ = some E) : Calls Tryz.prog 159 #[.pointer (some ⟨b, 0, none⟩)] w fun e w' => e = .returned E ∧ Gr w w' := by
 have hb : b < w.heap.size := World.block_lt_of_cell? w _ h
 go_enter Tryz.func159, Tryz.ntmps159
 go_wp2_with fail
 go_ret
 exact ⟨rfl, Gr.refl _⟩
theorem ruled_noIs (v : Value) (xT : TypeId) (w : World) : (Instr.typeAssert (.iface 124 v) xT 208 true).run Tryz.prog w = .ok (.tuple #[.nilIface, .bool false]) w := run_typeAssert_lacksB Tryz.underlying208 (by kernel_rfl) (by kernel_rfl) v xT w
theorem ruled_hasUnwrap (v : Value) (xT : TypeId) (w : World) : (Instr.typeAssert (.iface 124 v) xT 191 true).run Tryz.prog w = .ok (.tuple #[.iface 124 v, .bool true]) w := run_typeAssert_hasB Tryz.underlying191 (by kernel_rfl) v xT w
theorem ruled_method (v : Value) (w : World) : (Go.method 353 124 v "Unwrap").run Tryz.prog w = .ok (161, v) w := by kernel_rfl
theorem ruled_unwrap (b : Nat) (E : Value) (w : World) (h : w.cell? ⟨b, 0, none⟩ = some E) : Calls Tryz.prog 161 #[.pointer (some ⟨b, 0, none⟩)] w fun e w' => e = .returned E ∧ Gr w w' := by
 have hb : b < w.heap.size := World.block_lt_of_cell? w _ h
 go_enter Tryz.func161, Tryz.ntmps161
 go_wp2_with fail
 go_ret
 exact ⟨rfl, Gr.refl _⟩
theorem staged_noIs (v : Value) (xT : TypeId) (w : World) : (Instr.typeAssert (.iface 128 v) xT 208 true).run Tryz.prog w = .ok (.tuple #[.nilIface, .bool false]) w := run_typeAssert_lacksB Tryz.underlying208 (by kernel_rfl) (by kernel_rfl) v xT w
theorem staged_hasUnwrap (v : Value) (xT : TypeId) (w : World) : (Instr.typeAssert (.iface 128 v) xT 191 true).run Tryz.prog w = .ok (.tuple #[.iface 128 v, .bool true]) w := run_typeAssert_hasB Tryz.underlying191 (by kernel_rfl) v xT w
theorem staged_method (v : Value) (w : World) : (Go.method 353 128 v "Unwrap").run Tryz.prog w = .ok (163, v) w := by kernel_rfl
theorem staged_unwrap (b : Nat) (E : Value) (w : World) (h : w.cell? ⟨b, 0, none⟩ = some E) : Calls Tryz.prog 163 #[.pointer (some ⟨b, 0, none⟩)] w fun e w' => e = .returned E ∧ Gr w w' := by
 have hb : b < w.heap.size := World.block_lt_of_cell? w _ h
 go_enter Tryz.func163, Tryz.ntmps163
 go_wp2_with fail
 go_ret
 exact ⟨rfl, Gr.refl _⟩
theorem row_later {w w' : World} {b : Nat} {c : Array Value} {t : TypeId} (h : w.heap[b]? = some (.cells c t (0, 0))) (hG : Gr w w') : w'.heap[b]? = some (.cells c t (0, 0)) := by
 have hlt : b < w.heap.size := (Array.getElem?_eq_some_iff.1 h).1
 rw [Below.block hG b hlt]; exact h
set_option maxRecDepth 1000000 in
set_option maxHeartbeats 4000000 in
theorem
    is_any {W : World} (b : Addr) (cb : Array Value) (tb : TypeId) (hb : W.heap[b.block]? = some (.cells cb tb (0, 0))) (e : Er) (he : e.In W) :
  Calls Tryz.prog 115 #[e.val, .iface 220 (.pointer (some b)), .bool true] W fun x w' => x = .returned (.bool (decide (e.base = b))) ∧ Gr W w' := by
 obtain ⟨i, hi, hcmp⟩ := Option.map_eq_some_iff.1 es_comp
 obtain ⟨j, hj, hjs⟩ := Option.map_eq_some_iff.1 es_size
 have HB := Lib.hid hb
 have HE := Lib.hid he
 have nE := es_noIs
 have uE := es_noUnwrap
 have vE := es_noUnwraps
 obtain ⟨t0, p0, hv0⟩ := e.val_iface
 have HV := Lib.hid hv0
 rw [hv0]
 clear hv0 hb he
 go_enter Tryz.func115, Tryz.ntmps115
 go_wp2_with fail
 go_loopw [0] (fun E' wl => Gr W wl ∧ ∃ f : Er, E' = f.val ∧ Hid (f.In W) ∧ Hid (f.base = e.base)) (fun E' wl => erLen W E')
 case atStart => exact ⟨Gr.refl _, e, HV.out.symm, HE, Lib.hid rfl⟩
 case round =>
  obtain ⟨hg, f, rfl, HF, HFB⟩ := hrel
  cases f with
  |
   leaf a =>
   obtain ⟨ca, ta, ha⟩ := HF.out
   have ha2 := row_later ha hg
   have hb2 := row_later HB.out hg
   unfold Er.val
   by_cases hab : a = b
   ·
    subst hab
    have heq := run_eql_iface_ptr_same (P := Tryz.prog) wr a Tryz.underlying41 Tryz.underlying220 hi hcmp hj
    clear ha ha2 hb2
    go_wp2_with fail
    go_ret
    exact ⟨ret_bool (by rw [← HFB.out]; simp [Er.base]), hg⟩
   ·
    have heq := run_eql_iface_ptr_other (P := Tryz.prog) wr Tryz.underlying41 Tryz.underlying220 hi hcmp hj (by rw [hjs]; decide) hab ha2 hb2
    clear ha ha2 hb2
    go_wp2_with fail
    go_ret
    exact ⟨ret_bool (by rw [← HFB.out]; simp [Er.base, hab]), hg⟩
  |
   wrap k bb x g =>
   obtain ⟨h1, _, h3⟩ := HF.out
   have HG := Lib.hid h3
   have HD := Lib.hid (show erLen W g.val < erLen W (Er.wrap k bb x g).val by rw [erLen_eq h3, erLen_eq HF.out]; simp [Er.depth])
   have hc := hg.cell h1
   obtain ⟨t1, p1, hv1⟩ := g.val_iface
   rw [hv1] at hc HD
   have HV1 := Lib.hid hv1
   clear h1 h3 hv1 HF
   cases k
   ·
    have hty := run_eql_iface_types (P := Tryz.prog) 114 220 (.pointer (some ⟨bb, 0, none⟩)) (.pointer (some b)) Tryz.underlying41 (by decide) wr
    have nW := placed_noIs
    have uW := placed_hasUnwrap
    have mU := placed_method
    unfold Er.val Wr.ty at HD ⊢
    go_wp2_with fail
    go_at_call 157
    refine (placed_unwrap bb _ wr hc).mono ?_; rintro e' w1 ⟨rfl, hb1⟩
    clear hc hty
    go_wp2_with fail
    go_roundw
    case rel => exact ⟨hg.trans hb1, g, HV1.out.symm, HG, Lib.hid HFB.out⟩
    case measure => exact HD.out
   ·
    have hty := run_eql_iface_types (P := Tryz.prog) 119 220 (.pointer (some ⟨bb, 0, none⟩)) (.pointer (some b)) Tryz.underlying41 (by decide) wr
    have nW := named_noIs
    have uW := named_hasUnwrap
    have mU := named_method
    unfold Er.val Wr.ty at HD ⊢
    go_wp2_with fail
    go_at_call 159
    refine (named_unwrap bb _ wr hc).mono ?_; rintro e' w1 ⟨rfl, hb1⟩
    clear hc hty
    go_wp2_with fail
    go_roundw
    case rel => exact ⟨hg.trans hb1, g, HV1.out.symm, HG, Lib.hid HFB.out⟩
    case measure => exact HD.out
   ·
    have hty := run_eql_iface_types (P := Tryz.prog) 124 220 (.pointer (some ⟨bb, 0, none⟩)) (.pointer (some b)) Tryz.underlying41 (by decide) wr
    have nW := ruled_noIs
    have uW := ruled_hasUnwrap
    have mU := ruled_method
    unfold Er.val Wr.ty at HD ⊢
    go_wp2_with fail
    go_at_call 161
    refine (ruled_unwrap bb _ wr hc).mono ?_; rintro e' w1 ⟨rfl, hb1⟩
    clear hc hty
    go_wp2_with fail
    go_roundw
    case rel => exact ⟨hg.trans hb1, g, HV1.out.symm, HG, Lib.hid HFB.out⟩
    case measure => exact HD.out
   ·
    have hty := run_eql_iface_types (P := Tryz.prog) 128 220 (.pointer (some ⟨bb, 0, none⟩)) (.pointer (some b)) Tryz.underlying41 (by decide) wr
    have nW := staged_noIs
    have uW := staged_hasUnwrap
    have mU := staged_method
    unfold Er.val Wr.ty at HD ⊢
    go_wp2_with fail
    go_at_call 163
    refine (staged_unwrap bb _ wr hc).mono ?_; rintro e' w1 ⟨rfl, hb1⟩
    clear hc hty
    go_wp2_with fail
    go_roundw
    case rel => exact ⟨hg.trans hb1, g, HV1.out.symm, HG, Lib.hid HFB.out⟩
    case measure => exact HD.out
set_option maxRecDepth 1000000 in
set_option maxHeartbeats 4000000 in
theorem isTop_any {W : World} (b : Addr) (cb : Array Value) (tb : TypeId) (hb : W.heap[b.block]? = some (.cells cb tb (0, 0))) (e : Er) (he : e.In W) :
  Calls Tryz.prog 90 #[e.val, .iface 220 (.pointer (some b))] W fun x w' => x = .returned (.bool (decide (e.base = b))) ∧ Gr W w' := by
 have h57 := @run_callFunc_extern Tryz.prog 114 _ Extern.ReflectliteType.typeOf Tryz.func114 (by kernel_rfl) (by kernel_rfl) (by kernel_rfl) (by kernel_rfl)
 have h96 := @run_callFunc_extern Tryz.prog 169 _ compF Tryz.func169 (by kernel_rfl) (by kernel_rfl) (by kernel_rfl) (by kernel_rfl)
 have tT := es_typeOf
 have cT := es_comparable
 have mR := rt_comparable
 have HIS := Lib.hid (is_any b cb tb hb e he)
 obtain ⟨t0, p0, hv0⟩ := e.val_iface
 rw [hv0] at HIS ⊢
 clear hv0 hb he
 go_enter Tryz.func90, Tryz.ntmps90
 go_wp2_with fail
 go_at_call 115
 refine HIS.out.mono ?_; rintro e' w1 ⟨rfl, hb1⟩
 clear HIS
 go_wp2_with fail
 go_ret
 exact ⟨rfl, hb1⟩
end Go.Proofs.YtkkopdmemjncdaaGreatDoor
namespace Go.Proofs.YtkkopdmemjncdaaGreatDoor
open Go Go.RowKit Go.Extern.Stop Go.Stop Go.Extern
deriving instance DecidableEq for Wr
def Er.first (k : Wr) : Er → Option Nat
 | .leaf _ => none
 | .wrap k' b _ e => if k' = k then some b else e.first k
def AsTold (W w' : World) (k : Wr) (e : Er) (tb : Nat) (x : Ending) : Prop := ∃ w1, Gr W w1 ∧ match e.first k with
 | none => x = .returned (.bool false) ∧ w' = w1
 | some b => x = .returned (.bool true) ∧ w' = w1.setCell ⟨tb, 0, none⟩ (.pointer (some ⟨b, 0, none⟩))
theorem rlm (z : Sem Value) (f : TypeId → Addr → Nat → Nat → Sem Value) (v : Value) :
  ReflectliteValue.method z f #[v] = (do match ← ReflectliteValue.parts v with | none => z | some (t, a, fl) => f t a fl (fl % 32)) := rfl
theorem
    rls (v x : Value) : ReflectliteValue.set #[v, x] = (do
  let (some (dst, a, fl), some (src, b, _)) := (← ReflectliteValue.parts v, ← ReflectliteValue.parts x)
   | unsupported (.noEntry "extern/(internal/reflectlite.Value).Set.zeroValue")
  if fl / ReflectliteValue.flagAddr % 2 == 0 then unsupported (.noEntry "extern/(internal/reflectlite.Value).Set.unaddressable")
  let val ← loadVar src b
  if ← Rtype.directlyAssignable dst src then storeVar dst a val
  else if ← Rtype.implements dst src then
   if (← Rtype.kind src) == 20 then
    match val with
    | .nilIface => unsupported (.noEntry "extern/reflectlite: a nil value of one interface type handed on as a value of another")
    | _ => storeVar dst a val
   else storeVar dst a (.iface src val)
  else panicString ("reflectlite.Set: value of type " ++ (← Rtype.spelt src) ++ " is not assignable to type " ++ (← Rtype.spelt dst))
  pure (.tuple #[])) := rfl
theorem rt_kind (h : Value) (w : World) : (Go.method 353 184 (.agg #[h]) "Kind").run Tryz.prog w = .ok (153, h) w := by kernel_rfl
theorem rt_elem (h : Value) (w : World) : (Go.method 353 184 (.agg #[h]) "Elem").run Tryz.prog w = .ok (170, .agg #[h]) w := by kernel_rfl
theorem rt_impl (h : Value) (w : World) : (Go.method 353 184 (.agg #[h]) "Implements").run Tryz.prog w = .ok (171, .agg #[h]) w := by kernel_rfl
theorem rt_assign (h : Value) (w : World) : (Go.method 353 184 (.agg #[h]) "AssignableTo").run Tryz.prog w = .ok (168, .agg #[h]) w := by kernel_rfl
theorem es_noAs (v : Value) (xT : TypeId) (w : World) : (Instr.typeAssert (.iface 220 v) xT 188 true).run Tryz.prog w = .ok (.tuple #[.nilIface, .bool false]) w := run_typeAssert_lacksB Tryz.underlying188 (by kernel_rfl) (by kernel_rfl) v xT w
theorem placed_noAs (v : Value) (xT : TypeId) (w : World) : (Instr.typeAssert (.iface 114 v) xT 188 true).run Tryz.prog w = .ok (.tuple #[.nilIface, .bool false]) w := run_typeAssert_lacksB Tryz.underlying188 (by kernel_rfl) (by kernel_rfl) v xT w
theorem placed_valueOfP (t : Addr) (w : World) : (ReflectliteValue.unpack (.iface 116 (.pointer (some t)))).run Tryz.prog w = .ok (.agg #[.pointer (some ⟨17, 116, none⟩), .pointer (some ⟨w.heap.size, 0, none⟩), .int .u64 150]) (w.alloc (.cells #[.pointer (some t)] 116)) := by kernel_rfl
theorem placed_type (a : Addr) (w : World) : (ReflectliteValue.methodAny (ReflectliteValue.valueError "reflectlite.Value.Type" 0) (fun t _ _ _ => ReflectliteType.toType t) #[.agg #[.pointer (some ⟨17, 116, none⟩), .pointer (some a), .int .u64 150]]).run Tryz.prog w = .ok (.iface 184 (.agg #[.pointer (some ⟨17, 116, none⟩)])) w := by kernel_rfl
theorem placed_kindP (w : World) : ((ReflectliteType.abiMethod fun t => (fun a : Nat => Value.int IntKind.u8 (a : Int)) <$> Rtype.kind t) #[.pointer (some ⟨17, 116, none⟩)]).run Tryz.prog w = .ok (.int .u8 22) w := by kernel_rfl
theorem placed_kind (w : World) : ((ReflectliteType.abiMethod fun t => (fun a : Nat => Value.int IntKind.u8 (a : Int)) <$> Rtype.kind t) #[.pointer (some ⟨17, 114, none⟩)]).run Tryz.prog w = .ok (.int .u8 22) w := by kernel_rfl
theorem placed_partsP (a : Addr) (w : World) : (ReflectliteValue.parts (.agg #[.pointer (some ⟨17, 116, none⟩), .pointer (some a), .int .u64 150])).run Tryz.prog w = .ok (some (116, a, 150)) w := by kernel_rfl
theorem placed_isNil (a p : Addr) (W : World) (ha : W.cell? a = some (.pointer (some p))) :
  (ReflectliteValue.method (ReflectliteValue.valueError "reflectlite.Value.IsNil" 0) ReflectliteValue.isNil #[.agg #[.pointer (some ⟨17, 116, none⟩), .pointer (some a), .int .u64 150]]).run Tryz.prog W = .ok (.bool false) W := by
 rw [rlm]
 simp only [Sem.run_bind, placed_partsP, Result.andThen]
 simp [ReflectliteValue.isNil, loadVar, isAgg, underlying, Tryz.underlying116, ha, Result.andThen]
theorem placed_elemT (w : World) : (ReflectliteType.method ReflectliteType.elem #[.agg #[.pointer (some ⟨17, 116, none⟩)]]).run Tryz.prog w = .ok (.iface 184 (.agg #[.pointer (some ⟨17, 114, none⟩)])) w := by kernel_rfl
theorem placed_impl (w : World) : (ReflectliteType.relation "Implements" ReflectliteType.implements_ #[.agg #[.pointer (some ⟨17, 114, none⟩)], .iface 184 (.agg #[.pointer (some ⟨17, 41, none⟩)])]).run Tryz.prog w = .ok (.bool true) w := by kernel_rfl
theorem placed_typeOf (v : Value) (w : World) : (ReflectliteType.typeOf #[.iface 114 v]).run Tryz.prog w = .ok (.iface 184 (.agg #[.pointer (some ⟨17, 114, none⟩)])) w := by kernel_rfl
theorem placed_valueOf (e : Addr) (w : World) : (ReflectliteValue.unpack (.iface 114 (.pointer (some e)))).run Tryz.prog w = .ok (.agg #[.pointer (some ⟨17, 114, none⟩), .pointer (some ⟨w.heap.size, 0, none⟩), .int .u64 150]) (w.alloc (.cells #[.pointer (some e)] 114)) := by kernel_rfl
theorem placed_elemOf (w : World) : (Rtype.elem? 116).run Tryz.prog w = .ok (some 114) w := by kernel_rfl
theorem placed_mk (p : Addr) (w : World) : (ReflectliteValue.mk 114 p ReflectliteValue.flagAddr).run Tryz.prog w = .ok (.agg #[.pointer (some ⟨17, 114, none⟩), .pointer (some p), .int .u64 406]) w := by kernel_rfl
theorem placed_elemV (a p : Addr) (W : World) (ha : W.cell? a = some (.pointer (some p))) :
  (ReflectliteValue.method (ReflectliteValue.valueError "reflectlite.Value.Elem" 0) ReflectliteValue.elem #[.agg #[.pointer (some ⟨17, 116, none⟩), .pointer (some a), .int .u64 150]]).run Tryz.prog W = .ok (.agg #[.pointer (some ⟨17, 114, none⟩), .pointer (some p), .int .u64 406]) W := by
 rw [rlm]
 simp only [Sem.run_bind, placed_partsP, Result.andThen]
 simp [ReflectliteValue.elem, loadVar, isAgg, underlying, Tryz.underlying116, ha, Result.andThen, placed_elemOf, placed_mk]
theorem placed_partsA (a : Addr) (w : World) : (ReflectliteValue.parts (.agg #[.pointer (some ⟨17, 114, none⟩), .pointer (some a), .int .u64 406])).run Tryz.prog w = .ok (some (114, a, 406)) w := by kernel_rfl
theorem placed_parts (a : Addr) (w : World) : (ReflectliteValue.parts (.agg #[.pointer (some ⟨17, 114, none⟩), .pointer (some a), .int .u64 150])).run Tryz.prog w = .ok (some (114, a, 150)) w := by kernel_rfl
theorem placed_direct (w : World) : (Rtype.directlyAssignable 114 114).run Tryz.prog w = .ok true w := by kernel_rfl
theorem placed_set (ta b e : Addr) (old : Value) (W : World) (hb : W.cell? b = some (.pointer (some e))) (ht : W.cell? ta = some old) (hf : W.frozen? ta = false) :
  (ReflectliteValue.set #[.agg #[.pointer (some ⟨17, 114, none⟩), .pointer (some ta), .int .u64 406], .agg #[.pointer (some ⟨17, 114, none⟩), .pointer (some b), .int .u64 150]]).run Tryz.prog W = .ok (.tuple #[]) (W.setCell ta (.pointer (some e))) := by
 have hsz : ∀ w, (sizeOf 114 : Sem Nat).run Tryz.prog w = .ok 1 w := fun w => by kernel_rfl
 rw [rls]
 simp only [Sem.run_bind, placed_partsA, placed_parts, Result.andThen]
 simp [ReflectliteValue.flagAddr, loadVar, isAgg, underlying, Tryz.underlying114, hb, Result.andThen, placed_direct, storeVar, Value.cells, storeCells, Addr.add, hsz]
 rw [run_store Tryz.prog W ta _ _ (by rfl)]
 simp [ht, hf]
theorem placed_assignE (w : World) : (ReflectliteType.relation "AssignableTo" ReflectliteType.assignableTo #[.agg #[.pointer (some ⟨17, 220, none⟩)], .iface 184 (.agg #[.pointer (some ⟨17, 114, none⟩)])]).run Tryz.prog w = .ok (.bool false) w := by kernel_rfl
theorem named_noAs (v : Value) (xT : TypeId) (w : World) : (Instr.typeAssert (.iface 119 v) xT 188 true).run Tryz.prog w = .ok (.tuple #[.nilIface, .bool false]) w := run_typeAssert_lacksB Tryz.underlying188 (by kernel_rfl) (by kernel_rfl) v xT w
theorem named_valueOfP (t : Addr) (w : World) : (ReflectliteValue.unpack (.iface 120 (.pointer (some t)))).run Tryz.prog w = .ok (.agg #[.pointer (some ⟨17, 120, none⟩), .pointer (some ⟨w.heap.size, 0, none⟩), .int .u64 150]) (w.alloc (.cells #[.pointer (some t)] 120)) := by kernel_rfl
theorem named_type (a : Addr) (w : World) : (ReflectliteValue.methodAny (ReflectliteValue.valueError "reflectlite.Value.Type" 0) (fun t _ _ _ => ReflectliteType.toType t) #[.agg #[.pointer (some ⟨17, 120, none⟩), .pointer (some a), .int .u64 150]]).run Tryz.prog w = .ok (.iface 184 (.agg #[.pointer (some ⟨17, 120, none⟩)])) w := by kernel_rfl
theorem named_kindP (w : World) : ((ReflectliteType.abiMethod fun t => (fun a : Nat => Value.int IntKind.u8 (a : Int)) <$> Rtype.kind t) #[.pointer (some ⟨17, 120, none⟩)]).run Tryz.prog w = .ok (.int .u8 22) w := by kernel_rfl
theorem named_kind (w : World) : ((ReflectliteType.abiMethod fun t => (fun a : Nat => Value.int IntKind.u8 (a : Int)) <$> Rtype.kind t) #[.pointer (some ⟨17, 119, none⟩)]).run Tryz.prog w = .ok (.int .u8 22) w := by kernel_rfl
theorem named_partsP (a : Addr) (w : World) : (ReflectliteValue.parts (.agg #[.pointer (some ⟨17, 120, none⟩), .pointer (some a), .int .u64 150])).run Tryz.prog w = .ok (some (120, a, 150)) w := by kernel_rfl
theorem named_isNil (a p : Addr) (W : World) (ha : W.cell? a = some (.pointer (some p))) :
  (ReflectliteValue.method (ReflectliteValue.valueError "reflectlite.Value.IsNil" 0) ReflectliteValue.isNil #[.agg #[.pointer (some ⟨17, 120, none⟩), .pointer (some a), .int .u64 150]]).run Tryz.prog W = .ok (.bool false) W := by
 rw [rlm]
 simp only [Sem.run_bind, named_partsP, Result.andThen]
 simp [ReflectliteValue.isNil, loadVar, isAgg, underlying, Tryz.underlying120, ha, Result.andThen]
theorem named_elemT (w : World) : (ReflectliteType.method ReflectliteType.elem #[.agg #[.pointer (some ⟨17, 120, none⟩)]]).run Tryz.prog w = .ok (.iface 184 (.agg #[.pointer (some ⟨17, 119, none⟩)])) w := by kernel_rfl
theorem named_impl (w : World) : (ReflectliteType.relation "Implements" ReflectliteType.implements_ #[.agg #[.pointer (some ⟨17, 119, none⟩)], .iface 184 (.agg #[.pointer (some ⟨17, 41, none⟩)])]).run Tryz.prog w = .ok (.bool true) w := by kernel_rfl
theorem named_typeOf (v : Value) (w : World) : (ReflectliteType.typeOf #[.iface 119 v]).run Tryz.prog w = .ok (.iface 184 (.agg #[.pointer (some ⟨17, 119, none⟩)])) w := by kernel_rfl
theorem named_valueOf (e : Addr) (w : World) : (ReflectliteValue.unpack (.iface 119 (.pointer (some e)))).run Tryz.prog w = .ok (.agg #[.pointer (some ⟨17, 119, none⟩), .pointer (some ⟨w.heap.size, 0, none⟩), .int .u64 150]) (w.alloc (.cells #[.pointer (some e)] 119)) := by kernel_rfl
theorem named_elemOf (w : World) : (Rtype.elem? 120).run Tryz.prog w = .ok (some 119) w := by kernel_rfl
theorem named_mk (p : Addr) (w : World) : (ReflectliteValue.mk 119 p ReflectliteValue.flagAddr).run Tryz.prog w = .ok (.agg #[.pointer (some ⟨17, 119, none⟩), .pointer (some p), .int .u64 406]) w := by kernel_rfl
theorem named_elemV (a p : Addr) (W : World) (ha : W.cell? a = some (.pointer (some p))) :
  (ReflectliteValue.method (ReflectliteValue.valueError "reflectlite.Value.Elem" 0) ReflectliteValue.elem #[.agg #[.pointer (some ⟨17, 120, none⟩), .pointer (some a), .int .u64 150]]).run Tryz.prog W = .ok (.agg #[.pointer (some ⟨17, 119, none⟩), .pointer (some p), .int .u64 406]) W := by
 rw [rlm]
 simp only [Sem.run_bind, named_partsP, Result.andThen]
 simp [ReflectliteValue.elem, loadVar, isAgg, underlying, Tryz.underlying120, ha, Result.andThen, named_elemOf, named_mk]
theorem named_partsA (a : Addr) (w : World) : (ReflectliteValue.parts (.agg #[.pointer (some ⟨17, 119, none⟩), .pointer (some a), .int .u64 406])).run Tryz.prog w = .ok (some (119, a, 406)) w := by kernel_rfl
theorem named_parts (a : Addr) (w : World) : (ReflectliteValue.parts (.agg #[.pointer (some ⟨17, 119, none⟩), .pointer (some a), .int .u64 150])).run Tryz.prog w = .ok (some (119, a, 150)) w := by kernel_rfl
theorem named_direct (w : World) : (Rtype.directlyAssignable 119 119).run Tryz.prog w = .ok true w := by kernel_rfl
theorem named_set (ta b e : Addr) (old : Value) (W : World) (hb : W.cell? b = some (.pointer (some e))) (ht : W.cell? ta = some old) (hf : W.frozen? ta = false) :
  (ReflectliteValue.set #[.agg #[.pointer (some ⟨17, 119, none⟩), .pointer (some ta), .int .u64 406], .agg #[.pointer (some ⟨17, 119, none⟩), .pointer (some b), .int .u64 150]]).run Tryz.prog W = .ok (.tuple #[]) (W.setCell ta (.pointer (some e))) := by
 have hsz : ∀ w, (sizeOf 119 : Sem Nat).run Tryz.prog w = .ok 1 w := fun w => by kernel_rfl
 rw [rls]
 simp only [Sem.run_bind, named_partsA, named_parts, Result.andThen]
 simp [ReflectliteValue.flagAddr, loadVar, isAgg, underlying, Tryz.underlying119, hb, Result.andThen, named_direct, storeVar, Value.cells, storeCells, Addr.add, hsz]
 rw [run_store Tryz.prog W ta _ _ (by rfl)]
 simp [ht, hf]
theorem named_assignE (w : World) : (ReflectliteType.relation "AssignableTo" ReflectliteType.assignableTo #[.agg #[.pointer (some ⟨17, 220, none⟩)], .iface 184 (.agg #[.pointer (some ⟨17, 119, none⟩)])]).run Tryz.prog w = .ok (.bool false) w := by kernel_rfl
theorem ruled_noAs (v : Value) (xT : TypeId) (w : World) : (Instr.typeAssert (.iface 124 v) xT 188 true).run Tryz.prog w = .ok (.tuple #[.nilIface, .bool false]) w := run_typeAssert_lacksB Tryz.underlying188 (by kernel_rfl) (by kernel_rfl) v xT w
theorem ruled_valueOfP (t : Addr) (w : World) : (ReflectliteValue.unpack (.iface 125 (.pointer (some t)))).run Tryz.prog w = .ok (.agg #[.pointer (some ⟨17, 125, none⟩), .pointer (some ⟨w.heap.size, 0, none⟩), .int .u64 150]) (w.alloc (.cells #[.pointer (some t)] 125)) := by kernel_rfl
theorem ruled_type (a : Addr) (w : World) : (ReflectliteValue.methodAny (ReflectliteValue.valueError "reflectlite.Value.Type" 0) (fun t _ _ _ => ReflectliteType.toType t) #[.agg #[.pointer (some ⟨17, 125, none⟩), .pointer (some a), .int .u64 150]]).run Tryz.prog w = .ok (.iface 184 (.agg #[.pointer (some ⟨17, 125, none⟩)])) w := by kernel_rfl
theorem ruled_kindP (w : World) : ((ReflectliteType.abiMethod fun t => (fun a : Nat => Value.int IntKind.u8 (a : Int)) <$> Rtype.kind t) #[.pointer (some ⟨17, 125, none⟩)]).run Tryz.prog w = .ok (.int .u8 22) w := by kernel_rfl
theorem ruled_kind (w : World) : ((ReflectliteType.abiMethod fun t => (fun a : Nat => Value.int IntKind.u8 (a : Int)) <$> Rtype.kind t) #[.pointer (some ⟨17, 124, none⟩)]).run Tryz.prog w = .ok (.int .u8 22) w := by kernel_rfl
theorem ruled_partsP (a : Addr) (w : World) : (ReflectliteValue.parts (.agg #[.pointer (some ⟨17, 125, none⟩), .pointer (some a), .int .u64 150])).run Tryz.prog w = .ok (some (125, a, 150)) w := by kernel_rfl
theorem ruled_isNil (a p : Addr) (W : World) (ha : W.cell? a = some (.pointer (some p))) :
  (ReflectliteValue.method (ReflectliteValue.valueError "reflectlite.Value.IsNil" 0) ReflectliteValue.isNil #[.agg #[.pointer (some ⟨17, 125, none⟩), .pointer (some a), .int .u64 150]]).run Tryz.prog W = .ok (.bool false) W := by
 rw [rlm]
 simp only [Sem.run_bind, ruled_partsP, Result.andThen]
 simp [ReflectliteValue.isNil, loadVar, isAgg, underlying, Tryz.underlying125, ha, Result.andThen]
theorem ruled_elemT (w : World) : (ReflectliteType.method ReflectliteType.elem #[.agg #[.pointer (some ⟨17, 125, none⟩)]]).run Tryz.prog w = .ok (.iface 184 (.agg #[.pointer (some ⟨17, 124, none⟩)])) w := by kernel_rfl
theorem ruled_impl (w : World) : (ReflectliteType.relation "Implements" ReflectliteType.implements_ #[.agg #[.pointer (some ⟨17, 124, none⟩)], .iface 184 (.agg #[.pointer (some ⟨17, 41, none⟩)])]).run Tryz.prog w = .ok (.bool true) w := by kernel_rfl
theorem ruled_typeOf (v : Value) (w : World) : (ReflectliteType.typeOf #[.iface 124 v]).run Tryz.prog w = .ok (.iface 184 (.agg #[.pointer (some ⟨17, 124, none⟩)])) w := by kernel_rfl
theorem ruled_valueOf (e : Addr) (w : World) : (ReflectliteValue.unpack (.iface 124 (.pointer (some e)))).run Tryz.prog w = .ok (.agg #[.pointer (some ⟨17, 124, none⟩), .pointer (some ⟨w.heap.size, 0, none⟩), .int .u64 150]) (w.alloc (.cells #[.pointer (some e)] 124)) := by kernel_rfl
theorem ruled_elemOf (w : World) : (Rtype.elem? 125).run Tryz.prog w = .ok (some 124) w := by kernel_rfl
theorem ruled_mk (p : Addr) (w : World) : (ReflectliteValue.mk 124 p ReflectliteValue.flagAddr).run Tryz.prog w = .ok (.agg #[.pointer (some ⟨17, 124, none⟩), .pointer (some p), .int .u64 406]) w := by kernel_rfl
theorem ruled_elemV (a p : Addr) (W : World) (ha : W.cell? a = some (.pointer (some p))) :
  (ReflectliteValue.method (ReflectliteValue.valueError "reflectlite.Value.Elem" 0) ReflectliteValue.elem #[.agg #[.pointer (some ⟨17, 125, none⟩), .pointer (some a), .int .u64 150]]).run Tryz.prog W = .ok (.agg #[.pointer (some ⟨17, 124, none⟩), .pointer (some p), .int .u64 406]) W := by
 rw [rlm]
 simp only [Sem.run_bind, ruled_partsP, Result.andThen]
 simp [ReflectliteValue.elem, loadVar, isAgg, underlying, Tryz.underlying125, ha, Result.andThen, ruled_elemOf, ruled_mk]
theorem ruled_partsA (a : Addr) (w : World) : (ReflectliteValue.parts (.agg #[.pointer (some ⟨17, 124, none⟩), .pointer (some a), .int .u64 406])).run Tryz.prog w = .ok (some (124, a, 406)) w := by kernel_rfl
theorem ruled_parts (a : Addr) (w : World) : (ReflectliteValue.parts (.agg #[.pointer (some ⟨17, 124, none⟩), .pointer (some a), .int .u64 150])).run Tryz.prog w = .ok (some (124, a, 150)) w := by kernel_rfl
theorem ruled_direct (w : World) : (Rtype.directlyAssignable 124 124).run Tryz.prog w = .ok true w := by kernel_rfl
theorem ruled_set (ta b e : Addr) (old : Value) (W : World) (hb : W.cell? b = some (.pointer (some e))) (ht : W.cell? ta = some old) (hf : W.frozen? ta = false) :
  (ReflectliteValue.set #[.agg #[.pointer (some ⟨17, 124, none⟩), .pointer (some ta), .int .u64 406], .agg #[.pointer (some ⟨17, 124, none⟩), .pointer (some b), .int .u64 150]]).run Tryz.prog W = .ok (.tuple #[]) (W.setCell ta (.pointer (some e))) := by
 have hsz : ∀ w, (sizeOf 124 : Sem Nat).run Tryz.prog w = .ok 1 w := fun w => by kernel_rfl
 rw [rls]
 simp only [Sem.run_bind, ruled_partsA, ruled_parts, Result.andThen]
 simp [ReflectliteValue.flagAddr, loadVar, isAgg, underlying, Tryz.underlying124, hb, Result.andThen, ruled_direct, storeVar, Value.cells, storeCells, Addr.add, hsz]
 rw [run_store Tryz.prog W ta _ _ (by rfl)]
 simp [ht, hf]
theorem ruled_assignE (w : World) : (ReflectliteType.relation "AssignableTo" ReflectliteType.assignableTo #[.agg #[.pointer (some ⟨17, 220, none⟩)], .iface 184 (.agg #[.pointer (some ⟨17, 124, none⟩)])]).run Tryz.prog w = .ok (.bool false) w := by kernel_rfl
theorem staged_noAs (v : Value) (xT : TypeId) (w : World) : (Instr.typeAssert (.iface 128 v) xT 188 true).run Tryz.prog w = .ok (.tuple #[.nilIface, .bool false]) w := run_typeAssert_lacksB Tryz.underlying188 (by kernel_rfl) (by kernel_rfl) v xT w
theorem staged_valueOfP (t : Addr) (w : World) : (ReflectliteValue.unpack (.iface 129 (.pointer (some t)))).run Tryz.prog w = .ok (.agg #[.pointer (some ⟨17, 129, none⟩), .pointer (some ⟨w.heap.size, 0, none⟩), .int .u64 150]) (w.alloc (.cells #[.pointer (some t)] 129)) := by kernel_rfl
theorem staged_type (a : Addr) (w : World) : (ReflectliteValue.methodAny (ReflectliteValue.valueError "reflectlite.Value.Type" 0) (fun t _ _ _ => ReflectliteType.toType t) #[.agg #[.pointer (some ⟨17, 129, none⟩), .pointer (some a), .int .u64 150]]).run Tryz.prog w = .ok (.iface 184 (.agg #[.pointer (some ⟨17, 129, none⟩)])) w := by kernel_rfl
theorem staged_kindP (w : World) : ((ReflectliteType.abiMethod fun t => (fun a : Nat => Value.int IntKind.u8 (a : Int)) <$> Rtype.kind t) #[.pointer (some ⟨17, 129, none⟩)]).run Tryz.prog w = .ok (.int .u8 22) w := by kernel_rfl
theorem staged_kind (w : World) : ((ReflectliteType.abiMethod fun t => (fun a : Nat => Value.int IntKind.u8 (a : Int)) <$> Rtype.kind t) #[.pointer (some ⟨17, 128, none⟩)]).run Tryz.prog w = .ok (.int .u8 22) w := by kernel_rfl
theorem staged_partsP (a : Addr) (w : World) : (ReflectliteValue.parts (.agg #[.pointer (some ⟨17, 129, none⟩), .pointer (some a), .int .u64 150])).run Tryz.prog w = .ok (some (129, a, 150)) w := by kernel_rfl
theorem staged_isNil (a p : Addr) (W : World) (ha : W.cell? a = some (.pointer (some p))) :
  (ReflectliteValue.method (ReflectliteValue.valueError "reflectlite.Value.IsNil" 0) ReflectliteValue.isNil #[.agg #[.pointer (some ⟨17, 129, none⟩), .pointer (some a), .int .u64 150]]).run Tryz.prog W = .ok (.bool false) W := by
 rw [rlm]
 simp only [Sem.run_bind, staged_partsP, Result.andThen]
 simp [ReflectliteValue.isNil, loadVar, isAgg, underlying, Tryz.underlying129, ha, Result.andThen]
theorem staged_elemT (w : World) : (ReflectliteType.method ReflectliteType.elem #[.agg #[.pointer (some ⟨17, 129, none⟩)]]).run Tryz.prog w = .ok (.iface 184 (.agg #[.pointer (some ⟨17, 128, none⟩)])) w := by kernel_rfl
theorem staged_impl (w : World) : (ReflectliteType.relation "Implements" ReflectliteType.implements_ #[.agg #[.pointer (some ⟨17, 128, none⟩)], .iface 184 (.agg #[.pointer (some ⟨17, 41, none⟩)])]).run Tryz.prog w = .ok (.bool true) w := by kernel_rfl
theorem staged_typeOf (v : Value) (w : World) : (ReflectliteType.typeOf #[.iface 128 v]).run Tryz.prog w = .ok (.iface 184 (.agg #[.pointer (some ⟨17, 128, none⟩)])) w := by kernel_rfl
theorem staged_valueOf (e : Addr) (w : World) : (ReflectliteValue.unpack (.iface 128 (.pointer (some e)))).run Tryz.prog w = .ok (.agg #[.pointer (some ⟨17, 128, none⟩), .pointer (some ⟨w.heap.size, 0, none⟩), .int .u64 150]) (w.alloc (.cells #[.pointer (some e)] 128)) := by kernel_rfl
theorem staged_elemOf (w : World) : (Rtype.elem? 129).run Tryz.prog w = .ok (some 128) w := by kernel_rfl
theorem staged_mk (p : Addr) (w : World) : (ReflectliteValue.mk 128 p ReflectliteValue.flagAddr).run Tryz.prog w = .ok (.agg #[.pointer (some ⟨17, 128, none⟩), .pointer (some p), .int .u64 406]) w := by kernel_rfl
theorem staged_elemV (a p : Addr) (W : World) (ha : W.cell? a = some (.pointer (some p))) :
  (ReflectliteValue.method (ReflectliteValue.valueError "reflectlite.Value.Elem" 0) ReflectliteValue.elem #[.agg #[.pointer (some ⟨17, 129, none⟩), .pointer (some a), .int .u64 150]]).run Tryz.prog W = .ok (.agg #[.pointer (some ⟨17, 128, none⟩), .pointer (some p), .int .u64 406]) W := by
 rw [rlm]
 simp only [Sem.run_bind, staged_partsP, Result.andThen]
 simp [ReflectliteValue.elem, loadVar, isAgg, underlying, Tryz.underlying129, ha, Result.andThen, staged_elemOf, staged_mk]
theorem staged_partsA (a : Addr) (w : World) : (ReflectliteValue.parts (.agg #[.pointer (some ⟨17, 128, none⟩), .pointer (some a), .int .u64 406])).run Tryz.prog w = .ok (some (128, a, 406)) w := by kernel_rfl
theorem staged_parts (a : Addr) (w : World) : (ReflectliteValue.parts (.agg #[.pointer (some ⟨17, 128, none⟩), .pointer (some a), .int .u64 150])).run Tryz.prog w = .ok (some (128, a, 150)) w := by kernel_rfl
theorem staged_direct (w : World) : (Rtype.directlyAssignable 128 128).run Tryz.prog w = .ok true w := by kernel_rfl
theorem staged_set (ta b e : Addr) (old : Value) (W : World) (hb : W.cell? b = some (.pointer (some e))) (ht : W.cell? ta = some old) (hf : W.frozen? ta = false) :
  (ReflectliteValue.set #[.agg #[.pointer (some ⟨17, 128, none⟩), .pointer (some ta), .int .u64 406], .agg #[.pointer (some ⟨17, 128, none⟩), .pointer (some b), .int .u64 150]]).run Tryz.prog W = .ok (.tuple #[]) (W.setCell ta (.pointer (some e))) := by
 have hsz : ∀ w, (sizeOf 128 : Sem Nat).run Tryz.prog w = .ok 1 w := fun w => by kernel_rfl
 rw [rls]
 simp only [Sem.run_bind, staged_partsA, staged_parts, Result.andThen]
 simp [ReflectliteValue.flagAddr, loadVar, isAgg, underlying, Tryz.underlying128, hb, Result.andThen, staged_direct, storeVar, Value.cells, storeCells, Addr.add, hsz]
 rw [run_store Tryz.prog W ta _ _ (by rfl)]
 simp [ht, hf]
theorem staged_assignE (w : World) : (ReflectliteType.relation "AssignableTo" ReflectliteType.assignableTo #[.agg #[.pointer (some ⟨17, 220, none⟩)], .iface 184 (.agg #[.pointer (some ⟨17, 128, none⟩)])]).run Tryz.prog w = .ok (.bool false) w := by kernel_rfl
theorem assign_placed_placed (w : World) : (ReflectliteType.relation "AssignableTo" ReflectliteType.assignableTo #[.agg #[.pointer (some ⟨17, 114, none⟩)], .iface 184 (.agg #[.pointer (some ⟨17, 114, none⟩)])]).run Tryz.prog w = .ok (.bool true) w := by kernel_rfl
theorem assign_placed_named (w : World) : (ReflectliteType.relation "AssignableTo" ReflectliteType.assignableTo #[.agg #[.pointer (some ⟨17, 114, none⟩)], .iface 184 (.agg #[.pointer (some ⟨17, 119, none⟩)])]).run Tryz.prog w = .ok (.bool false) w := by kernel_rfl
theorem assign_placed_ruled (w : World) : (ReflectliteType.relation "AssignableTo" ReflectliteType.assignableTo #[.agg #[.pointer (some ⟨17, 114, none⟩)], .iface 184 (.agg #[.pointer (some ⟨17, 124, none⟩)])]).run Tryz.prog w = .ok (.bool false) w := by kernel_rfl
theorem assign_placed_staged (w : World) : (ReflectliteType.relation "AssignableTo" ReflectliteType.assignableTo #[.agg #[.pointer (some ⟨17, 114, none⟩)], .iface 184 (.agg #[.pointer (some ⟨17, 128, none⟩)])]).run Tryz.prog w = .ok (.bool false) w := by kernel_rfl
theorem assign_named_placed (w : World) : (ReflectliteType.relation "AssignableTo" ReflectliteType.assignableTo #[.agg #[.pointer (some ⟨17, 119, none⟩)], .iface 184 (.agg #[.pointer (some ⟨17, 114, none⟩)])]).run Tryz.prog w = .ok (.bool false) w := by kernel_rfl
theorem assign_named_named (w : World) : (ReflectliteType.relation "AssignableTo" ReflectliteType.assignableTo #[.agg #[.pointer (some ⟨17, 119, none⟩)], .iface 184 (.agg #[.pointer (some ⟨17, 119, none⟩)])]).run Tryz.prog w = .ok (.bool true) w := by kernel_rfl
theorem assign_named_ruled (w : World) : (ReflectliteType.relation "AssignableTo" ReflectliteType.assignableTo #[.agg #[.pointer (some ⟨17, 119, none⟩)], .iface 184 (.agg #[.pointer (some ⟨17, 124, none⟩)])]).run Tryz.prog w = .ok (.bool false) w := by kernel_rfl
theorem assign_named_staged (w : World) : (ReflectliteType.relation "AssignableTo" ReflectliteType.assignableTo #[.agg #[.pointer (some ⟨17, 119, none⟩)], .iface 184 (.agg #[.pointer (some ⟨17, 128, none⟩)])]).run Tryz.prog w = .ok (.bool false) w := by kernel_rfl
theorem assign_ruled_placed (w : World) : (ReflectliteType.relation "AssignableTo" ReflectliteType.assignableTo #[.agg #[.pointer (some ⟨17, 124, none⟩)], .iface 184 (.agg #[.pointer (some ⟨17, 114, none⟩)])]).run Tryz.prog w = .ok (.bool false) w := by kernel_rfl
theorem assign_ruled_named (w : World) : (ReflectliteType.relation "AssignableTo" ReflectliteType.assignableTo #[.agg #[.pointer (some ⟨17, 124, none⟩)], .iface 184 (.agg #[.pointer (some ⟨17, 119, none⟩)])]).run Tryz.prog w = .ok (.bool false) w := by kernel_rfl
theorem assign_ruled_ruled (w : World) : (ReflectliteType.relation "AssignableTo" ReflectliteType.assignableTo #[.agg #[.pointer (some ⟨17, 124, none⟩)], .iface 184 (.agg #[.pointer (some ⟨17, 124, none⟩)])]).run Tryz.prog w = .ok (.bool true) w := by kernel_rfl
theorem assign_ruled_staged (w : World) : (ReflectliteType.relation "AssignableTo" ReflectliteType.assignableTo #[.agg #[.pointer (some ⟨17, 124, none⟩)], .iface 184 (.agg #[.pointer (some ⟨17, 128, none⟩)])]).run Tryz.prog w = .ok (.bool false) w := by kernel_rfl
theorem assign_staged_placed (w : World) : (ReflectliteType.relation "AssignableTo" ReflectliteType.assignableTo #[.agg #[.pointer (some ⟨17, 128, none⟩)], .iface 184 (.agg #[.pointer (some ⟨17, 114, none⟩)])]).run Tryz.prog w = .ok (.bool false) w := by kernel_rfl
theorem assign_staged_named (w : World) : (ReflectliteType.relation "AssignableTo" ReflectliteType.assignableTo #[.agg #[.pointer (some ⟨17, 128, none⟩)], .iface 184 (.agg #[.pointer (some ⟨17, 119, none⟩)])]).run Tryz.prog w = .ok (.bool false) w := by kernel_rfl
theorem assign_staged_ruled (w : World) : (ReflectliteType.relation "AssignableTo" ReflectliteType.assignableTo #[.agg #[.pointer (some ⟨17, 128, none⟩)], .iface 184 (.agg #[.pointer (some ⟨17, 124, none⟩)])]).run Tryz.prog w = .ok (.bool false) w := by kernel_rfl
theorem assign_staged_staged (w : World) : (ReflectliteType.relation "AssignableTo" ReflectliteType.assignableTo #[.agg #[.pointer (some ⟨17, 128, none⟩)], .iface 184 (.agg #[.pointer (some ⟨17, 128, none⟩)])]).run Tryz.prog w = .ok (.bool true) w := by kernel_rfl
end Go.Proofs.YtkkopdmemjncdaaGreatDoor
